/- num.Floor. -/
import Derived.Test.YtigoofeodbbbhaaDoorNum7
namespace Go.Proofs.YtigoofeodbbbhaaDoor
open Go.RowKit Go.Proofs.YtigoofeodbbbhaaDoorL Go.Proofs.YtigoofeodbbbhaaDoorM
set_option linter.unusedVariables false
set_option linter.unusedSimpArgs false
/-- are quotient and rest to be moved by one? -/
def flo (y z : Int) : Bool := !decide (y.tmod z = 0) && (decide (y.tmod z < 0) != decide (z < 0))
def floQ (y z : Int) : Int := if flo y z then y.tdiv z - 1 else y.tdiv z
def floR (y z : Int) : Int := if flo y z then y.tmod z + z else y.tmod z
theorem lim_sl {base : Nat} {w : World} {A : Option Addr} {c : Nat} {E : List Nat} {V : Nat} (o : Ow encU 1 62 base w (.slice A E.length c) E) (hE : E = digB 4294967296 V) (hc : E.length ≤ c) (hm : E.length ≤ 274877906942) : Lim w A c E :=
  ⟨o.rd lenU, by rw [hE]; exact digB_lt _ (by omega) _, hc, o.none, Nat.le_trans hm (by omega)⟩
theorem one_len {E : List Nat} (hE : E = digB 4294967296 (-1 : Int).natAbs) : E.length ≤ 274877906942 := by
  have : E = [1] := by rw [hE]; rw [show (-1 : Int).natAbs = 1 from rfl, digB_pos _ _ (by omega) (by omega)]; simp [digB_zero]
  rw [this]; simp
theorem lim_one {base : Nat} {w : World} {A : Option Addr} {c : Nat} {E : List Nat} (o : Ow encU 1 62 base w (.slice A E.length c) E) (hE : E = digB 4294967296 (-1 : Int).natAbs) (hc : E.length ≤ c) : Lim w A c E := lim_sl o hE hc (one_len hE)
theorem two_limN {w : World} {x y : LN} (h : LimN w x) (k : LimN w y) : ∀ z ∈ [x, y], LimN w z := fun z hz => by
  simp only [List.mem_cons, List.not_mem_nil, or_false] at hz
  rcases hz with rfl | rfl
  · exact h
  · exact k
theorem two_len {K : Nat} {x y : LN} (h : x.mag.length ≤ K) (k : y.mag.length ≤ K) : ∀ z ∈ [x, y], z.mag.length ≤ K := fun z hz => by
  simp only [List.mem_cons, List.not_mem_nil, or_false] at hz
  rcases hz with rfl | rfl
  · exact h
  · exact k
theorem zN_told {b : Bool} {z : Int} {A : Option Addr} {c : Nat} {E : List Nat} (hb : b = decide (z < 0)) (hE : E = digB 4294967296 z.natAbs) : zN ⟨b, A, c, E⟩ = z := by
  rw [zN, hE, hb]
  show sval (decide (z < 0)) (valB 4294967296 (digB 4294967296 z.natAbs)) = z
  rw [digB_val _ (by omega), sval_of]
set_option maxRecDepth 16000 in
set_option maxHeartbeats 8000000 in
theorem floor_any (l m : List Nat) (n1 n2 : Bool) (A A2 : Option Addr) (c c2 : Nat) (w : World) (h : Lim w A c l) (h2 : Lim w A2 c2 m) (hll : l.length ≤ 274877906942) (hml : m.length ≤ 274877906942) (h0 : 0 < valB 4294967296 m)
    (HD : ∀ w1, Below w.heap.size w w1 → Calls Tryd.prog 50 #[.slice A l.length c, .slice A2 m.length c2] w1 (Gives w1 fun v w' => DivTo w1.heap.size w' v (valB 4294967296 l) (valB 4294967296 m))) :
    Calls Tryd.prog 23 #[.agg #[.bool n1, .slice A l.length c], .agg #[.bool n2, .slice A2 m.length c2]] w (Gives w fun v w' => ∃ q r, v = .tuple #[q, r, .bool true] ∧ Told w.heap.size w' q (floQ (sval n1 (valB 4294967296 l)) (sval n2 (valB 4294967296 m))) ∧ Told w.heap.size w' r (floR (sval n1 (valB 4294967296 l)) (sval n2 (valB 4294967296 m)))) := by
  have HTR := As.mk (fun w1 (hb : Below w.heap.size w w1) => truncate_any l m n1 n2 A A2 c c2 w1 (h.below hb) (h2.below hb) ⟨fun w2 hb2 => HD w2 (bthen hb hb2)⟩)
  have hy := Sm.of n1 l h.lt
  have hn2 : n2 = decide (sval n2 (valB 4294967296 m) < 0) := by rw [sval_lt]; simp [h0]
  obtain ⟨y, hye⟩ : ∃ y, y = sval n1 (valB 4294967296 l) := ⟨_, rfl⟩
  obtain ⟨z, hze⟩ : ∃ z, z = sval n2 (valB 4294967296 m) := ⟨_, rfl⟩
  have Hzm : As (∀ A c, zN ⟨n2, A, c, m⟩ = z) := ⟨fun A c => by rw [hze]; rfl⟩
  rw [← hye, ← hze] at HTR ⊢
  rw [← hye] at hy
  rw [← hze] at hn2
  have hql : (digB 4294967296 (y.tdiv z).natAbs).length ≤ 274877906942 := Nat.le_trans (digB_mono8 _ (by omega) (by rw [Int.natAbs_tdiv]; exact Nat.div_le_self _ _)) (Nat.le_trans hy.len hll)
  have hrl : (digB 4294967296 (y.tmod z).natAbs).length ≤ 274877906942 := Nat.le_trans (digB_mono8 _ (by omega) (by rw [Int.natAbs_tmod]; exact Nat.mod_le _ _)) (Nat.le_trans hy.len hll)
  obtain ⟨Q, hQ⟩ : ∃ Q, Q = y.tdiv z := ⟨_, rfl⟩
  obtain ⟨R, hR⟩ : ∃ R, R = y.tmod z := ⟨_, rfl⟩
  rw [← hQ] at HTR hql
  rw [← hR] at HTR hrl
  have Hsz : As ((Tryd.prog.info? 26).map (·.size) = some 2) := ⟨by kernel_rfl⟩
  have HV5 : As (∀ E : List Nat, E = digB 4294967296 R.natAbs → decide (valB 4294967296 E = 0) = decide (R = 0)) := ⟨fun E hE => by rw [hE, digB_val _ (by omega)]; simp [Int.natAbs_eq_zero]⟩
  obtain ⟨qb, hqb⟩ : ∃ qb, qb = decide (Q < 0) := ⟨_, rfl⟩
  obtain ⟨rb, hrb⟩ : ∃ rb, rb = decide (R < 0) := ⟨_, rfl⟩
  have Hqb := As.mk hqb
  have Hrb := As.mk hrb
  by_cases hR0 : R = 0
  · have HZQ : As (floQ y z = Q ∧ floR y z = R) := ⟨by rw [floQ, floR, flo, ← hR, hR0]; simp [hQ]⟩
    have zR : decide (R = 0) = true := decide_eq_true hR0
    obtain ⟨dz, hdz⟩ : ∃ dz, dz = decide (R = 0) := ⟨_, rfl⟩
    simp only [← hdz] at HV5
    obtain rfl : dz = true := hdz.trans zR
    clear hye hze hy hn2 hQ hR hqb hrb hR0 zR hdz h0 HD
    go_enter Tryd.func23, Tryd.ntmps23
    go_wp2_with (first
      | ((with_reducible refine g_dst 2 ?_); go_must (refine ev_box 2 rfl (cs := [.bool n1, .slice A l.length c]) (by rfl) ?_); intro g2 w2 hb2 B2 hg2)
      | ((with_reducible refine g_dst 3 ?_); go_must (refine ev_box 3 rfl (cs := [.bool n2, .slice A2 m.length c2]) (by rfl) ?_); intro g3 w3 hb3 B3 hg3; replace B2 := B2.below hb3; replace hb3 := bthen hb2 hb3)
      | ((with_reducible refine g_dst 4 ?_); go_must (refine ev_alloc 4 rfl infoNum (cs := [.bool false, .slice none 0 0]) rfl ?_); intro g4 w4 hb4 B4 hg4; have hne34 : g3 ≠ g4 := Nat.ne_of_lt (Nat.lt_of_lt_of_le B3.lt hg4); replace B2 := B2.below hb4; replace B3 := B3.below hb4; replace hg4 := Nat.le_trans hb3.size hg4; replace hb4 := bthen hb3 hb4)
      | ((with_reducible refine g_dst 5 ?_); go_must (refine ev_alloc 5 rfl infoNum (cs := [.bool false, .slice none 0 0]) rfl ?_); intro g5 w5 hb5 B5 hg5; have hne54 : g5 ≠ g4 := Nat.ne_of_gt (Nat.lt_of_lt_of_le B4.lt hg5); have hne35 : g3 ≠ g5 := Nat.ne_of_lt (Nat.lt_of_lt_of_le B3.lt hg5); replace B2 := B2.below hb5; replace B3 := B3.below hb5; replace B4 := B4.below hb5; have C2 := B2.cells; have C3 := B3.cells; have l4w := B4.lt; have l5w := B5.lt; replace hg5 := Nat.le_trans hb4.size hg5; replace hb5 := bthen hb4 hb5)
      | (go_at_call 20; (with_reducible refine (HTR.out _ hb5).mono ?_); rintro e w6 ⟨v6, rfl, ⟨q6, r6, rfl, htq, htr⟩, hb6⟩; obtain ⟨A4, c4, E4, rfl, oq, HE4, h41⟩ := told_sl htq; obtain ⟨A5, c5, E5, rfl, orr, HE5, h51⟩ := told_sl htr; rw [← Hqb.out, ← Hrb.out]; have hE4 : E4.length ≤ 274877906942 := (by rw [HE4.out]; exact hql); have hE5 : E5.length ≤ 274877906942 := (by rw [HE5.out]; exact hrl); clear htq htr; replace B3 := B3.below hb6; replace B4 := B4.below hb6; replace B5 := B5.below hb6; clear C2 C3 B2; have hb56 := hb6; replace hb6 := bthen hb5 hb6)
      | ((with_reducible refine g_store 4 ?_); go_must (refine ev_store rfl rfl B4 (news := [.bool qb, .slice A4 E4.length c4]) (by rfl) infoNum (by simp) (by simp [Value.oneCell']) ?_); intro w7 ho7 B47; simp only [List.take_zero, List.nil_append, List.length_cons, List.length_nil, List.drop_succ_cons, List.drop_zero, List.append_nil, List.cons_append] at B47; have B57 := B5.only ho7 hne54; replace B3 := B3.only ho7 hne34; replace oq := ow_only oq ho7 l4w (Nat.le_refl _); replace orr := ow_only orr ho7 l4w (Nat.le_refl _); have hb7 := hb6.trans (ho7.below hg4); clear B4 B5)
      | ((with_reducible refine g_store 5 ?_); go_must (refine ev_store rfl rfl B57 (news := [.bool rb, .slice A5 E5.length c5]) (by rfl) infoNum (by simp) (by simp [Value.oneCell']) ?_); intro w8 ho8 B5; simp only [List.take_zero, List.nil_append, List.length_cons, List.length_nil, List.drop_succ_cons, List.drop_zero, List.append_nil, List.cons_append] at B5; have B4 := B47.only ho8 (Ne.symm hne54); replace B3 := B3.only ho8 hne35; replace oq := ow_only oq ho8 l5w (Nat.le_refl _); replace orr := ow_only orr ho8 l5w (Nat.le_refl _); have hb8 := hb7.trans (ho8.below hg5); have C5 := B5.cells; have hl4 := B4.lt; have hl5 := B5.lt; clear B47 B57)
      | (go_at_call 47; (with_reducible refine (numOf_any rb A5 E5.length c5 _).mono ?_); rintro e w9 ⟨v9, rfl, rfl, hb9⟩; replace B3 := B3.below hb9; replace B4 := B4.below hb9; replace B5 := B5.below hb9; replace oq := oq.below hb9; replace orr := orr.below hb9; clear C5; replace hl4 := Nat.lt_of_lt_of_le hl4 hb9.size; replace hl5 := Nat.lt_of_lt_of_le hl5 hb9.size; replace hb9 := bthen hb8 hb9)
      | ((with_reducible refine g_dst 7 ?_); go_must (refine ev_alloc 7 rfl infoNm (cs := [.slice none 0 0, .bool false]) rfl ?_); intro g7 w10 hb10 B7 hg7)
      | ((with_reducible refine g_store 7 ?_); go_must (refine ev_store rfl rfl B7 (news := [.slice A5 E5.length c5, .bool rb]) (by rfl) infoNm (by simp) (by simp [Value.oneCell']) ?_); intro w11 ho11 B711; simp only [List.take_zero, List.nil_append, List.length_cons, List.length_nil, List.drop_succ_cons, List.drop_zero, List.append_nil, List.cons_append] at B711; have hb911 := hb10.trans (ho11.below hg7); replace B3 := B3.below hb911; replace B4 := B4.below hb911; replace B5 := B5.below hb911; replace oq := oq.below hb911; replace orr := orr.below hb911; have C3 := B3.cells; have C7 := B711.cells; replace hl4 := Nat.lt_of_lt_of_le hl4 hb911.size; replace hl5 := Nat.lt_of_lt_of_le hl5 hb911.size; have hlr : Lim w11 A5 c5 E5 := lim_sl orr HE5.out h51 hE5; have hlq : Lim w11 A4 c4 E4 := lim_sl oq HE4.out h41 hE4; have hb11 := bthen hb9 hb911; clear B7 hb10 hg7 hb911)
      | (go_at_call 55; (with_reducible refine (szero_any E5 A5 c5 _ hlr).mono ?_); rintro e wz ⟨v12, rfl, rfl, hb12⟩; rw [HV5.out E5 HE5.out]; clear C3 C7; replace B711 := B711.below hb12; replace B3 := B3.below hb12; replace B4 := B4.below hb12; replace B5 := B5.below hb12; replace oq := oq.below hb12; replace orr := orr.below hb12; replace hlq := hlq.below hb12; replace hlr := hlr.below hb12; have C3 := B3.cells; have C7 := B711.cells; replace hl4 := Nat.lt_of_lt_of_le hl4 hb12.size; replace hl5 := Nat.lt_of_lt_of_le hl5 hb12.size; have hbw := bthen hb11 hb12))
    clear C3 C7
    have hS : ∀ W, Blk W g4 [.bool qb, .slice A4 E4.length c4] 26 → Blk W g5 [.bool rb, .slice A5 E5.length c5] 26 → W.cell? ⟨g4, 0, none⟩ = some (.bool qb) ∧ W.cell? ⟨g4, 1, none⟩ = some (.slice A4 E4.length c4) ∧ W.cell? ⟨g5, 0, none⟩ = some (.bool rb) ∧ W.cell? ⟨g5, 1, none⟩ = some (.slice A5 E5.length c5) := fun W b1 b2 => ⟨b1.cells 0, b1.cells 1, b2.cells 0, b2.cells 1⟩
    have hS0 := hS _ B4.drew B5.drew
    have HSk := As.mk (hS _ (set2_gen B4 (.bool qb) (.slice A4 E4.length c4)).2.drew (B5.only (set2_gen B4 (.bool qb) (.slice A4 E4.length c4)).1 hne54).drew)
    obtain ⟨hb12, B12, B13, ho12, hs12⟩ := set4_gen (B0 := w.heap.size) hbw hg4 hg5 B4 B5 (Ne.symm hne54) (a := .bool qb) (b := .slice A4 E4.length c4) (c := .bool rb) (d := .slice A5 E5.length c5)
    have HSk2 := As.mk (hS _ B12.drew B13.drew)
    have C4 := B4.cells
    have F4 := B4.free
    have C5 := (B5.only (set2_gen B4 (.bool qb) (.slice A4 E4.length c4)).1 hne54).cells
    have F5 := (B5.only (set2_gen B4 (.bool qb) (.slice A4 E4.length c4)).1 hne54).free
    clear hS
    refine wp_gen (fun Q7 hQ7 => ?_)
    go_region_held3 (fun W => W.cell? ⟨g4, 0, none⟩ = some (.bool qb) ∧ W.cell? ⟨g4, 1, none⟩ = some (.slice A4 E4.length c4) ∧ W.cell? ⟨g5, 0, none⟩ = some (.bool rb) ∧ W.cell? ⟨g5, 1, none⟩ = some (.slice A5 E5.length c5)) (first | assumption | (with_reducible exact HSk.out) | (with_reducible exact HSk2.out)) (fail)
    obtain ⟨rfl⟩ := hQ7
    replace hb12 := hb12.drew
    replace B12 := B12.drew
    replace B13 := B13.drew
    replace ho12 : ∀ j, j ≠ g4 → j ≠ g5 → ((((wz.setCell ⟨g4, 0, none⟩ (.bool qb)).setCell ⟨g4, 1, none⟩ (.slice A4 E4.length c4)).setCell ⟨g5, 0, none⟩ (.bool rb)).setCell ⟨g5, 1, none⟩ (.slice A5 E5.length c5)).drew.heap[j]? = wz.heap[j]? := ho12
    clear hs12
    generalize ((((wz.setCell ⟨g4, 0, none⟩ (.bool qb)).setCell ⟨g4, 1, none⟩ (.slice A4 E4.length c4)).setCell ⟨g5, 0, none⟩ (.bool rb)).setCell ⟨g5, 1, none⟩ (.slice A5 E5.length c5)).drew = w13 at hb12 B12 B13 ho12 ⊢
    clear C4 F4 C5 F5 HSk HSk2 hS0
    go_wp2
    refine bodyPost_ret (results_cct rfl _ _ g4 g5 26 26 #[.bool qb, .slice A4 E4.length c4] #[.bool rb, .slice A5 E5.length c5] (0, 0) (0, 0) _ rfl rfl B12.h B13.h Tryd.underlying26 rfl Hsz.out Hsz.out) rfl ?_
    exact ⟨_, rfl, ⟨_, _, rfl, ⟨.slice A4 E4.length c4, by rw [HZQ.out.1, Hqb.out], by rw [HZQ.out.1, ← HE4.out]; exact ow_others oq ho12 l4w l5w hb5.size⟩, ⟨.slice A5 E5.length c5, by rw [HZQ.out.2, Hrb.out], by rw [HZQ.out.2, ← HE5.out]; exact ow_others orr ho12 l4w l5w hb5.size⟩⟩, hb12⟩
  · have zR : decide (R = 0) = false := decide_eq_false hR0
    obtain ⟨dz, hdz⟩ : ∃ dz, dz = decide (R = 0) := ⟨_, rfl⟩
    simp only [← hdz] at HV5
    obtain rfl : dz = false := hdz.trans zR
    by_cases hs : rb = n2
    · have HZQ : As (floQ y z = Q ∧ floR y z = R) := ⟨by
        have : flo y z = false := by rw [flo, ← hR, ← hn2, ← hrb, hs]; simp
        rw [floQ, floR, this]; simp [hQ, hR]⟩
      have q1 : (rb != n2) = false := by rw [hs]; simp
      have q2 : (!(rb == n2)) = false := by rw [hs]; simp
      have q3 : (!decide (rb = n2)) = false := by rw [hs]; simp
      clear hye hze hy hn2 hQ hR hqb hrb hR0 zR hdz h0 HD hs
      go_enter Tryd.func23, Tryd.ntmps23
      go_wp2_with (first
        | ((with_reducible refine g_dst 2 ?_); go_must (refine ev_box 2 rfl (cs := [.bool n1, .slice A l.length c]) (by rfl) ?_); intro g2 w2 hb2 B2 hg2)
        | ((with_reducible refine g_dst 3 ?_); go_must (refine ev_box 3 rfl (cs := [.bool n2, .slice A2 m.length c2]) (by rfl) ?_); intro g3 w3 hb3 B3 hg3; replace B2 := B2.below hb3; replace hb3 := bthen hb2 hb3)
        | ((with_reducible refine g_dst 4 ?_); go_must (refine ev_alloc 4 rfl infoNum (cs := [.bool false, .slice none 0 0]) rfl ?_); intro g4 w4 hb4 B4 hg4; have hne34 : g3 ≠ g4 := Nat.ne_of_lt (Nat.lt_of_lt_of_le B3.lt hg4); replace B2 := B2.below hb4; replace B3 := B3.below hb4; replace hg4 := Nat.le_trans hb3.size hg4; replace hb4 := bthen hb3 hb4)
        | ((with_reducible refine g_dst 5 ?_); go_must (refine ev_alloc 5 rfl infoNum (cs := [.bool false, .slice none 0 0]) rfl ?_); intro g5 w5 hb5 B5 hg5; have hne54 : g5 ≠ g4 := Nat.ne_of_gt (Nat.lt_of_lt_of_le B4.lt hg5); have hne35 : g3 ≠ g5 := Nat.ne_of_lt (Nat.lt_of_lt_of_le B3.lt hg5); replace B2 := B2.below hb5; replace B3 := B3.below hb5; replace B4 := B4.below hb5; have C2 := B2.cells; have C3 := B3.cells; have l4w := B4.lt; have l5w := B5.lt; replace hg5 := Nat.le_trans hb4.size hg5; replace hb5 := bthen hb4 hb5)
        | (go_at_call 20; (with_reducible refine (HTR.out _ hb5).mono ?_); rintro e w6 ⟨v6, rfl, ⟨q6, r6, rfl, htq, htr⟩, hb6⟩; obtain ⟨A4, c4, E4, rfl, oq, HE4, h41⟩ := told_sl htq; obtain ⟨A5, c5, E5, rfl, orr, HE5, h51⟩ := told_sl htr; rw [← Hqb.out, ← Hrb.out]; have hE4 : E4.length ≤ 274877906942 := (by rw [HE4.out]; exact hql); have hE5 : E5.length ≤ 274877906942 := (by rw [HE5.out]; exact hrl); clear htq htr; replace B3 := B3.below hb6; replace B4 := B4.below hb6; replace B5 := B5.below hb6; clear C2 C3 B2; have hb56 := hb6; replace hb6 := bthen hb5 hb6)
        | ((with_reducible refine g_store 4 ?_); go_must (refine ev_store rfl rfl B4 (news := [.bool qb, .slice A4 E4.length c4]) (by rfl) infoNum (by simp) (by simp [Value.oneCell']) ?_); intro w7 ho7 B47; simp only [List.take_zero, List.nil_append, List.length_cons, List.length_nil, List.drop_succ_cons, List.drop_zero, List.append_nil, List.cons_append] at B47; have B57 := B5.only ho7 hne54; replace B3 := B3.only ho7 hne34; replace oq := ow_only oq ho7 l4w (Nat.le_refl _); replace orr := ow_only orr ho7 l4w (Nat.le_refl _); have hb7 := hb6.trans (ho7.below hg4); clear B4 B5)
        | ((with_reducible refine g_store 5 ?_); go_must (refine ev_store rfl rfl B57 (news := [.bool rb, .slice A5 E5.length c5]) (by rfl) infoNum (by simp) (by simp [Value.oneCell']) ?_); intro w8 ho8 B5; simp only [List.take_zero, List.nil_append, List.length_cons, List.length_nil, List.drop_succ_cons, List.drop_zero, List.append_nil, List.cons_append] at B5; have B4 := B47.only ho8 (Ne.symm hne54); replace B3 := B3.only ho8 hne35; replace oq := ow_only oq ho8 l5w (Nat.le_refl _); replace orr := ow_only orr ho8 l5w (Nat.le_refl _); have hb8 := hb7.trans (ho8.below hg5); have C5 := B5.cells; have hl4 := B4.lt; have hl5 := B5.lt; clear B47 B57)
        | (go_at_call 47; (with_reducible refine (numOf_any rb A5 E5.length c5 _).mono ?_); rintro e w9 ⟨v9, rfl, rfl, hb9⟩; replace B3 := B3.below hb9; replace B4 := B4.below hb9; replace B5 := B5.below hb9; replace oq := oq.below hb9; replace orr := orr.below hb9; clear C5; replace hl4 := Nat.lt_of_lt_of_le hl4 hb9.size; replace hl5 := Nat.lt_of_lt_of_le hl5 hb9.size; replace hb9 := bthen hb8 hb9)
        | ((with_reducible refine g_dst 7 ?_); go_must (refine ev_alloc 7 rfl infoNm (cs := [.slice none 0 0, .bool false]) rfl ?_); intro g7 w10 hb10 B7 hg7)
        | ((with_reducible refine g_store 7 ?_); go_must (refine ev_store rfl rfl B7 (news := [.slice A5 E5.length c5, .bool rb]) (by rfl) infoNm (by simp) (by simp [Value.oneCell']) ?_); intro w11 ho11 B711; simp only [List.take_zero, List.nil_append, List.length_cons, List.length_nil, List.drop_succ_cons, List.drop_zero, List.append_nil, List.cons_append] at B711; have hb911 := hb10.trans (ho11.below hg7); replace B3 := B3.below hb911; replace B4 := B4.below hb911; replace B5 := B5.below hb911; replace oq := oq.below hb911; replace orr := orr.below hb911; have C3 := B3.cells; have C7 := B711.cells; replace hl4 := Nat.lt_of_lt_of_le hl4 hb911.size; replace hl5 := Nat.lt_of_lt_of_le hl5 hb911.size; have hlr : Lim w11 A5 c5 E5 := lim_sl orr HE5.out h51 hE5; have hlq : Lim w11 A4 c4 E4 := lim_sl oq HE4.out h41 hE4; have hb11 := bthen hb9 hb911; clear B7 hb10 hg7 hb911)
        | (go_at_call 55; (with_reducible refine (szero_any E5 A5 c5 _ hlr).mono ?_); rintro e wz ⟨v12, rfl, rfl, hb12⟩; rw [HV5.out E5 HE5.out]; clear C3 C7; replace B711 := B711.below hb12; replace B3 := B3.below hb12; replace B4 := B4.below hb12; replace B5 := B5.below hb12; replace oq := oq.below hb12; replace orr := orr.below hb12; replace hlq := hlq.below hb12; replace hlr := hlr.below hb12; have C3 := B3.cells; have C7 := B711.cells; replace hl4 := Nat.lt_of_lt_of_le hl4 hb12.size; replace hl5 := Nat.lt_of_lt_of_le hl5 hb12.size; have hbw := bthen hb11 hb12))
      clear C3 C7
      have hS : ∀ W, Blk W g4 [.bool qb, .slice A4 E4.length c4] 26 → Blk W g5 [.bool rb, .slice A5 E5.length c5] 26 → W.cell? ⟨g4, 0, none⟩ = some (.bool qb) ∧ W.cell? ⟨g4, 1, none⟩ = some (.slice A4 E4.length c4) ∧ W.cell? ⟨g5, 0, none⟩ = some (.bool rb) ∧ W.cell? ⟨g5, 1, none⟩ = some (.slice A5 E5.length c5) := fun W b1 b2 => ⟨b1.cells 0, b1.cells 1, b2.cells 0, b2.cells 1⟩
      have hS0 := hS _ B4.drew B5.drew
      have HSk := As.mk (hS _ (set2_gen B4 (.bool qb) (.slice A4 E4.length c4)).2.drew (B5.only (set2_gen B4 (.bool qb) (.slice A4 E4.length c4)).1 hne54).drew)
      obtain ⟨hb12, B12, B13, ho12, hs12⟩ := set4_gen (B0 := w.heap.size) hbw hg4 hg5 B4 B5 (Ne.symm hne54) (a := .bool qb) (b := .slice A4 E4.length c4) (c := .bool rb) (d := .slice A5 E5.length c5)
      have HSk2 := As.mk (hS _ B12.drew B13.drew)
      have C4 := B4.cells
      have F4 := B4.free
      have C5 := (B5.only (set2_gen B4 (.bool qb) (.slice A4 E4.length c4)).1 hne54).cells
      have F5 := (B5.only (set2_gen B4 (.bool qb) (.slice A4 E4.length c4)).1 hne54).free
      clear hS
      refine wp_gen (fun Q7 hQ7 => ?_)
      go_region_held3 (fun W => W.cell? ⟨g4, 0, none⟩ = some (.bool qb) ∧ W.cell? ⟨g4, 1, none⟩ = some (.slice A4 E4.length c4) ∧ W.cell? ⟨g5, 0, none⟩ = some (.bool rb) ∧ W.cell? ⟨g5, 1, none⟩ = some (.slice A5 E5.length c5)) (first | assumption | (with_reducible exact HSk.out) | (with_reducible exact HSk2.out)) (fail)
      obtain ⟨rfl⟩ := hQ7
      replace hb12 := hb12.drew
      replace B12 := B12.drew
      replace B13 := B13.drew
      replace ho12 : ∀ j, j ≠ g4 → j ≠ g5 → ((((wz.setCell ⟨g4, 0, none⟩ (.bool qb)).setCell ⟨g4, 1, none⟩ (.slice A4 E4.length c4)).setCell ⟨g5, 0, none⟩ (.bool rb)).setCell ⟨g5, 1, none⟩ (.slice A5 E5.length c5)).drew.heap[j]? = wz.heap[j]? := ho12
      clear hs12
      generalize ((((wz.setCell ⟨g4, 0, none⟩ (.bool qb)).setCell ⟨g4, 1, none⟩ (.slice A4 E4.length c4)).setCell ⟨g5, 0, none⟩ (.bool rb)).setCell ⟨g5, 1, none⟩ (.slice A5 E5.length c5)).drew = w13 at hb12 B12 B13 ho12 ⊢
      clear C4 F4 C5 F5 HSk HSk2 hS0
      go_wp2
      refine bodyPost_ret (results_cct rfl _ _ g4 g5 26 26 #[.bool qb, .slice A4 E4.length c4] #[.bool rb, .slice A5 E5.length c5] (0, 0) (0, 0) _ rfl rfl B12.h B13.h Tryd.underlying26 rfl Hsz.out Hsz.out) rfl ?_
      exact ⟨_, rfl, ⟨_, _, rfl, ⟨.slice A4 E4.length c4, by rw [HZQ.out.1, Hqb.out], by rw [HZQ.out.1, ← HE4.out]; exact ow_others oq ho12 l4w l5w hb5.size⟩, ⟨.slice A5 E5.length c5, by rw [HZQ.out.2, Hrb.out], by rw [HZQ.out.2, ← HE5.out]; exact ow_others orr ho12 l4w l5w hb5.size⟩⟩, hb12⟩
    · obtain ⟨Z3, hZ3⟩ : ∃ Z3, Z3 = Q - 1 := ⟨_, rfl⟩
      obtain ⟨Z7, hZ7⟩ : ∃ Z7, Z7 = R + z := ⟨_, rfl⟩
      have HZQ : As (floQ y z = Z3 ∧ floR y z = Z7) := ⟨by
        have : flo y z = true := by rw [flo, ← hR, ← hn2, ← hrb]; simp [hR0, hs]
        rw [floQ, floR, this]; simp [hQ, hR, hZ3, hZ7]⟩
      have q1 : (rb != n2) = true := by simp [hs]
      have q2 : (!(rb == n2)) = true := by simp [hs]
      have q3 : (!decide (rb = n2)) = true := by simp [hs]
      have HZ3 : As (∀ (A4 : Option Addr) (c4 : Nat) (E4 : List Nat) (A1 : Option Addr) (c1 : Nat) (E1 : List Nat), E4 = digB 4294967296 Q.natAbs → E1 = digB 4294967296 (-1 : Int).natAbs → sumZ (List.map zN [⟨qb, A4, c4, E4⟩, ⟨decide ((-1 : Int) < 0), A1, c1, E1⟩]) = Z3) := ⟨fun A4 c4 E4 A1 c1 E1 h4 h1 => by
        simp only [List.map_cons, List.map_nil, sumZ]
        rw [zN_told hqb h4, zN_told rfl h1, hZ3]; omega⟩
      have HZ7 : As (∀ (A5 : Option Addr) (c5 : Nat) (E5 : List Nat), E5 = digB 4294967296 R.natAbs → sumZ (List.map zN [⟨rb, A5, c5, E5⟩, ⟨n2, A2, c2, m⟩]) = Z7) := ⟨fun A5 c5 E5 h5 => by
        simp only [List.map_cons, List.map_nil, sumZ]
        rw [zN_told hrb h5, Hzm.out, hZ7]; omega⟩
      have Hlb := As.mk h2
      clear hye hze hy hn2 hQ hR hqb hrb hR0 zR hdz h0 HD hs hZ3 hZ7
      go_enter Tryd.func23, Tryd.ntmps23
      go_wp2_with (first
        | ((with_reducible refine g_dst 2 ?_); go_must (refine ev_box 2 rfl (cs := [.bool n1, .slice A l.length c]) (by rfl) ?_); intro g2 w2 hb2 B2 hg2)
        | ((with_reducible refine g_dst 3 ?_); go_must (refine ev_box 3 rfl (cs := [.bool n2, .slice A2 m.length c2]) (by rfl) ?_); intro g3 w3 hb3 B3 hg3; replace B2 := B2.below hb3; replace hb3 := bthen hb2 hb3)
        | ((with_reducible refine g_dst 4 ?_); go_must (refine ev_alloc 4 rfl infoNum (cs := [.bool false, .slice none 0 0]) rfl ?_); intro g4 w4 hb4 B4 hg4; have hne34 : g3 ≠ g4 := Nat.ne_of_lt (Nat.lt_of_lt_of_le B3.lt hg4); replace B2 := B2.below hb4; replace B3 := B3.below hb4; replace hg4 := Nat.le_trans hb3.size hg4; replace hb4 := bthen hb3 hb4)
        | ((with_reducible refine g_dst 5 ?_); go_must (refine ev_alloc 5 rfl infoNum (cs := [.bool false, .slice none 0 0]) rfl ?_); intro g5 w5 hb5 B5 hg5; have hne54 : g5 ≠ g4 := Nat.ne_of_gt (Nat.lt_of_lt_of_le B4.lt hg5); have hne35 : g3 ≠ g5 := Nat.ne_of_lt (Nat.lt_of_lt_of_le B3.lt hg5); replace B2 := B2.below hb5; replace B3 := B3.below hb5; replace B4 := B4.below hb5; have C2 := B2.cells; have C3 := B3.cells; have l4w := B4.lt; have l5w := B5.lt; replace hg5 := Nat.le_trans hb4.size hg5; replace hb5 := bthen hb4 hb5)
        | (go_at_call 20; (with_reducible refine (HTR.out _ hb5).mono ?_); rintro e w6 ⟨v6, rfl, ⟨q6, r6, rfl, htq, htr⟩, hb6⟩; obtain ⟨A4, c4, E4, rfl, oq, HE4, h41⟩ := told_sl htq; obtain ⟨A5, c5, E5, rfl, orr, HE5, h51⟩ := told_sl htr; rw [← Hqb.out, ← Hrb.out]; have hE4 : E4.length ≤ 274877906942 := (by rw [HE4.out]; exact hql); have hE5 : E5.length ≤ 274877906942 := (by rw [HE5.out]; exact hrl); clear htq htr; replace B3 := B3.below hb6; replace B4 := B4.below hb6; replace B5 := B5.below hb6; clear C2 C3 B2; have hb56 := hb6; replace hb6 := bthen hb5 hb6)
        | ((with_reducible refine g_store 4 ?_); go_must (refine ev_store rfl rfl B4 (news := [.bool qb, .slice A4 E4.length c4]) (by rfl) infoNum (by simp) (by simp [Value.oneCell']) ?_); intro w7 ho7 B47; simp only [List.take_zero, List.nil_append, List.length_cons, List.length_nil, List.drop_succ_cons, List.drop_zero, List.append_nil, List.cons_append] at B47; have B57 := B5.only ho7 hne54; replace B3 := B3.only ho7 hne34; replace oq := ow_only oq ho7 l4w (Nat.le_refl _); replace orr := ow_only orr ho7 l4w (Nat.le_refl _); have hb7 := hb6.trans (ho7.below hg4); clear B4 B5)
        | ((with_reducible refine g_store 5 ?_); go_must (refine ev_store rfl rfl B57 (news := [.bool rb, .slice A5 E5.length c5]) (by rfl) infoNum (by simp) (by simp [Value.oneCell']) ?_); intro w8 ho8 B5; simp only [List.take_zero, List.nil_append, List.length_cons, List.length_nil, List.drop_succ_cons, List.drop_zero, List.append_nil, List.cons_append] at B5; have B4 := B47.only ho8 (Ne.symm hne54); replace B3 := B3.only ho8 hne35; replace oq := ow_only oq ho8 l5w (Nat.le_refl _); replace orr := ow_only orr ho8 l5w (Nat.le_refl _); have hb8 := hb7.trans (ho8.below hg5); have C5 := B5.cells; have hl4 := B4.lt; have hl5 := B5.lt; clear B47 B57)
        | (go_at_call 47; (with_reducible refine (numOf_any rb A5 E5.length c5 _).mono ?_); rintro e w9 ⟨v9, rfl, rfl, hb9⟩; replace B3 := B3.below hb9; replace B4 := B4.below hb9; replace B5 := B5.below hb9; replace oq := oq.below hb9; replace orr := orr.below hb9; clear C5; replace hl4 := Nat.lt_of_lt_of_le hl4 hb9.size; replace hl5 := Nat.lt_of_lt_of_le hl5 hb9.size; replace hb9 := bthen hb8 hb9)
        | ((with_reducible refine g_dst 7 ?_); go_must (refine ev_alloc 7 rfl infoNm (cs := [.slice none 0 0, .bool false]) rfl ?_); intro g7 w10 hb10 B7 hg7)
        | ((with_reducible refine g_store 7 ?_); go_must (refine ev_store rfl rfl B7 (news := [.slice A5 E5.length c5, .bool rb]) (by rfl) infoNm (by simp) (by simp [Value.oneCell']) ?_); intro w11 ho11 B711; simp only [List.take_zero, List.nil_append, List.length_cons, List.length_nil, List.drop_succ_cons, List.drop_zero, List.append_nil, List.cons_append] at B711; have hb911 := hb10.trans (ho11.below hg7); replace B3 := B3.below hb911; replace B4 := B4.below hb911; replace B5 := B5.below hb911; replace oq := oq.below hb911; replace orr := orr.below hb911; have C3 := B3.cells; have C7 := B711.cells; replace hl4 := Nat.lt_of_lt_of_le hl4 hb911.size; replace hl5 := Nat.lt_of_lt_of_le hl5 hb911.size; have hlr : Lim w11 A5 c5 E5 := lim_sl orr HE5.out h51 hE5; have hlq : Lim w11 A4 c4 E4 := lim_sl oq HE4.out h41 hE4; have hb11 := bthen hb9 hb911; clear B7 hb10 hg7 hb911)
        | (go_at_call 55; (with_reducible refine (szero_any E5 A5 c5 _ hlr).mono ?_); rintro e wz ⟨v12, rfl, rfl, hb12⟩; rw [HV5.out E5 HE5.out]; clear C3 C7; replace B711 := B711.below hb12; replace B3 := B3.below hb12; replace B4 := B4.below hb12; replace B5 := B5.below hb12; replace oq := oq.below hb12; replace orr := orr.below hb12; replace hlq := hlq.below hb12; replace hlr := hlr.below hb12; have C3 := B3.cells; have C7 := B711.cells; replace hl4 := Nat.lt_of_lt_of_le hl4 hb12.size; replace hl5 := Nat.lt_of_lt_of_le hl5 hb12.size; have hbw := bthen hb11 hb12))
      clear C3 C7
      have hcur := (Below.refl wz.heap.size wz).drew
      replace B3 := B3.below hcur
      replace B4 := B4.below hcur
      replace B5 := B5.below hcur
      replace hlq := hlq.below hcur
      replace hlr := hlr.below hcur
      have hlb := Hlb.out.below (bthen hbw hcur)
      have C4 := B4.cells
      have C5 := B5.cells
      clear oq orr B711
      refine wp_gen2 (fun Q7 hQ7 => ?_)
      refine wp_region_held_drew (S := fun W => Blk W g3 [.bool n2, .slice A2 m.length c2] 26) (by kernel_rfl) B3 (fun hHeld => ?_)
      clear hHeld
      refine wpAnyH_take (i := 5) (oi := _) (v := .agg #[.bool n2, .slice A2 m.length c2]) rfl (by kernel_rfl) (by kernel_rfl) (by kernel_rfl) (fun _ _ _ h => h) (Or.inl ⟨by rfl, ?_⟩) B3 ?_
      · intro W hSw
        have C3 := Blk.cells hSw
        clear C4 C5
        go_simp
      (try simp only [Act.put, List.setIfInBounds_toArray, List.set_cons_zero, List.set_cons_succ])
      refine wpAnyH_ready (rs := [0, 1, 4]) (by kernel_rfl) (by simp) ?_
      refine AllReadyH.cons (o := _) rfl (fun K hK => ?_) ?_
      · go_simp
        refine hK.out _ _ B3 (fun hHeld => ?_)
        clear hK K hHeld
        (try simp only [Act.put, List.setIfInBounds_toArray, List.set_cons_zero, List.set_cons_succ])
        refine wpAnyH_ready (rs := [1, 4]) (by kernel_rfl) (by simp) ?_
        refine AllReadyH.cons (o := _) rfl (fun K hK => ?_) ?_
        · go_simp; refine (numInt_any (-1) _ (by omega) (by omega)).mono ?_; rintro e w6 ⟨v6, rfl, ht1, hbn⟩; obtain ⟨A1, c1, E1, rfl, o1, HE1, h11⟩ := told_sl ht1; clear ht1; have hl1 : Lim w6 A1 c1 E1 := lim_one o1 HE1.out h11; clear o1; replace B3 := B3.below hbn; replace B4 := B4.below hbn; replace B5 := B5.below hbn; replace hlq := hlq.below hbn; replace hlr := hlr.below hbn; replace hlb := hlb.below hbn; clear C4 C5; have C4 := B4.cells; have C5 := B5.cells; replace hcur := bthen hcur hbn; go_wp2_with fail
          refine hK.out _ _ B3 (fun hHeld => ?_)
          clear hK K hHeld
          (try simp only [Act.put, List.setIfInBounds_toArray, List.set_cons_zero, List.set_cons_succ])
          refine wpAnyH_ready (rs := [2, 4]) (by kernel_rfl) (by simp) ?_
          refine AllReadyH.cons (o := _) rfl (fun K hK => ?_) ?_
          · refine st_lit (v := fun g => .slice (some ⟨g, 0, none⟩) 2 2) 33 rfl (cs := [.bool qb, .slice A4 E4.length c4, .bool (decide ((-1 : Int) < 0)), .slice A1 E1.length c1]) (t := 26) (by go_simp; try rfl) ?_; intro g33 w6 hbn B33 hg33; replace B3 := B3.below hbn; replace B4 := B4.below hbn; replace B5 := B5.below hbn; replace hlq := hlq.below hbn; replace hlr := hlr.below hbn; replace hlb := hlb.below hbn; clear C4 C5; have C4 := B4.cells; have C5 := B5.cells; replace hl1 := hl1.below hbn; replace hcur := bthen hcur hbn
            refine hK.out _ _ B3 (fun hHeld => ?_)
            clear hK K hHeld
            (try simp only [Act.put, List.setIfInBounds_toArray, List.set_cons_zero, List.set_cons_succ])
            refine wpAnyH_ready (rs := [3, 4]) (by kernel_rfl) (by simp) ?_
            refine AllReadyH.cons (o := _) rfl (fun K hK => ?_) ?_
            · go_simp; refine (numAddAll_any [⟨qb, A4, c4, E4⟩, ⟨decide ((-1 : Int) < 0), A1, c1, E1⟩] 2 rfl _ 2 w6 (B33.rd (l := [⟨qb, A4, c4, E4⟩, ⟨decide ((-1 : Int) < 0), A1, c1, E1⟩]) lenN rfl) (Nat.le_refl _) (two_limN hlq hl1) 274877906942 (two_len hE4 (one_len HE1.out)) (by omega) (by omega)).mono ?_; rintro e w6 ⟨v6, rfl, ht3, hbn⟩; rw [HZ3.out A4 c4 E4 A1 c1 E1 HE4.out HE1.out] at ht3; obtain ⟨A3, c3, E3, rfl, o3, HE3, h31⟩ := told_sl ht3; replace o3 := o3.lower hcur.size; clear ht3 hl1 B33; replace B3 := B3.below hbn; replace B4 := B4.below hbn; replace B5 := B5.below hbn; replace hlq := hlq.below hbn; replace hlr := hlr.below hbn; replace hlb := hlb.below hbn; clear C4 C5; have C4 := B4.cells; have C5 := B5.cells; replace hcur := bthen hcur hbn; go_wp2_with fail
              refine hK.out _ _ B3 (fun hHeld => ?_)
              clear hK K hHeld
              (try simp only [Act.put, List.setIfInBounds_toArray, List.set_cons_zero, List.set_cons_succ])
              refine wpAnyH_ready (rs := [4]) (by kernel_rfl) (by simp) ?_
              refine AllReadyH.cons (o := _) rfl (fun K hK => ?_) ?_
              · go_simp
                refine hK.out _ _ B3 (fun hHeld => ?_)
                clear hK K hHeld
                (try simp only [Act.put, List.setIfInBounds_toArray, List.set_cons_zero, List.set_cons_succ])
                refine wpAnyH_ready (rs := [6]) (by kernel_rfl) (by simp) ?_
                refine AllReadyH.cons (o := _) rfl (fun K hK => ?_) ?_
                · refine st_lit (v := fun g => .slice (some ⟨g, 0, none⟩) 2 2) 37 rfl (cs := [.bool rb, .slice A5 E5.length c5, .bool n2, .slice A2 m.length c2]) (t := 26) (by go_simp; try rfl) ?_; intro g37 w6 hbn B37 hg37; replace B3 := B3.below hbn; replace B4 := B4.below hbn; replace B5 := B5.below hbn; replace hlq := hlq.below hbn; replace hlr := hlr.below hbn; replace hlb := hlb.below hbn; clear C4 C5; have C4 := B4.cells; have C5 := B5.cells; replace o3 := o3.below hbn; replace hcur := bthen hcur hbn
                  refine hK.out _ _ B3 (fun hHeld => ?_)
                  clear hK K hHeld
                  (try simp only [Act.put, List.setIfInBounds_toArray, List.set_cons_zero, List.set_cons_succ])
                  refine wpAnyH_ready (rs := [7]) (by kernel_rfl) (by simp) ?_
                  refine AllReadyH.cons (o := _) rfl (fun K hK => ?_) ?_
                  · go_simp; refine (numAddAll_any [⟨rb, A5, c5, E5⟩, ⟨n2, A2, c2, m⟩] 2 rfl _ 2 w6 (B37.rd (l := [⟨rb, A5, c5, E5⟩, ⟨n2, A2, c2, m⟩]) lenN rfl) (Nat.le_refl _) (two_limN hlr hlb) 274877906942 (two_len hE5 hml) (by omega) (by omega)).mono ?_; rintro e w6 ⟨v6, rfl, ht7, hbn⟩; rw [HZ7.out A5 c5 E5 HE5.out] at ht7; obtain ⟨A7, c7, E7, rfl, o7, HE7, h71⟩ := told_sl ht7; replace o7 := o7.lower hcur.size; clear ht7 B37; replace B3 := B3.below hbn; replace B4 := B4.below hbn; replace B5 := B5.below hbn; replace hlq := hlq.below hbn; replace hlr := hlr.below hbn; replace hlb := hlb.below hbn; clear C4 C5; have C4 := B4.cells; have C5 := B5.cells; replace o3 := o3.below hbn; replace hcur := bthen hcur hbn; go_wp2_with fail
                    refine hK.out _ _ B3 (fun hHeld => ?_)
                    clear hK K hHeld
                    (try simp only [Act.put, List.setIfInBounds_toArray, List.set_cons_zero, List.set_cons_succ])
                    refine wpAnyH_ready (rs := [8]) (by kernel_rfl) (by simp) ?_
                    refine AllReadyH.cons (o := _) rfl (fun K hK => ?_) ?_
                    · refine st_store rfl rfl B4 (news := [.bool (decide (Z3 < 0)), .slice A3 E3.length c3]) (by rfl) infoNum (by simp) (by simp [Value.oneCell']) ?_; intro w6 hon B8; simp only [List.take_zero, List.nil_append, List.length_cons, List.length_nil, List.drop_succ_cons, List.drop_zero, List.append_nil, List.cons_append] at B8; have B58 := B5.only hon hne54; replace B3 := B3.only hon hne34; replace o3 := ow_only o3 hon hl4 (Nat.le_refl _); replace o7 := ow_only o7 hon hl4 (Nat.le_refl _)
                      refine hK.out _ _ B3 (fun hHeld => ?_)
                      clear hK K hHeld
                      (try simp only [Act.put, List.setIfInBounds_toArray, List.set_cons_zero, List.set_cons_succ])
                      refine wpAnyH_ready (rs := [9]) (by kernel_rfl) (by simp) ?_
                      refine AllReadyH.cons (o := _) rfl (fun K hK => ?_) ?_
                      · refine st_store rfl rfl B58 (news := [.bool (decide (Z7 < 0)), .slice A7 E7.length c7]) (by rfl) infoNum (by simp) (by simp [Value.oneCell']) ?_; intro w7 hon2 B9; simp only [List.take_zero, List.nil_append, List.length_cons, List.length_nil, List.drop_succ_cons, List.drop_zero, List.append_nil, List.cons_append] at B9; have B89 := B8.only hon2 (Ne.symm hne54); replace B3 := B3.only hon2 hne35; replace o3 := ow_only o3 hon2 hl5 (Nat.le_refl _); replace o7 := ow_only o7 hon2 hl5 (Nat.le_refl _)
                        refine hK.out _ _ B3 (fun hHeld => ?_)
                        clear hK K hHeld
                        (try simp only [Act.put, List.setIfInBounds_toArray, List.set_cons_zero, List.set_cons_succ])
                        refine wpAnyH_ready (rs := [10]) (by kernel_rfl) (by simp) ?_
                        refine AllReadyH.cons (o := _) rfl (fun K hK => ?_) AllReadyH.nil
                        go_simp
                        refine hK.out _ _ B3 (fun hHeld => ?_)
                        clear hK K hHeld
                        (try simp only [Act.put, List.setIfInBounds_toArray, List.set_cons_zero, List.set_cons_succ])
                        refine wpAnyH_done (by kernel_rfl) ?_ _
                        refine NoPanic.normal ?_
                        obtain ⟨rfl⟩ := hQ7
                        (go_wp2_with fail)
                        refine bodyPost_ret (results_cct rfl _ _ g4 g5 26 26 #[.bool (decide (Z3 < 0)), .slice A3 E3.length c3] #[.bool (decide (Z7 < 0)), .slice A7 E7.length c7] (0, 0) (0, 0) _ rfl rfl B89.h B9.h Tryd.underlying26 rfl Hsz.out Hsz.out) rfl ?_
                        exact ⟨_, rfl, ⟨_, _, rfl, ⟨.slice A3 E3.length c3, by rw [HZQ.out.1], by rw [HZQ.out.1, ← HE3.out]; exact o3.lower hbw.size⟩, ⟨.slice A7 E7.length c7, by rw [HZQ.out.2], by rw [HZQ.out.2, ← HE7.out]; exact o7.lower hbw.size⟩⟩, ((bthen hbw hcur).trans (hon.below hg4)).trans (hon2.below hg5)⟩
                      exact AllReadyH.nil
                    exact AllReadyH.nil
                  exact AllReadyH.nil
                exact AllReadyH.nil
              exact AllReadyH.nil
            refine AllReadyH.cons (o := _) rfl (fun K hK => ?_) ?_
            · go_simp
              refine hK.out _ _ B3 (fun hHeld => ?_)
              clear hK K hHeld
              (try simp only [Act.put, List.setIfInBounds_toArray, List.set_cons_zero, List.set_cons_succ])
              refine wpAnyH_ready (rs := [3, 6]) (by kernel_rfl) (by simp) ?_
              refine AllReadyH.cons (o := _) rfl (fun K hK => ?_) ?_
              · go_simp; refine (numAddAll_any [⟨qb, A4, c4, E4⟩, ⟨decide ((-1 : Int) < 0), A1, c1, E1⟩] 2 rfl _ 2 w6 (B33.rd (l := [⟨qb, A4, c4, E4⟩, ⟨decide ((-1 : Int) < 0), A1, c1, E1⟩]) lenN rfl) (Nat.le_refl _) (two_limN hlq hl1) 274877906942 (two_len hE4 (one_len HE1.out)) (by omega) (by omega)).mono ?_; rintro e w6 ⟨v6, rfl, ht3, hbn⟩; rw [HZ3.out A4 c4 E4 A1 c1 E1 HE4.out HE1.out] at ht3; obtain ⟨A3, c3, E3, rfl, o3, HE3, h31⟩ := told_sl ht3; replace o3 := o3.lower hcur.size; clear ht3 hl1 B33; replace B3 := B3.below hbn; replace B4 := B4.below hbn; replace B5 := B5.below hbn; replace hlq := hlq.below hbn; replace hlr := hlr.below hbn; replace hlb := hlb.below hbn; clear C4 C5; have C4 := B4.cells; have C5 := B5.cells; replace hcur := bthen hcur hbn; go_wp2_with fail
                refine hK.out _ _ B3 (fun hHeld => ?_)
                clear hK K hHeld
                (try simp only [Act.put, List.setIfInBounds_toArray, List.set_cons_zero, List.set_cons_succ])
                refine wpAnyH_ready (rs := [6]) (by kernel_rfl) (by simp) ?_
                refine AllReadyH.cons (o := _) rfl (fun K hK => ?_) ?_
                · refine st_lit (v := fun g => .slice (some ⟨g, 0, none⟩) 2 2) 37 rfl (cs := [.bool rb, .slice A5 E5.length c5, .bool n2, .slice A2 m.length c2]) (t := 26) (by go_simp; try rfl) ?_; intro g37 w6 hbn B37 hg37; replace B3 := B3.below hbn; replace B4 := B4.below hbn; replace B5 := B5.below hbn; replace hlq := hlq.below hbn; replace hlr := hlr.below hbn; replace hlb := hlb.below hbn; clear C4 C5; have C4 := B4.cells; have C5 := B5.cells; replace o3 := o3.below hbn; replace hcur := bthen hcur hbn
                  refine hK.out _ _ B3 (fun hHeld => ?_)
                  clear hK K hHeld
                  (try simp only [Act.put, List.setIfInBounds_toArray, List.set_cons_zero, List.set_cons_succ])
                  refine wpAnyH_ready (rs := [7]) (by kernel_rfl) (by simp) ?_
                  refine AllReadyH.cons (o := _) rfl (fun K hK => ?_) ?_
                  · go_simp; refine (numAddAll_any [⟨rb, A5, c5, E5⟩, ⟨n2, A2, c2, m⟩] 2 rfl _ 2 w6 (B37.rd (l := [⟨rb, A5, c5, E5⟩, ⟨n2, A2, c2, m⟩]) lenN rfl) (Nat.le_refl _) (two_limN hlr hlb) 274877906942 (two_len hE5 hml) (by omega) (by omega)).mono ?_; rintro e w6 ⟨v6, rfl, ht7, hbn⟩; rw [HZ7.out A5 c5 E5 HE5.out] at ht7; obtain ⟨A7, c7, E7, rfl, o7, HE7, h71⟩ := told_sl ht7; replace o7 := o7.lower hcur.size; clear ht7 B37; replace B3 := B3.below hbn; replace B4 := B4.below hbn; replace B5 := B5.below hbn; replace hlq := hlq.below hbn; replace hlr := hlr.below hbn; replace hlb := hlb.below hbn; clear C4 C5; have C4 := B4.cells; have C5 := B5.cells; replace o3 := o3.below hbn; replace hcur := bthen hcur hbn; go_wp2_with fail
                    refine hK.out _ _ B3 (fun hHeld => ?_)
                    clear hK K hHeld
                    (try simp only [Act.put, List.setIfInBounds_toArray, List.set_cons_zero, List.set_cons_succ])
                    refine wpAnyH_ready (rs := [8]) (by kernel_rfl) (by simp) ?_
                    refine AllReadyH.cons (o := _) rfl (fun K hK => ?_) ?_
                    · refine st_store rfl rfl B4 (news := [.bool (decide (Z3 < 0)), .slice A3 E3.length c3]) (by rfl) infoNum (by simp) (by simp [Value.oneCell']) ?_; intro w6 hon B8; simp only [List.take_zero, List.nil_append, List.length_cons, List.length_nil, List.drop_succ_cons, List.drop_zero, List.append_nil, List.cons_append] at B8; have B58 := B5.only hon hne54; replace B3 := B3.only hon hne34; replace o3 := ow_only o3 hon hl4 (Nat.le_refl _); replace o7 := ow_only o7 hon hl4 (Nat.le_refl _)
                      refine hK.out _ _ B3 (fun hHeld => ?_)
                      clear hK K hHeld
                      (try simp only [Act.put, List.setIfInBounds_toArray, List.set_cons_zero, List.set_cons_succ])
                      refine wpAnyH_ready (rs := [9]) (by kernel_rfl) (by simp) ?_
                      refine AllReadyH.cons (o := _) rfl (fun K hK => ?_) ?_
                      · refine st_store rfl rfl B58 (news := [.bool (decide (Z7 < 0)), .slice A7 E7.length c7]) (by rfl) infoNum (by simp) (by simp [Value.oneCell']) ?_; intro w7 hon2 B9; simp only [List.take_zero, List.nil_append, List.length_cons, List.length_nil, List.drop_succ_cons, List.drop_zero, List.append_nil, List.cons_append] at B9; have B89 := B8.only hon2 (Ne.symm hne54); replace B3 := B3.only hon2 hne35; replace o3 := ow_only o3 hon2 hl5 (Nat.le_refl _); replace o7 := ow_only o7 hon2 hl5 (Nat.le_refl _)
                        refine hK.out _ _ B3 (fun hHeld => ?_)
                        clear hK K hHeld
                        (try simp only [Act.put, List.setIfInBounds_toArray, List.set_cons_zero, List.set_cons_succ])
                        refine wpAnyH_ready (rs := [10]) (by kernel_rfl) (by simp) ?_
                        refine AllReadyH.cons (o := _) rfl (fun K hK => ?_) AllReadyH.nil
                        go_simp
                        refine hK.out _ _ B3 (fun hHeld => ?_)
                        clear hK K hHeld
                        (try simp only [Act.put, List.setIfInBounds_toArray, List.set_cons_zero, List.set_cons_succ])
                        refine wpAnyH_done (by kernel_rfl) ?_ _
                        refine NoPanic.normal ?_
                        obtain ⟨rfl⟩ := hQ7
                        (go_wp2_with fail)
                        refine bodyPost_ret (results_cct rfl _ _ g4 g5 26 26 #[.bool (decide (Z3 < 0)), .slice A3 E3.length c3] #[.bool (decide (Z7 < 0)), .slice A7 E7.length c7] (0, 0) (0, 0) _ rfl rfl B89.h B9.h Tryd.underlying26 rfl Hsz.out Hsz.out) rfl ?_
                        exact ⟨_, rfl, ⟨_, _, rfl, ⟨.slice A3 E3.length c3, by rw [HZQ.out.1], by rw [HZQ.out.1, ← HE3.out]; exact o3.lower hbw.size⟩, ⟨.slice A7 E7.length c7, by rw [HZQ.out.2], by rw [HZQ.out.2, ← HE7.out]; exact o7.lower hbw.size⟩⟩, ((bthen hbw hcur).trans (hon.below hg4)).trans (hon2.below hg5)⟩
                      exact AllReadyH.nil
                    exact AllReadyH.nil
                  exact AllReadyH.nil
                exact AllReadyH.nil
              refine AllReadyH.cons (o := _) rfl (fun K hK => ?_) ?_
              · refine st_lit (v := fun g => .slice (some ⟨g, 0, none⟩) 2 2) 37 rfl (cs := [.bool rb, .slice A5 E5.length c5, .bool n2, .slice A2 m.length c2]) (t := 26) (by go_simp; try rfl) ?_; intro g37 w6 hbn B37 hg37; replace B3 := B3.below hbn; replace B4 := B4.below hbn; replace B5 := B5.below hbn; replace hlq := hlq.below hbn; replace hlr := hlr.below hbn; replace hlb := hlb.below hbn; clear C4 C5; have C4 := B4.cells; have C5 := B5.cells; replace hl1 := hl1.below hbn; replace B33 := B33.below hbn; replace hcur := bthen hcur hbn
                refine hK.out _ _ B3 (fun hHeld => ?_)
                clear hK K hHeld
                (try simp only [Act.put, List.setIfInBounds_toArray, List.set_cons_zero, List.set_cons_succ])
                refine wpAnyH_ready (rs := [3]) (by kernel_rfl) (by simp) ?_
                refine AllReadyH.cons (o := _) rfl (fun K hK => ?_) ?_
                · go_simp; refine (numAddAll_any [⟨qb, A4, c4, E4⟩, ⟨decide ((-1 : Int) < 0), A1, c1, E1⟩] 2 rfl _ 2 w6 (B33.rd (l := [⟨qb, A4, c4, E4⟩, ⟨decide ((-1 : Int) < 0), A1, c1, E1⟩]) lenN rfl) (Nat.le_refl _) (two_limN hlq hl1) 274877906942 (two_len hE4 (one_len HE1.out)) (by omega) (by omega)).mono ?_; rintro e w6 ⟨v6, rfl, ht3, hbn⟩; rw [HZ3.out A4 c4 E4 A1 c1 E1 HE4.out HE1.out] at ht3; obtain ⟨A3, c3, E3, rfl, o3, HE3, h31⟩ := told_sl ht3; replace o3 := o3.lower hcur.size; clear ht3 hl1 B33; replace B3 := B3.below hbn; replace B4 := B4.below hbn; replace B5 := B5.below hbn; replace hlq := hlq.below hbn; replace hlr := hlr.below hbn; replace hlb := hlb.below hbn; clear C4 C5; have C4 := B4.cells; have C5 := B5.cells; replace B37 := B37.below hbn; replace hcur := bthen hcur hbn; go_wp2_with fail
                  refine hK.out _ _ B3 (fun hHeld => ?_)
                  clear hK K hHeld
                  (try simp only [Act.put, List.setIfInBounds_toArray, List.set_cons_zero, List.set_cons_succ])
                  refine wpAnyH_ready (rs := [7]) (by kernel_rfl) (by simp) ?_
                  refine AllReadyH.cons (o := _) rfl (fun K hK => ?_) ?_
                  · go_simp; refine (numAddAll_any [⟨rb, A5, c5, E5⟩, ⟨n2, A2, c2, m⟩] 2 rfl _ 2 w6 (B37.rd (l := [⟨rb, A5, c5, E5⟩, ⟨n2, A2, c2, m⟩]) lenN rfl) (Nat.le_refl _) (two_limN hlr hlb) 274877906942 (two_len hE5 hml) (by omega) (by omega)).mono ?_; rintro e w6 ⟨v6, rfl, ht7, hbn⟩; rw [HZ7.out A5 c5 E5 HE5.out] at ht7; obtain ⟨A7, c7, E7, rfl, o7, HE7, h71⟩ := told_sl ht7; replace o7 := o7.lower hcur.size; clear ht7 B37; replace B3 := B3.below hbn; replace B4 := B4.below hbn; replace B5 := B5.below hbn; replace hlq := hlq.below hbn; replace hlr := hlr.below hbn; replace hlb := hlb.below hbn; clear C4 C5; have C4 := B4.cells; have C5 := B5.cells; replace o3 := o3.below hbn; replace hcur := bthen hcur hbn; go_wp2_with fail
                    refine hK.out _ _ B3 (fun hHeld => ?_)
                    clear hK K hHeld
                    (try simp only [Act.put, List.setIfInBounds_toArray, List.set_cons_zero, List.set_cons_succ])
                    refine wpAnyH_ready (rs := [8]) (by kernel_rfl) (by simp) ?_
                    refine AllReadyH.cons (o := _) rfl (fun K hK => ?_) ?_
                    · refine st_store rfl rfl B4 (news := [.bool (decide (Z3 < 0)), .slice A3 E3.length c3]) (by rfl) infoNum (by simp) (by simp [Value.oneCell']) ?_; intro w6 hon B8; simp only [List.take_zero, List.nil_append, List.length_cons, List.length_nil, List.drop_succ_cons, List.drop_zero, List.append_nil, List.cons_append] at B8; have B58 := B5.only hon hne54; replace B3 := B3.only hon hne34; replace o3 := ow_only o3 hon hl4 (Nat.le_refl _); replace o7 := ow_only o7 hon hl4 (Nat.le_refl _)
                      refine hK.out _ _ B3 (fun hHeld => ?_)
                      clear hK K hHeld
                      (try simp only [Act.put, List.setIfInBounds_toArray, List.set_cons_zero, List.set_cons_succ])
                      refine wpAnyH_ready (rs := [9]) (by kernel_rfl) (by simp) ?_
                      refine AllReadyH.cons (o := _) rfl (fun K hK => ?_) ?_
                      · refine st_store rfl rfl B58 (news := [.bool (decide (Z7 < 0)), .slice A7 E7.length c7]) (by rfl) infoNum (by simp) (by simp [Value.oneCell']) ?_; intro w7 hon2 B9; simp only [List.take_zero, List.nil_append, List.length_cons, List.length_nil, List.drop_succ_cons, List.drop_zero, List.append_nil, List.cons_append] at B9; have B89 := B8.only hon2 (Ne.symm hne54); replace B3 := B3.only hon2 hne35; replace o3 := ow_only o3 hon2 hl5 (Nat.le_refl _); replace o7 := ow_only o7 hon2 hl5 (Nat.le_refl _)
                        refine hK.out _ _ B3 (fun hHeld => ?_)
                        clear hK K hHeld
                        (try simp only [Act.put, List.setIfInBounds_toArray, List.set_cons_zero, List.set_cons_succ])
                        refine wpAnyH_ready (rs := [10]) (by kernel_rfl) (by simp) ?_
                        refine AllReadyH.cons (o := _) rfl (fun K hK => ?_) AllReadyH.nil
                        go_simp
                        refine hK.out _ _ B3 (fun hHeld => ?_)
                        clear hK K hHeld
                        (try simp only [Act.put, List.setIfInBounds_toArray, List.set_cons_zero, List.set_cons_succ])
                        refine wpAnyH_done (by kernel_rfl) ?_ _
                        refine NoPanic.normal ?_
                        obtain ⟨rfl⟩ := hQ7
                        (go_wp2_with fail)
                        refine bodyPost_ret (results_cct rfl _ _ g4 g5 26 26 #[.bool (decide (Z3 < 0)), .slice A3 E3.length c3] #[.bool (decide (Z7 < 0)), .slice A7 E7.length c7] (0, 0) (0, 0) _ rfl rfl B89.h B9.h Tryd.underlying26 rfl Hsz.out Hsz.out) rfl ?_
                        exact ⟨_, rfl, ⟨_, _, rfl, ⟨.slice A3 E3.length c3, by rw [HZQ.out.1], by rw [HZQ.out.1, ← HE3.out]; exact o3.lower hbw.size⟩, ⟨.slice A7 E7.length c7, by rw [HZQ.out.2], by rw [HZQ.out.2, ← HE7.out]; exact o7.lower hbw.size⟩⟩, ((bthen hbw hcur).trans (hon.below hg4)).trans (hon2.below hg5)⟩
                      exact AllReadyH.nil
                    exact AllReadyH.nil
                  exact AllReadyH.nil
                exact AllReadyH.nil
              exact AllReadyH.nil
            exact AllReadyH.nil
          refine AllReadyH.cons (o := _) rfl (fun K hK => ?_) ?_
          · go_simp
            refine hK.out _ _ B3 (fun hHeld => ?_)
            clear hK K hHeld
            (try simp only [Act.put, List.setIfInBounds_toArray, List.set_cons_zero, List.set_cons_succ])
            refine wpAnyH_ready (rs := [2, 6]) (by kernel_rfl) (by simp) ?_
            refine AllReadyH.cons (o := _) rfl (fun K hK => ?_) ?_
            · refine st_lit (v := fun g => .slice (some ⟨g, 0, none⟩) 2 2) 33 rfl (cs := [.bool qb, .slice A4 E4.length c4, .bool (decide ((-1 : Int) < 0)), .slice A1 E1.length c1]) (t := 26) (by go_simp; try rfl) ?_; intro g33 w6 hbn B33 hg33; replace B3 := B3.below hbn; replace B4 := B4.below hbn; replace B5 := B5.below hbn; replace hlq := hlq.below hbn; replace hlr := hlr.below hbn; replace hlb := hlb.below hbn; clear C4 C5; have C4 := B4.cells; have C5 := B5.cells; replace hl1 := hl1.below hbn; replace hcur := bthen hcur hbn
              refine hK.out _ _ B3 (fun hHeld => ?_)
              clear hK K hHeld
              (try simp only [Act.put, List.setIfInBounds_toArray, List.set_cons_zero, List.set_cons_succ])
              refine wpAnyH_ready (rs := [3, 6]) (by kernel_rfl) (by simp) ?_
              refine AllReadyH.cons (o := _) rfl (fun K hK => ?_) ?_
              · go_simp; refine (numAddAll_any [⟨qb, A4, c4, E4⟩, ⟨decide ((-1 : Int) < 0), A1, c1, E1⟩] 2 rfl _ 2 w6 (B33.rd (l := [⟨qb, A4, c4, E4⟩, ⟨decide ((-1 : Int) < 0), A1, c1, E1⟩]) lenN rfl) (Nat.le_refl _) (two_limN hlq hl1) 274877906942 (two_len hE4 (one_len HE1.out)) (by omega) (by omega)).mono ?_; rintro e w6 ⟨v6, rfl, ht3, hbn⟩; rw [HZ3.out A4 c4 E4 A1 c1 E1 HE4.out HE1.out] at ht3; obtain ⟨A3, c3, E3, rfl, o3, HE3, h31⟩ := told_sl ht3; replace o3 := o3.lower hcur.size; clear ht3 hl1 B33; replace B3 := B3.below hbn; replace B4 := B4.below hbn; replace B5 := B5.below hbn; replace hlq := hlq.below hbn; replace hlr := hlr.below hbn; replace hlb := hlb.below hbn; clear C4 C5; have C4 := B4.cells; have C5 := B5.cells; replace hcur := bthen hcur hbn; go_wp2_with fail
                refine hK.out _ _ B3 (fun hHeld => ?_)
                clear hK K hHeld
                (try simp only [Act.put, List.setIfInBounds_toArray, List.set_cons_zero, List.set_cons_succ])
                refine wpAnyH_ready (rs := [6]) (by kernel_rfl) (by simp) ?_
                refine AllReadyH.cons (o := _) rfl (fun K hK => ?_) ?_
                · refine st_lit (v := fun g => .slice (some ⟨g, 0, none⟩) 2 2) 37 rfl (cs := [.bool rb, .slice A5 E5.length c5, .bool n2, .slice A2 m.length c2]) (t := 26) (by go_simp; try rfl) ?_; intro g37 w6 hbn B37 hg37; replace B3 := B3.below hbn; replace B4 := B4.below hbn; replace B5 := B5.below hbn; replace hlq := hlq.below hbn; replace hlr := hlr.below hbn; replace hlb := hlb.below hbn; clear C4 C5; have C4 := B4.cells; have C5 := B5.cells; replace o3 := o3.below hbn; replace hcur := bthen hcur hbn
                  refine hK.out _ _ B3 (fun hHeld => ?_)
                  clear hK K hHeld
                  (try simp only [Act.put, List.setIfInBounds_toArray, List.set_cons_zero, List.set_cons_succ])
                  refine wpAnyH_ready (rs := [7]) (by kernel_rfl) (by simp) ?_
                  refine AllReadyH.cons (o := _) rfl (fun K hK => ?_) ?_
                  · go_simp; refine (numAddAll_any [⟨rb, A5, c5, E5⟩, ⟨n2, A2, c2, m⟩] 2 rfl _ 2 w6 (B37.rd (l := [⟨rb, A5, c5, E5⟩, ⟨n2, A2, c2, m⟩]) lenN rfl) (Nat.le_refl _) (two_limN hlr hlb) 274877906942 (two_len hE5 hml) (by omega) (by omega)).mono ?_; rintro e w6 ⟨v6, rfl, ht7, hbn⟩; rw [HZ7.out A5 c5 E5 HE5.out] at ht7; obtain ⟨A7, c7, E7, rfl, o7, HE7, h71⟩ := told_sl ht7; replace o7 := o7.lower hcur.size; clear ht7 B37; replace B3 := B3.below hbn; replace B4 := B4.below hbn; replace B5 := B5.below hbn; replace hlq := hlq.below hbn; replace hlr := hlr.below hbn; replace hlb := hlb.below hbn; clear C4 C5; have C4 := B4.cells; have C5 := B5.cells; replace o3 := o3.below hbn; replace hcur := bthen hcur hbn; go_wp2_with fail
                    refine hK.out _ _ B3 (fun hHeld => ?_)
                    clear hK K hHeld
                    (try simp only [Act.put, List.setIfInBounds_toArray, List.set_cons_zero, List.set_cons_succ])
                    refine wpAnyH_ready (rs := [8]) (by kernel_rfl) (by simp) ?_
                    refine AllReadyH.cons (o := _) rfl (fun K hK => ?_) ?_
                    · refine st_store rfl rfl B4 (news := [.bool (decide (Z3 < 0)), .slice A3 E3.length c3]) (by rfl) infoNum (by simp) (by simp [Value.oneCell']) ?_; intro w6 hon B8; simp only [List.take_zero, List.nil_append, List.length_cons, List.length_nil, List.drop_succ_cons, List.drop_zero, List.append_nil, List.cons_append] at B8; have B58 := B5.only hon hne54; replace B3 := B3.only hon hne34; replace o3 := ow_only o3 hon hl4 (Nat.le_refl _); replace o7 := ow_only o7 hon hl4 (Nat.le_refl _)
                      refine hK.out _ _ B3 (fun hHeld => ?_)
                      clear hK K hHeld
                      (try simp only [Act.put, List.setIfInBounds_toArray, List.set_cons_zero, List.set_cons_succ])
                      refine wpAnyH_ready (rs := [9]) (by kernel_rfl) (by simp) ?_
                      refine AllReadyH.cons (o := _) rfl (fun K hK => ?_) ?_
                      · refine st_store rfl rfl B58 (news := [.bool (decide (Z7 < 0)), .slice A7 E7.length c7]) (by rfl) infoNum (by simp) (by simp [Value.oneCell']) ?_; intro w7 hon2 B9; simp only [List.take_zero, List.nil_append, List.length_cons, List.length_nil, List.drop_succ_cons, List.drop_zero, List.append_nil, List.cons_append] at B9; have B89 := B8.only hon2 (Ne.symm hne54); replace B3 := B3.only hon2 hne35; replace o3 := ow_only o3 hon2 hl5 (Nat.le_refl _); replace o7 := ow_only o7 hon2 hl5 (Nat.le_refl _)
                        refine hK.out _ _ B3 (fun hHeld => ?_)
                        clear hK K hHeld
                        (try simp only [Act.put, List.setIfInBounds_toArray, List.set_cons_zero, List.set_cons_succ])
                        refine wpAnyH_ready (rs := [10]) (by kernel_rfl) (by simp) ?_
                        refine AllReadyH.cons (o := _) rfl (fun K hK => ?_) AllReadyH.nil
                        go_simp
                        refine hK.out _ _ B3 (fun hHeld => ?_)
                        clear hK K hHeld
                        (try simp only [Act.put, List.setIfInBounds_toArray, List.set_cons_zero, List.set_cons_succ])
                        refine wpAnyH_done (by kernel_rfl) ?_ _
                        refine NoPanic.normal ?_
                        obtain ⟨rfl⟩ := hQ7
                        (go_wp2_with fail)
                        refine bodyPost_ret (results_cct rfl _ _ g4 g5 26 26 #[.bool (decide (Z3 < 0)), .slice A3 E3.length c3] #[.bool (decide (Z7 < 0)), .slice A7 E7.length c7] (0, 0) (0, 0) _ rfl rfl B89.h B9.h Tryd.underlying26 rfl Hsz.out Hsz.out) rfl ?_
                        exact ⟨_, rfl, ⟨_, _, rfl, ⟨.slice A3 E3.length c3, by rw [HZQ.out.1], by rw [HZQ.out.1, ← HE3.out]; exact o3.lower hbw.size⟩, ⟨.slice A7 E7.length c7, by rw [HZQ.out.2], by rw [HZQ.out.2, ← HE7.out]; exact o7.lower hbw.size⟩⟩, ((bthen hbw hcur).trans (hon.below hg4)).trans (hon2.below hg5)⟩
                      exact AllReadyH.nil
                    exact AllReadyH.nil
                  exact AllReadyH.nil
                exact AllReadyH.nil
              refine AllReadyH.cons (o := _) rfl (fun K hK => ?_) ?_
              · refine st_lit (v := fun g => .slice (some ⟨g, 0, none⟩) 2 2) 37 rfl (cs := [.bool rb, .slice A5 E5.length c5, .bool n2, .slice A2 m.length c2]) (t := 26) (by go_simp; try rfl) ?_; intro g37 w6 hbn B37 hg37; replace B3 := B3.below hbn; replace B4 := B4.below hbn; replace B5 := B5.below hbn; replace hlq := hlq.below hbn; replace hlr := hlr.below hbn; replace hlb := hlb.below hbn; clear C4 C5; have C4 := B4.cells; have C5 := B5.cells; replace hl1 := hl1.below hbn; replace B33 := B33.below hbn; replace hcur := bthen hcur hbn
                refine hK.out _ _ B3 (fun hHeld => ?_)
                clear hK K hHeld
                (try simp only [Act.put, List.setIfInBounds_toArray, List.set_cons_zero, List.set_cons_succ])
                refine wpAnyH_ready (rs := [3]) (by kernel_rfl) (by simp) ?_
                refine AllReadyH.cons (o := _) rfl (fun K hK => ?_) ?_
                · go_simp; refine (numAddAll_any [⟨qb, A4, c4, E4⟩, ⟨decide ((-1 : Int) < 0), A1, c1, E1⟩] 2 rfl _ 2 w6 (B33.rd (l := [⟨qb, A4, c4, E4⟩, ⟨decide ((-1 : Int) < 0), A1, c1, E1⟩]) lenN rfl) (Nat.le_refl _) (two_limN hlq hl1) 274877906942 (two_len hE4 (one_len HE1.out)) (by omega) (by omega)).mono ?_; rintro e w6 ⟨v6, rfl, ht3, hbn⟩; rw [HZ3.out A4 c4 E4 A1 c1 E1 HE4.out HE1.out] at ht3; obtain ⟨A3, c3, E3, rfl, o3, HE3, h31⟩ := told_sl ht3; replace o3 := o3.lower hcur.size; clear ht3 hl1 B33; replace B3 := B3.below hbn; replace B4 := B4.below hbn; replace B5 := B5.below hbn; replace hlq := hlq.below hbn; replace hlr := hlr.below hbn; replace hlb := hlb.below hbn; clear C4 C5; have C4 := B4.cells; have C5 := B5.cells; replace B37 := B37.below hbn; replace hcur := bthen hcur hbn; go_wp2_with fail
                  refine hK.out _ _ B3 (fun hHeld => ?_)
                  clear hK K hHeld
                  (try simp only [Act.put, List.setIfInBounds_toArray, List.set_cons_zero, List.set_cons_succ])
                  refine wpAnyH_ready (rs := [7]) (by kernel_rfl) (by simp) ?_
                  refine AllReadyH.cons (o := _) rfl (fun K hK => ?_) ?_
                  · go_simp; refine (numAddAll_any [⟨rb, A5, c5, E5⟩, ⟨n2, A2, c2, m⟩] 2 rfl _ 2 w6 (B37.rd (l := [⟨rb, A5, c5, E5⟩, ⟨n2, A2, c2, m⟩]) lenN rfl) (Nat.le_refl _) (two_limN hlr hlb) 274877906942 (two_len hE5 hml) (by omega) (by omega)).mono ?_; rintro e w6 ⟨v6, rfl, ht7, hbn⟩; rw [HZ7.out A5 c5 E5 HE5.out] at ht7; obtain ⟨A7, c7, E7, rfl, o7, HE7, h71⟩ := told_sl ht7; replace o7 := o7.lower hcur.size; clear ht7 B37; replace B3 := B3.below hbn; replace B4 := B4.below hbn; replace B5 := B5.below hbn; replace hlq := hlq.below hbn; replace hlr := hlr.below hbn; replace hlb := hlb.below hbn; clear C4 C5; have C4 := B4.cells; have C5 := B5.cells; replace o3 := o3.below hbn; replace hcur := bthen hcur hbn; go_wp2_with fail
                    refine hK.out _ _ B3 (fun hHeld => ?_)
                    clear hK K hHeld
                    (try simp only [Act.put, List.setIfInBounds_toArray, List.set_cons_zero, List.set_cons_succ])
                    refine wpAnyH_ready (rs := [8]) (by kernel_rfl) (by simp) ?_
                    refine AllReadyH.cons (o := _) rfl (fun K hK => ?_) ?_
                    · refine st_store rfl rfl B4 (news := [.bool (decide (Z3 < 0)), .slice A3 E3.length c3]) (by rfl) infoNum (by simp) (by simp [Value.oneCell']) ?_; intro w6 hon B8; simp only [List.take_zero, List.nil_append, List.length_cons, List.length_nil, List.drop_succ_cons, List.drop_zero, List.append_nil, List.cons_append] at B8; have B58 := B5.only hon hne54; replace B3 := B3.only hon hne34; replace o3 := ow_only o3 hon hl4 (Nat.le_refl _); replace o7 := ow_only o7 hon hl4 (Nat.le_refl _)
                      refine hK.out _ _ B3 (fun hHeld => ?_)
                      clear hK K hHeld
                      (try simp only [Act.put, List.setIfInBounds_toArray, List.set_cons_zero, List.set_cons_succ])
                      refine wpAnyH_ready (rs := [9]) (by kernel_rfl) (by simp) ?_
                      refine AllReadyH.cons (o := _) rfl (fun K hK => ?_) ?_
                      · refine st_store rfl rfl B58 (news := [.bool (decide (Z7 < 0)), .slice A7 E7.length c7]) (by rfl) infoNum (by simp) (by simp [Value.oneCell']) ?_; intro w7 hon2 B9; simp only [List.take_zero, List.nil_append, List.length_cons, List.length_nil, List.drop_succ_cons, List.drop_zero, List.append_nil, List.cons_append] at B9; have B89 := B8.only hon2 (Ne.symm hne54); replace B3 := B3.only hon2 hne35; replace o3 := ow_only o3 hon2 hl5 (Nat.le_refl _); replace o7 := ow_only o7 hon2 hl5 (Nat.le_refl _)
                        refine hK.out _ _ B3 (fun hHeld => ?_)
                        clear hK K hHeld
                        (try simp only [Act.put, List.setIfInBounds_toArray, List.set_cons_zero, List.set_cons_succ])
                        refine wpAnyH_ready (rs := [10]) (by kernel_rfl) (by simp) ?_
                        refine AllReadyH.cons (o := _) rfl (fun K hK => ?_) AllReadyH.nil
                        go_simp
                        refine hK.out _ _ B3 (fun hHeld => ?_)
                        clear hK K hHeld
                        (try simp only [Act.put, List.setIfInBounds_toArray, List.set_cons_zero, List.set_cons_succ])
                        refine wpAnyH_done (by kernel_rfl) ?_ _
                        refine NoPanic.normal ?_
                        obtain ⟨rfl⟩ := hQ7
                        (go_wp2_with fail)
                        refine bodyPost_ret (results_cct rfl _ _ g4 g5 26 26 #[.bool (decide (Z3 < 0)), .slice A3 E3.length c3] #[.bool (decide (Z7 < 0)), .slice A7 E7.length c7] (0, 0) (0, 0) _ rfl rfl B89.h B9.h Tryd.underlying26 rfl Hsz.out Hsz.out) rfl ?_
                        exact ⟨_, rfl, ⟨_, _, rfl, ⟨.slice A3 E3.length c3, by rw [HZQ.out.1], by rw [HZQ.out.1, ← HE3.out]; exact o3.lower hbw.size⟩, ⟨.slice A7 E7.length c7, by rw [HZQ.out.2], by rw [HZQ.out.2, ← HE7.out]; exact o7.lower hbw.size⟩⟩, ((bthen hbw hcur).trans (hon.below hg4)).trans (hon2.below hg5)⟩
                      exact AllReadyH.nil
                    exact AllReadyH.nil
                  exact AllReadyH.nil
                exact AllReadyH.nil
              exact AllReadyH.nil
            refine AllReadyH.cons (o := _) rfl (fun K hK => ?_) ?_
            · refine st_lit (v := fun g => .slice (some ⟨g, 0, none⟩) 2 2) 37 rfl (cs := [.bool rb, .slice A5 E5.length c5, .bool n2, .slice A2 m.length c2]) (t := 26) (by go_simp; try rfl) ?_; intro g37 w6 hbn B37 hg37; replace B3 := B3.below hbn; replace B4 := B4.below hbn; replace B5 := B5.below hbn; replace hlq := hlq.below hbn; replace hlr := hlr.below hbn; replace hlb := hlb.below hbn; clear C4 C5; have C4 := B4.cells; have C5 := B5.cells; replace hl1 := hl1.below hbn; replace hcur := bthen hcur hbn
              refine hK.out _ _ B3 (fun hHeld => ?_)
              clear hK K hHeld
              (try simp only [Act.put, List.setIfInBounds_toArray, List.set_cons_zero, List.set_cons_succ])
              refine wpAnyH_ready (rs := [2]) (by kernel_rfl) (by simp) ?_
              refine AllReadyH.cons (o := _) rfl (fun K hK => ?_) ?_
              · refine st_lit (v := fun g => .slice (some ⟨g, 0, none⟩) 2 2) 33 rfl (cs := [.bool qb, .slice A4 E4.length c4, .bool (decide ((-1 : Int) < 0)), .slice A1 E1.length c1]) (t := 26) (by go_simp; try rfl) ?_; intro g33 w6 hbn B33 hg33; replace B3 := B3.below hbn; replace B4 := B4.below hbn; replace B5 := B5.below hbn; replace hlq := hlq.below hbn; replace hlr := hlr.below hbn; replace hlb := hlb.below hbn; clear C4 C5; have C4 := B4.cells; have C5 := B5.cells; replace hl1 := hl1.below hbn; replace B37 := B37.below hbn; replace hcur := bthen hcur hbn
                refine hK.out _ _ B3 (fun hHeld => ?_)
                clear hK K hHeld
                (try simp only [Act.put, List.setIfInBounds_toArray, List.set_cons_zero, List.set_cons_succ])
                refine wpAnyH_ready (rs := [3]) (by kernel_rfl) (by simp) ?_
                refine AllReadyH.cons (o := _) rfl (fun K hK => ?_) ?_
                · go_simp; refine (numAddAll_any [⟨qb, A4, c4, E4⟩, ⟨decide ((-1 : Int) < 0), A1, c1, E1⟩] 2 rfl _ 2 w6 (B33.rd (l := [⟨qb, A4, c4, E4⟩, ⟨decide ((-1 : Int) < 0), A1, c1, E1⟩]) lenN rfl) (Nat.le_refl _) (two_limN hlq hl1) 274877906942 (two_len hE4 (one_len HE1.out)) (by omega) (by omega)).mono ?_; rintro e w6 ⟨v6, rfl, ht3, hbn⟩; rw [HZ3.out A4 c4 E4 A1 c1 E1 HE4.out HE1.out] at ht3; obtain ⟨A3, c3, E3, rfl, o3, HE3, h31⟩ := told_sl ht3; replace o3 := o3.lower hcur.size; clear ht3 hl1 B33; replace B3 := B3.below hbn; replace B4 := B4.below hbn; replace B5 := B5.below hbn; replace hlq := hlq.below hbn; replace hlr := hlr.below hbn; replace hlb := hlb.below hbn; clear C4 C5; have C4 := B4.cells; have C5 := B5.cells; replace B37 := B37.below hbn; replace hcur := bthen hcur hbn; go_wp2_with fail
                  refine hK.out _ _ B3 (fun hHeld => ?_)
                  clear hK K hHeld
                  (try simp only [Act.put, List.setIfInBounds_toArray, List.set_cons_zero, List.set_cons_succ])
                  refine wpAnyH_ready (rs := [7]) (by kernel_rfl) (by simp) ?_
                  refine AllReadyH.cons (o := _) rfl (fun K hK => ?_) ?_
                  · go_simp; refine (numAddAll_any [⟨rb, A5, c5, E5⟩, ⟨n2, A2, c2, m⟩] 2 rfl _ 2 w6 (B37.rd (l := [⟨rb, A5, c5, E5⟩, ⟨n2, A2, c2, m⟩]) lenN rfl) (Nat.le_refl _) (two_limN hlr hlb) 274877906942 (two_len hE5 hml) (by omega) (by omega)).mono ?_; rintro e w6 ⟨v6, rfl, ht7, hbn⟩; rw [HZ7.out A5 c5 E5 HE5.out] at ht7; obtain ⟨A7, c7, E7, rfl, o7, HE7, h71⟩ := told_sl ht7; replace o7 := o7.lower hcur.size; clear ht7 B37; replace B3 := B3.below hbn; replace B4 := B4.below hbn; replace B5 := B5.below hbn; replace hlq := hlq.below hbn; replace hlr := hlr.below hbn; replace hlb := hlb.below hbn; clear C4 C5; have C4 := B4.cells; have C5 := B5.cells; replace o3 := o3.below hbn; replace hcur := bthen hcur hbn; go_wp2_with fail
                    refine hK.out _ _ B3 (fun hHeld => ?_)
                    clear hK K hHeld
                    (try simp only [Act.put, List.setIfInBounds_toArray, List.set_cons_zero, List.set_cons_succ])
                    refine wpAnyH_ready (rs := [8]) (by kernel_rfl) (by simp) ?_
                    refine AllReadyH.cons (o := _) rfl (fun K hK => ?_) ?_
                    · refine st_store rfl rfl B4 (news := [.bool (decide (Z3 < 0)), .slice A3 E3.length c3]) (by rfl) infoNum (by simp) (by simp [Value.oneCell']) ?_; intro w6 hon B8; simp only [List.take_zero, List.nil_append, List.length_cons, List.length_nil, List.drop_succ_cons, List.drop_zero, List.append_nil, List.cons_append] at B8; have B58 := B5.only hon hne54; replace B3 := B3.only hon hne34; replace o3 := ow_only o3 hon hl4 (Nat.le_refl _); replace o7 := ow_only o7 hon hl4 (Nat.le_refl _)
                      refine hK.out _ _ B3 (fun hHeld => ?_)
                      clear hK K hHeld
                      (try simp only [Act.put, List.setIfInBounds_toArray, List.set_cons_zero, List.set_cons_succ])
                      refine wpAnyH_ready (rs := [9]) (by kernel_rfl) (by simp) ?_
                      refine AllReadyH.cons (o := _) rfl (fun K hK => ?_) ?_
                      · refine st_store rfl rfl B58 (news := [.bool (decide (Z7 < 0)), .slice A7 E7.length c7]) (by rfl) infoNum (by simp) (by simp [Value.oneCell']) ?_; intro w7 hon2 B9; simp only [List.take_zero, List.nil_append, List.length_cons, List.length_nil, List.drop_succ_cons, List.drop_zero, List.append_nil, List.cons_append] at B9; have B89 := B8.only hon2 (Ne.symm hne54); replace B3 := B3.only hon2 hne35; replace o3 := ow_only o3 hon2 hl5 (Nat.le_refl _); replace o7 := ow_only o7 hon2 hl5 (Nat.le_refl _)
                        refine hK.out _ _ B3 (fun hHeld => ?_)
                        clear hK K hHeld
                        (try simp only [Act.put, List.setIfInBounds_toArray, List.set_cons_zero, List.set_cons_succ])
                        refine wpAnyH_ready (rs := [10]) (by kernel_rfl) (by simp) ?_
                        refine AllReadyH.cons (o := _) rfl (fun K hK => ?_) AllReadyH.nil
                        go_simp
                        refine hK.out _ _ B3 (fun hHeld => ?_)
                        clear hK K hHeld
                        (try simp only [Act.put, List.setIfInBounds_toArray, List.set_cons_zero, List.set_cons_succ])
                        refine wpAnyH_done (by kernel_rfl) ?_ _
                        refine NoPanic.normal ?_
                        obtain ⟨rfl⟩ := hQ7
                        (go_wp2_with fail)
                        refine bodyPost_ret (results_cct rfl _ _ g4 g5 26 26 #[.bool (decide (Z3 < 0)), .slice A3 E3.length c3] #[.bool (decide (Z7 < 0)), .slice A7 E7.length c7] (0, 0) (0, 0) _ rfl rfl B89.h B9.h Tryd.underlying26 rfl Hsz.out Hsz.out) rfl ?_
                        exact ⟨_, rfl, ⟨_, _, rfl, ⟨.slice A3 E3.length c3, by rw [HZQ.out.1], by rw [HZQ.out.1, ← HE3.out]; exact o3.lower hbw.size⟩, ⟨.slice A7 E7.length c7, by rw [HZQ.out.2], by rw [HZQ.out.2, ← HE7.out]; exact o7.lower hbw.size⟩⟩, ((bthen hbw hcur).trans (hon.below hg4)).trans (hon2.below hg5)⟩
                      exact AllReadyH.nil
                    exact AllReadyH.nil
                  exact AllReadyH.nil
                exact AllReadyH.nil
              exact AllReadyH.nil
            exact AllReadyH.nil
          exact AllReadyH.nil
        refine AllReadyH.cons (o := _) rfl (fun K hK => ?_) ?_
        · go_simp
          refine hK.out _ _ B3 (fun hHeld => ?_)
          clear hK K hHeld
          (try simp only [Act.put, List.setIfInBounds_toArray, List.set_cons_zero, List.set_cons_succ])
          refine wpAnyH_ready (rs := [1, 6]) (by kernel_rfl) (by simp) ?_
          refine AllReadyH.cons (o := _) rfl (fun K hK => ?_) ?_
          · go_simp; refine (numInt_any (-1) _ (by omega) (by omega)).mono ?_; rintro e w6 ⟨v6, rfl, ht1, hbn⟩; obtain ⟨A1, c1, E1, rfl, o1, HE1, h11⟩ := told_sl ht1; clear ht1; have hl1 : Lim w6 A1 c1 E1 := lim_one o1 HE1.out h11; clear o1; replace B3 := B3.below hbn; replace B4 := B4.below hbn; replace B5 := B5.below hbn; replace hlq := hlq.below hbn; replace hlr := hlr.below hbn; replace hlb := hlb.below hbn; clear C4 C5; have C4 := B4.cells; have C5 := B5.cells; replace hcur := bthen hcur hbn; go_wp2_with fail
            refine hK.out _ _ B3 (fun hHeld => ?_)
            clear hK K hHeld
            (try simp only [Act.put, List.setIfInBounds_toArray, List.set_cons_zero, List.set_cons_succ])
            refine wpAnyH_ready (rs := [2, 6]) (by kernel_rfl) (by simp) ?_
            refine AllReadyH.cons (o := _) rfl (fun K hK => ?_) ?_
            · refine st_lit (v := fun g => .slice (some ⟨g, 0, none⟩) 2 2) 33 rfl (cs := [.bool qb, .slice A4 E4.length c4, .bool (decide ((-1 : Int) < 0)), .slice A1 E1.length c1]) (t := 26) (by go_simp; try rfl) ?_; intro g33 w6 hbn B33 hg33; replace B3 := B3.below hbn; replace B4 := B4.below hbn; replace B5 := B5.below hbn; replace hlq := hlq.below hbn; replace hlr := hlr.below hbn; replace hlb := hlb.below hbn; clear C4 C5; have C4 := B4.cells; have C5 := B5.cells; replace hl1 := hl1.below hbn; replace hcur := bthen hcur hbn
              refine hK.out _ _ B3 (fun hHeld => ?_)
              clear hK K hHeld
              (try simp only [Act.put, List.setIfInBounds_toArray, List.set_cons_zero, List.set_cons_succ])
              refine wpAnyH_ready (rs := [3, 6]) (by kernel_rfl) (by simp) ?_
              refine AllReadyH.cons (o := _) rfl (fun K hK => ?_) ?_
              · go_simp; refine (numAddAll_any [⟨qb, A4, c4, E4⟩, ⟨decide ((-1 : Int) < 0), A1, c1, E1⟩] 2 rfl _ 2 w6 (B33.rd (l := [⟨qb, A4, c4, E4⟩, ⟨decide ((-1 : Int) < 0), A1, c1, E1⟩]) lenN rfl) (Nat.le_refl _) (two_limN hlq hl1) 274877906942 (two_len hE4 (one_len HE1.out)) (by omega) (by omega)).mono ?_; rintro e w6 ⟨v6, rfl, ht3, hbn⟩; rw [HZ3.out A4 c4 E4 A1 c1 E1 HE4.out HE1.out] at ht3; obtain ⟨A3, c3, E3, rfl, o3, HE3, h31⟩ := told_sl ht3; replace o3 := o3.lower hcur.size; clear ht3 hl1 B33; replace B3 := B3.below hbn; replace B4 := B4.below hbn; replace B5 := B5.below hbn; replace hlq := hlq.below hbn; replace hlr := hlr.below hbn; replace hlb := hlb.below hbn; clear C4 C5; have C4 := B4.cells; have C5 := B5.cells; replace hcur := bthen hcur hbn; go_wp2_with fail
                refine hK.out _ _ B3 (fun hHeld => ?_)
                clear hK K hHeld
                (try simp only [Act.put, List.setIfInBounds_toArray, List.set_cons_zero, List.set_cons_succ])
                refine wpAnyH_ready (rs := [6]) (by kernel_rfl) (by simp) ?_
                refine AllReadyH.cons (o := _) rfl (fun K hK => ?_) ?_
                · refine st_lit (v := fun g => .slice (some ⟨g, 0, none⟩) 2 2) 37 rfl (cs := [.bool rb, .slice A5 E5.length c5, .bool n2, .slice A2 m.length c2]) (t := 26) (by go_simp; try rfl) ?_; intro g37 w6 hbn B37 hg37; replace B3 := B3.below hbn; replace B4 := B4.below hbn; replace B5 := B5.below hbn; replace hlq := hlq.below hbn; replace hlr := hlr.below hbn; replace hlb := hlb.below hbn; clear C4 C5; have C4 := B4.cells; have C5 := B5.cells; replace o3 := o3.below hbn; replace hcur := bthen hcur hbn
                  refine hK.out _ _ B3 (fun hHeld => ?_)
                  clear hK K hHeld
                  (try simp only [Act.put, List.setIfInBounds_toArray, List.set_cons_zero, List.set_cons_succ])
                  refine wpAnyH_ready (rs := [7]) (by kernel_rfl) (by simp) ?_
                  refine AllReadyH.cons (o := _) rfl (fun K hK => ?_) ?_
                  · go_simp; refine (numAddAll_any [⟨rb, A5, c5, E5⟩, ⟨n2, A2, c2, m⟩] 2 rfl _ 2 w6 (B37.rd (l := [⟨rb, A5, c5, E5⟩, ⟨n2, A2, c2, m⟩]) lenN rfl) (Nat.le_refl _) (two_limN hlr hlb) 274877906942 (two_len hE5 hml) (by omega) (by omega)).mono ?_; rintro e w6 ⟨v6, rfl, ht7, hbn⟩; rw [HZ7.out A5 c5 E5 HE5.out] at ht7; obtain ⟨A7, c7, E7, rfl, o7, HE7, h71⟩ := told_sl ht7; replace o7 := o7.lower hcur.size; clear ht7 B37; replace B3 := B3.below hbn; replace B4 := B4.below hbn; replace B5 := B5.below hbn; replace hlq := hlq.below hbn; replace hlr := hlr.below hbn; replace hlb := hlb.below hbn; clear C4 C5; have C4 := B4.cells; have C5 := B5.cells; replace o3 := o3.below hbn; replace hcur := bthen hcur hbn; go_wp2_with fail
                    refine hK.out _ _ B3 (fun hHeld => ?_)
                    clear hK K hHeld
                    (try simp only [Act.put, List.setIfInBounds_toArray, List.set_cons_zero, List.set_cons_succ])
                    refine wpAnyH_ready (rs := [8]) (by kernel_rfl) (by simp) ?_
                    refine AllReadyH.cons (o := _) rfl (fun K hK => ?_) ?_
                    · refine st_store rfl rfl B4 (news := [.bool (decide (Z3 < 0)), .slice A3 E3.length c3]) (by rfl) infoNum (by simp) (by simp [Value.oneCell']) ?_; intro w6 hon B8; simp only [List.take_zero, List.nil_append, List.length_cons, List.length_nil, List.drop_succ_cons, List.drop_zero, List.append_nil, List.cons_append] at B8; have B58 := B5.only hon hne54; replace B3 := B3.only hon hne34; replace o3 := ow_only o3 hon hl4 (Nat.le_refl _); replace o7 := ow_only o7 hon hl4 (Nat.le_refl _)
                      refine hK.out _ _ B3 (fun hHeld => ?_)
                      clear hK K hHeld
                      (try simp only [Act.put, List.setIfInBounds_toArray, List.set_cons_zero, List.set_cons_succ])
                      refine wpAnyH_ready (rs := [9]) (by kernel_rfl) (by simp) ?_
                      refine AllReadyH.cons (o := _) rfl (fun K hK => ?_) ?_
                      · refine st_store rfl rfl B58 (news := [.bool (decide (Z7 < 0)), .slice A7 E7.length c7]) (by rfl) infoNum (by simp) (by simp [Value.oneCell']) ?_; intro w7 hon2 B9; simp only [List.take_zero, List.nil_append, List.length_cons, List.length_nil, List.drop_succ_cons, List.drop_zero, List.append_nil, List.cons_append] at B9; have B89 := B8.only hon2 (Ne.symm hne54); replace B3 := B3.only hon2 hne35; replace o3 := ow_only o3 hon2 hl5 (Nat.le_refl _); replace o7 := ow_only o7 hon2 hl5 (Nat.le_refl _)
                        refine hK.out _ _ B3 (fun hHeld => ?_)
                        clear hK K hHeld
                        (try simp only [Act.put, List.setIfInBounds_toArray, List.set_cons_zero, List.set_cons_succ])
                        refine wpAnyH_ready (rs := [10]) (by kernel_rfl) (by simp) ?_
                        refine AllReadyH.cons (o := _) rfl (fun K hK => ?_) AllReadyH.nil
                        go_simp
                        refine hK.out _ _ B3 (fun hHeld => ?_)
                        clear hK K hHeld
                        (try simp only [Act.put, List.setIfInBounds_toArray, List.set_cons_zero, List.set_cons_succ])
                        refine wpAnyH_done (by kernel_rfl) ?_ _
                        refine NoPanic.normal ?_
                        obtain ⟨rfl⟩ := hQ7
                        (go_wp2_with fail)
                        refine bodyPost_ret (results_cct rfl _ _ g4 g5 26 26 #[.bool (decide (Z3 < 0)), .slice A3 E3.length c3] #[.bool (decide (Z7 < 0)), .slice A7 E7.length c7] (0, 0) (0, 0) _ rfl rfl B89.h B9.h Tryd.underlying26 rfl Hsz.out Hsz.out) rfl ?_
                        exact ⟨_, rfl, ⟨_, _, rfl, ⟨.slice A3 E3.length c3, by rw [HZQ.out.1], by rw [HZQ.out.1, ← HE3.out]; exact o3.lower hbw.size⟩, ⟨.slice A7 E7.length c7, by rw [HZQ.out.2], by rw [HZQ.out.2, ← HE7.out]; exact o7.lower hbw.size⟩⟩, ((bthen hbw hcur).trans (hon.below hg4)).trans (hon2.below hg5)⟩
                      exact AllReadyH.nil
                    exact AllReadyH.nil
                  exact AllReadyH.nil
                exact AllReadyH.nil
              refine AllReadyH.cons (o := _) rfl (fun K hK => ?_) ?_
              · refine st_lit (v := fun g => .slice (some ⟨g, 0, none⟩) 2 2) 37 rfl (cs := [.bool rb, .slice A5 E5.length c5, .bool n2, .slice A2 m.length c2]) (t := 26) (by go_simp; try rfl) ?_; intro g37 w6 hbn B37 hg37; replace B3 := B3.below hbn; replace B4 := B4.below hbn; replace B5 := B5.below hbn; replace hlq := hlq.below hbn; replace hlr := hlr.below hbn; replace hlb := hlb.below hbn; clear C4 C5; have C4 := B4.cells; have C5 := B5.cells; replace hl1 := hl1.below hbn; replace B33 := B33.below hbn; replace hcur := bthen hcur hbn
                refine hK.out _ _ B3 (fun hHeld => ?_)
                clear hK K hHeld
                (try simp only [Act.put, List.setIfInBounds_toArray, List.set_cons_zero, List.set_cons_succ])
                refine wpAnyH_ready (rs := [3]) (by kernel_rfl) (by simp) ?_
                refine AllReadyH.cons (o := _) rfl (fun K hK => ?_) ?_
                · go_simp; refine (numAddAll_any [⟨qb, A4, c4, E4⟩, ⟨decide ((-1 : Int) < 0), A1, c1, E1⟩] 2 rfl _ 2 w6 (B33.rd (l := [⟨qb, A4, c4, E4⟩, ⟨decide ((-1 : Int) < 0), A1, c1, E1⟩]) lenN rfl) (Nat.le_refl _) (two_limN hlq hl1) 274877906942 (two_len hE4 (one_len HE1.out)) (by omega) (by omega)).mono ?_; rintro e w6 ⟨v6, rfl, ht3, hbn⟩; rw [HZ3.out A4 c4 E4 A1 c1 E1 HE4.out HE1.out] at ht3; obtain ⟨A3, c3, E3, rfl, o3, HE3, h31⟩ := told_sl ht3; replace o3 := o3.lower hcur.size; clear ht3 hl1 B33; replace B3 := B3.below hbn; replace B4 := B4.below hbn; replace B5 := B5.below hbn; replace hlq := hlq.below hbn; replace hlr := hlr.below hbn; replace hlb := hlb.below hbn; clear C4 C5; have C4 := B4.cells; have C5 := B5.cells; replace B37 := B37.below hbn; replace hcur := bthen hcur hbn; go_wp2_with fail
                  refine hK.out _ _ B3 (fun hHeld => ?_)
                  clear hK K hHeld
                  (try simp only [Act.put, List.setIfInBounds_toArray, List.set_cons_zero, List.set_cons_succ])
                  refine wpAnyH_ready (rs := [7]) (by kernel_rfl) (by simp) ?_
                  refine AllReadyH.cons (o := _) rfl (fun K hK => ?_) ?_
                  · go_simp; refine (numAddAll_any [⟨rb, A5, c5, E5⟩, ⟨n2, A2, c2, m⟩] 2 rfl _ 2 w6 (B37.rd (l := [⟨rb, A5, c5, E5⟩, ⟨n2, A2, c2, m⟩]) lenN rfl) (Nat.le_refl _) (two_limN hlr hlb) 274877906942 (two_len hE5 hml) (by omega) (by omega)).mono ?_; rintro e w6 ⟨v6, rfl, ht7, hbn⟩; rw [HZ7.out A5 c5 E5 HE5.out] at ht7; obtain ⟨A7, c7, E7, rfl, o7, HE7, h71⟩ := told_sl ht7; replace o7 := o7.lower hcur.size; clear ht7 B37; replace B3 := B3.below hbn; replace B4 := B4.below hbn; replace B5 := B5.below hbn; replace hlq := hlq.below hbn; replace hlr := hlr.below hbn; replace hlb := hlb.below hbn; clear C4 C5; have C4 := B4.cells; have C5 := B5.cells; replace o3 := o3.below hbn; replace hcur := bthen hcur hbn; go_wp2_with fail
                    refine hK.out _ _ B3 (fun hHeld => ?_)
                    clear hK K hHeld
                    (try simp only [Act.put, List.setIfInBounds_toArray, List.set_cons_zero, List.set_cons_succ])
                    refine wpAnyH_ready (rs := [8]) (by kernel_rfl) (by simp) ?_
                    refine AllReadyH.cons (o := _) rfl (fun K hK => ?_) ?_
                    · refine st_store rfl rfl B4 (news := [.bool (decide (Z3 < 0)), .slice A3 E3.length c3]) (by rfl) infoNum (by simp) (by simp [Value.oneCell']) ?_; intro w6 hon B8; simp only [List.take_zero, List.nil_append, List.length_cons, List.length_nil, List.drop_succ_cons, List.drop_zero, List.append_nil, List.cons_append] at B8; have B58 := B5.only hon hne54; replace B3 := B3.only hon hne34; replace o3 := ow_only o3 hon hl4 (Nat.le_refl _); replace o7 := ow_only o7 hon hl4 (Nat.le_refl _)
                      refine hK.out _ _ B3 (fun hHeld => ?_)
                      clear hK K hHeld
                      (try simp only [Act.put, List.setIfInBounds_toArray, List.set_cons_zero, List.set_cons_succ])
                      refine wpAnyH_ready (rs := [9]) (by kernel_rfl) (by simp) ?_
                      refine AllReadyH.cons (o := _) rfl (fun K hK => ?_) ?_
                      · refine st_store rfl rfl B58 (news := [.bool (decide (Z7 < 0)), .slice A7 E7.length c7]) (by rfl) infoNum (by simp) (by simp [Value.oneCell']) ?_; intro w7 hon2 B9; simp only [List.take_zero, List.nil_append, List.length_cons, List.length_nil, List.drop_succ_cons, List.drop_zero, List.append_nil, List.cons_append] at B9; have B89 := B8.only hon2 (Ne.symm hne54); replace B3 := B3.only hon2 hne35; replace o3 := ow_only o3 hon2 hl5 (Nat.le_refl _); replace o7 := ow_only o7 hon2 hl5 (Nat.le_refl _)
                        refine hK.out _ _ B3 (fun hHeld => ?_)
                        clear hK K hHeld
                        (try simp only [Act.put, List.setIfInBounds_toArray, List.set_cons_zero, List.set_cons_succ])
                        refine wpAnyH_ready (rs := [10]) (by kernel_rfl) (by simp) ?_
                        refine AllReadyH.cons (o := _) rfl (fun K hK => ?_) AllReadyH.nil
                        go_simp
                        refine hK.out _ _ B3 (fun hHeld => ?_)
                        clear hK K hHeld
                        (try simp only [Act.put, List.setIfInBounds_toArray, List.set_cons_zero, List.set_cons_succ])
                        refine wpAnyH_done (by kernel_rfl) ?_ _
                        refine NoPanic.normal ?_
                        obtain ⟨rfl⟩ := hQ7
                        (go_wp2_with fail)
                        refine bodyPost_ret (results_cct rfl _ _ g4 g5 26 26 #[.bool (decide (Z3 < 0)), .slice A3 E3.length c3] #[.bool (decide (Z7 < 0)), .slice A7 E7.length c7] (0, 0) (0, 0) _ rfl rfl B89.h B9.h Tryd.underlying26 rfl Hsz.out Hsz.out) rfl ?_
                        exact ⟨_, rfl, ⟨_, _, rfl, ⟨.slice A3 E3.length c3, by rw [HZQ.out.1], by rw [HZQ.out.1, ← HE3.out]; exact o3.lower hbw.size⟩, ⟨.slice A7 E7.length c7, by rw [HZQ.out.2], by rw [HZQ.out.2, ← HE7.out]; exact o7.lower hbw.size⟩⟩, ((bthen hbw hcur).trans (hon.below hg4)).trans (hon2.below hg5)⟩
                      exact AllReadyH.nil
                    exact AllReadyH.nil
                  exact AllReadyH.nil
                exact AllReadyH.nil
              exact AllReadyH.nil
            refine AllReadyH.cons (o := _) rfl (fun K hK => ?_) ?_
            · refine st_lit (v := fun g => .slice (some ⟨g, 0, none⟩) 2 2) 37 rfl (cs := [.bool rb, .slice A5 E5.length c5, .bool n2, .slice A2 m.length c2]) (t := 26) (by go_simp; try rfl) ?_; intro g37 w6 hbn B37 hg37; replace B3 := B3.below hbn; replace B4 := B4.below hbn; replace B5 := B5.below hbn; replace hlq := hlq.below hbn; replace hlr := hlr.below hbn; replace hlb := hlb.below hbn; clear C4 C5; have C4 := B4.cells; have C5 := B5.cells; replace hl1 := hl1.below hbn; replace hcur := bthen hcur hbn
              refine hK.out _ _ B3 (fun hHeld => ?_)
              clear hK K hHeld
              (try simp only [Act.put, List.setIfInBounds_toArray, List.set_cons_zero, List.set_cons_succ])
              refine wpAnyH_ready (rs := [2]) (by kernel_rfl) (by simp) ?_
              refine AllReadyH.cons (o := _) rfl (fun K hK => ?_) ?_
              · refine st_lit (v := fun g => .slice (some ⟨g, 0, none⟩) 2 2) 33 rfl (cs := [.bool qb, .slice A4 E4.length c4, .bool (decide ((-1 : Int) < 0)), .slice A1 E1.length c1]) (t := 26) (by go_simp; try rfl) ?_; intro g33 w6 hbn B33 hg33; replace B3 := B3.below hbn; replace B4 := B4.below hbn; replace B5 := B5.below hbn; replace hlq := hlq.below hbn; replace hlr := hlr.below hbn; replace hlb := hlb.below hbn; clear C4 C5; have C4 := B4.cells; have C5 := B5.cells; replace hl1 := hl1.below hbn; replace B37 := B37.below hbn; replace hcur := bthen hcur hbn
                refine hK.out _ _ B3 (fun hHeld => ?_)
                clear hK K hHeld
                (try simp only [Act.put, List.setIfInBounds_toArray, List.set_cons_zero, List.set_cons_succ])
                refine wpAnyH_ready (rs := [3]) (by kernel_rfl) (by simp) ?_
                refine AllReadyH.cons (o := _) rfl (fun K hK => ?_) ?_
                · go_simp; refine (numAddAll_any [⟨qb, A4, c4, E4⟩, ⟨decide ((-1 : Int) < 0), A1, c1, E1⟩] 2 rfl _ 2 w6 (B33.rd (l := [⟨qb, A4, c4, E4⟩, ⟨decide ((-1 : Int) < 0), A1, c1, E1⟩]) lenN rfl) (Nat.le_refl _) (two_limN hlq hl1) 274877906942 (two_len hE4 (one_len HE1.out)) (by omega) (by omega)).mono ?_; rintro e w6 ⟨v6, rfl, ht3, hbn⟩; rw [HZ3.out A4 c4 E4 A1 c1 E1 HE4.out HE1.out] at ht3; obtain ⟨A3, c3, E3, rfl, o3, HE3, h31⟩ := told_sl ht3; replace o3 := o3.lower hcur.size; clear ht3 hl1 B33; replace B3 := B3.below hbn; replace B4 := B4.below hbn; replace B5 := B5.below hbn; replace hlq := hlq.below hbn; replace hlr := hlr.below hbn; replace hlb := hlb.below hbn; clear C4 C5; have C4 := B4.cells; have C5 := B5.cells; replace B37 := B37.below hbn; replace hcur := bthen hcur hbn; go_wp2_with fail
                  refine hK.out _ _ B3 (fun hHeld => ?_)
                  clear hK K hHeld
                  (try simp only [Act.put, List.setIfInBounds_toArray, List.set_cons_zero, List.set_cons_succ])
                  refine wpAnyH_ready (rs := [7]) (by kernel_rfl) (by simp) ?_
                  refine AllReadyH.cons (o := _) rfl (fun K hK => ?_) ?_
                  · go_simp; refine (numAddAll_any [⟨rb, A5, c5, E5⟩, ⟨n2, A2, c2, m⟩] 2 rfl _ 2 w6 (B37.rd (l := [⟨rb, A5, c5, E5⟩, ⟨n2, A2, c2, m⟩]) lenN rfl) (Nat.le_refl _) (two_limN hlr hlb) 274877906942 (two_len hE5 hml) (by omega) (by omega)).mono ?_; rintro e w6 ⟨v6, rfl, ht7, hbn⟩; rw [HZ7.out A5 c5 E5 HE5.out] at ht7; obtain ⟨A7, c7, E7, rfl, o7, HE7, h71⟩ := told_sl ht7; replace o7 := o7.lower hcur.size; clear ht7 B37; replace B3 := B3.below hbn; replace B4 := B4.below hbn; replace B5 := B5.below hbn; replace hlq := hlq.below hbn; replace hlr := hlr.below hbn; replace hlb := hlb.below hbn; clear C4 C5; have C4 := B4.cells; have C5 := B5.cells; replace o3 := o3.below hbn; replace hcur := bthen hcur hbn; go_wp2_with fail
                    refine hK.out _ _ B3 (fun hHeld => ?_)
                    clear hK K hHeld
                    (try simp only [Act.put, List.setIfInBounds_toArray, List.set_cons_zero, List.set_cons_succ])
                    refine wpAnyH_ready (rs := [8]) (by kernel_rfl) (by simp) ?_
                    refine AllReadyH.cons (o := _) rfl (fun K hK => ?_) ?_
                    · refine st_store rfl rfl B4 (news := [.bool (decide (Z3 < 0)), .slice A3 E3.length c3]) (by rfl) infoNum (by simp) (by simp [Value.oneCell']) ?_; intro w6 hon B8; simp only [List.take_zero, List.nil_append, List.length_cons, List.length_nil, List.drop_succ_cons, List.drop_zero, List.append_nil, List.cons_append] at B8; have B58 := B5.only hon hne54; replace B3 := B3.only hon hne34; replace o3 := ow_only o3 hon hl4 (Nat.le_refl _); replace o7 := ow_only o7 hon hl4 (Nat.le_refl _)
                      refine hK.out _ _ B3 (fun hHeld => ?_)
                      clear hK K hHeld
                      (try simp only [Act.put, List.setIfInBounds_toArray, List.set_cons_zero, List.set_cons_succ])
                      refine wpAnyH_ready (rs := [9]) (by kernel_rfl) (by simp) ?_
                      refine AllReadyH.cons (o := _) rfl (fun K hK => ?_) ?_
                      · refine st_store rfl rfl B58 (news := [.bool (decide (Z7 < 0)), .slice A7 E7.length c7]) (by rfl) infoNum (by simp) (by simp [Value.oneCell']) ?_; intro w7 hon2 B9; simp only [List.take_zero, List.nil_append, List.length_cons, List.length_nil, List.drop_succ_cons, List.drop_zero, List.append_nil, List.cons_append] at B9; have B89 := B8.only hon2 (Ne.symm hne54); replace B3 := B3.only hon2 hne35; replace o3 := ow_only o3 hon2 hl5 (Nat.le_refl _); replace o7 := ow_only o7 hon2 hl5 (Nat.le_refl _)
                        refine hK.out _ _ B3 (fun hHeld => ?_)
                        clear hK K hHeld
                        (try simp only [Act.put, List.setIfInBounds_toArray, List.set_cons_zero, List.set_cons_succ])
                        refine wpAnyH_ready (rs := [10]) (by kernel_rfl) (by simp) ?_
                        refine AllReadyH.cons (o := _) rfl (fun K hK => ?_) AllReadyH.nil
                        go_simp
                        refine hK.out _ _ B3 (fun hHeld => ?_)
                        clear hK K hHeld
                        (try simp only [Act.put, List.setIfInBounds_toArray, List.set_cons_zero, List.set_cons_succ])
                        refine wpAnyH_done (by kernel_rfl) ?_ _
                        refine NoPanic.normal ?_
                        obtain ⟨rfl⟩ := hQ7
                        (go_wp2_with fail)
                        refine bodyPost_ret (results_cct rfl _ _ g4 g5 26 26 #[.bool (decide (Z3 < 0)), .slice A3 E3.length c3] #[.bool (decide (Z7 < 0)), .slice A7 E7.length c7] (0, 0) (0, 0) _ rfl rfl B89.h B9.h Tryd.underlying26 rfl Hsz.out Hsz.out) rfl ?_
                        exact ⟨_, rfl, ⟨_, _, rfl, ⟨.slice A3 E3.length c3, by rw [HZQ.out.1], by rw [HZQ.out.1, ← HE3.out]; exact o3.lower hbw.size⟩, ⟨.slice A7 E7.length c7, by rw [HZQ.out.2], by rw [HZQ.out.2, ← HE7.out]; exact o7.lower hbw.size⟩⟩, ((bthen hbw hcur).trans (hon.below hg4)).trans (hon2.below hg5)⟩
                      exact AllReadyH.nil
                    exact AllReadyH.nil
                  exact AllReadyH.nil
                exact AllReadyH.nil
              exact AllReadyH.nil
            exact AllReadyH.nil
          refine AllReadyH.cons (o := _) rfl (fun K hK => ?_) ?_
          · refine st_lit (v := fun g => .slice (some ⟨g, 0, none⟩) 2 2) 37 rfl (cs := [.bool rb, .slice A5 E5.length c5, .bool n2, .slice A2 m.length c2]) (t := 26) (by go_simp; try rfl) ?_; intro g37 w6 hbn B37 hg37; replace B3 := B3.below hbn; replace B4 := B4.below hbn; replace B5 := B5.below hbn; replace hlq := hlq.below hbn; replace hlr := hlr.below hbn; replace hlb := hlb.below hbn; clear C4 C5; have C4 := B4.cells; have C5 := B5.cells; replace hcur := bthen hcur hbn
            refine hK.out _ _ B3 (fun hHeld => ?_)
            clear hK K hHeld
            (try simp only [Act.put, List.setIfInBounds_toArray, List.set_cons_zero, List.set_cons_succ])
            refine wpAnyH_ready (rs := [1]) (by kernel_rfl) (by simp) ?_
            refine AllReadyH.cons (o := _) rfl (fun K hK => ?_) ?_
            · go_simp; refine (numInt_any (-1) _ (by omega) (by omega)).mono ?_; rintro e w6 ⟨v6, rfl, ht1, hbn⟩; obtain ⟨A1, c1, E1, rfl, o1, HE1, h11⟩ := told_sl ht1; clear ht1; have hl1 : Lim w6 A1 c1 E1 := lim_one o1 HE1.out h11; clear o1; replace B3 := B3.below hbn; replace B4 := B4.below hbn; replace B5 := B5.below hbn; replace hlq := hlq.below hbn; replace hlr := hlr.below hbn; replace hlb := hlb.below hbn; clear C4 C5; have C4 := B4.cells; have C5 := B5.cells; replace B37 := B37.below hbn; replace hcur := bthen hcur hbn; go_wp2_with fail
              refine hK.out _ _ B3 (fun hHeld => ?_)
              clear hK K hHeld
              (try simp only [Act.put, List.setIfInBounds_toArray, List.set_cons_zero, List.set_cons_succ])
              refine wpAnyH_ready (rs := [2]) (by kernel_rfl) (by simp) ?_
              refine AllReadyH.cons (o := _) rfl (fun K hK => ?_) ?_
              · refine st_lit (v := fun g => .slice (some ⟨g, 0, none⟩) 2 2) 33 rfl (cs := [.bool qb, .slice A4 E4.length c4, .bool (decide ((-1 : Int) < 0)), .slice A1 E1.length c1]) (t := 26) (by go_simp; try rfl) ?_; intro g33 w6 hbn B33 hg33; replace B3 := B3.below hbn; replace B4 := B4.below hbn; replace B5 := B5.below hbn; replace hlq := hlq.below hbn; replace hlr := hlr.below hbn; replace hlb := hlb.below hbn; clear C4 C5; have C4 := B4.cells; have C5 := B5.cells; replace hl1 := hl1.below hbn; replace B37 := B37.below hbn; replace hcur := bthen hcur hbn
                refine hK.out _ _ B3 (fun hHeld => ?_)
                clear hK K hHeld
                (try simp only [Act.put, List.setIfInBounds_toArray, List.set_cons_zero, List.set_cons_succ])
                refine wpAnyH_ready (rs := [3]) (by kernel_rfl) (by simp) ?_
                refine AllReadyH.cons (o := _) rfl (fun K hK => ?_) ?_
                · go_simp; refine (numAddAll_any [⟨qb, A4, c4, E4⟩, ⟨decide ((-1 : Int) < 0), A1, c1, E1⟩] 2 rfl _ 2 w6 (B33.rd (l := [⟨qb, A4, c4, E4⟩, ⟨decide ((-1 : Int) < 0), A1, c1, E1⟩]) lenN rfl) (Nat.le_refl _) (two_limN hlq hl1) 274877906942 (two_len hE4 (one_len HE1.out)) (by omega) (by omega)).mono ?_; rintro e w6 ⟨v6, rfl, ht3, hbn⟩; rw [HZ3.out A4 c4 E4 A1 c1 E1 HE4.out HE1.out] at ht3; obtain ⟨A3, c3, E3, rfl, o3, HE3, h31⟩ := told_sl ht3; replace o3 := o3.lower hcur.size; clear ht3 hl1 B33; replace B3 := B3.below hbn; replace B4 := B4.below hbn; replace B5 := B5.below hbn; replace hlq := hlq.below hbn; replace hlr := hlr.below hbn; replace hlb := hlb.below hbn; clear C4 C5; have C4 := B4.cells; have C5 := B5.cells; replace B37 := B37.below hbn; replace hcur := bthen hcur hbn; go_wp2_with fail
                  refine hK.out _ _ B3 (fun hHeld => ?_)
                  clear hK K hHeld
                  (try simp only [Act.put, List.setIfInBounds_toArray, List.set_cons_zero, List.set_cons_succ])
                  refine wpAnyH_ready (rs := [7]) (by kernel_rfl) (by simp) ?_
                  refine AllReadyH.cons (o := _) rfl (fun K hK => ?_) ?_
                  · go_simp; refine (numAddAll_any [⟨rb, A5, c5, E5⟩, ⟨n2, A2, c2, m⟩] 2 rfl _ 2 w6 (B37.rd (l := [⟨rb, A5, c5, E5⟩, ⟨n2, A2, c2, m⟩]) lenN rfl) (Nat.le_refl _) (two_limN hlr hlb) 274877906942 (two_len hE5 hml) (by omega) (by omega)).mono ?_; rintro e w6 ⟨v6, rfl, ht7, hbn⟩; rw [HZ7.out A5 c5 E5 HE5.out] at ht7; obtain ⟨A7, c7, E7, rfl, o7, HE7, h71⟩ := told_sl ht7; replace o7 := o7.lower hcur.size; clear ht7 B37; replace B3 := B3.below hbn; replace B4 := B4.below hbn; replace B5 := B5.below hbn; replace hlq := hlq.below hbn; replace hlr := hlr.below hbn; replace hlb := hlb.below hbn; clear C4 C5; have C4 := B4.cells; have C5 := B5.cells; replace o3 := o3.below hbn; replace hcur := bthen hcur hbn; go_wp2_with fail
                    refine hK.out _ _ B3 (fun hHeld => ?_)
                    clear hK K hHeld
                    (try simp only [Act.put, List.setIfInBounds_toArray, List.set_cons_zero, List.set_cons_succ])
                    refine wpAnyH_ready (rs := [8]) (by kernel_rfl) (by simp) ?_
                    refine AllReadyH.cons (o := _) rfl (fun K hK => ?_) ?_
                    · refine st_store rfl rfl B4 (news := [.bool (decide (Z3 < 0)), .slice A3 E3.length c3]) (by rfl) infoNum (by simp) (by simp [Value.oneCell']) ?_; intro w6 hon B8; simp only [List.take_zero, List.nil_append, List.length_cons, List.length_nil, List.drop_succ_cons, List.drop_zero, List.append_nil, List.cons_append] at B8; have B58 := B5.only hon hne54; replace B3 := B3.only hon hne34; replace o3 := ow_only o3 hon hl4 (Nat.le_refl _); replace o7 := ow_only o7 hon hl4 (Nat.le_refl _)
                      refine hK.out _ _ B3 (fun hHeld => ?_)
                      clear hK K hHeld
                      (try simp only [Act.put, List.setIfInBounds_toArray, List.set_cons_zero, List.set_cons_succ])
                      refine wpAnyH_ready (rs := [9]) (by kernel_rfl) (by simp) ?_
                      refine AllReadyH.cons (o := _) rfl (fun K hK => ?_) ?_
                      · refine st_store rfl rfl B58 (news := [.bool (decide (Z7 < 0)), .slice A7 E7.length c7]) (by rfl) infoNum (by simp) (by simp [Value.oneCell']) ?_; intro w7 hon2 B9; simp only [List.take_zero, List.nil_append, List.length_cons, List.length_nil, List.drop_succ_cons, List.drop_zero, List.append_nil, List.cons_append] at B9; have B89 := B8.only hon2 (Ne.symm hne54); replace B3 := B3.only hon2 hne35; replace o3 := ow_only o3 hon2 hl5 (Nat.le_refl _); replace o7 := ow_only o7 hon2 hl5 (Nat.le_refl _)
                        refine hK.out _ _ B3 (fun hHeld => ?_)
                        clear hK K hHeld
                        (try simp only [Act.put, List.setIfInBounds_toArray, List.set_cons_zero, List.set_cons_succ])
                        refine wpAnyH_ready (rs := [10]) (by kernel_rfl) (by simp) ?_
                        refine AllReadyH.cons (o := _) rfl (fun K hK => ?_) AllReadyH.nil
                        go_simp
                        refine hK.out _ _ B3 (fun hHeld => ?_)
                        clear hK K hHeld
                        (try simp only [Act.put, List.setIfInBounds_toArray, List.set_cons_zero, List.set_cons_succ])
                        refine wpAnyH_done (by kernel_rfl) ?_ _
                        refine NoPanic.normal ?_
                        obtain ⟨rfl⟩ := hQ7
                        (go_wp2_with fail)
                        refine bodyPost_ret (results_cct rfl _ _ g4 g5 26 26 #[.bool (decide (Z3 < 0)), .slice A3 E3.length c3] #[.bool (decide (Z7 < 0)), .slice A7 E7.length c7] (0, 0) (0, 0) _ rfl rfl B89.h B9.h Tryd.underlying26 rfl Hsz.out Hsz.out) rfl ?_
                        exact ⟨_, rfl, ⟨_, _, rfl, ⟨.slice A3 E3.length c3, by rw [HZQ.out.1], by rw [HZQ.out.1, ← HE3.out]; exact o3.lower hbw.size⟩, ⟨.slice A7 E7.length c7, by rw [HZQ.out.2], by rw [HZQ.out.2, ← HE7.out]; exact o7.lower hbw.size⟩⟩, ((bthen hbw hcur).trans (hon.below hg4)).trans (hon2.below hg5)⟩
                      exact AllReadyH.nil
                    exact AllReadyH.nil
                  exact AllReadyH.nil
                exact AllReadyH.nil
              exact AllReadyH.nil
            exact AllReadyH.nil
          exact AllReadyH.nil
        exact AllReadyH.nil
      refine AllReadyH.cons (o := _) rfl (fun K hK => ?_) ?_
      · go_simp; refine (numInt_any (-1) _ (by omega) (by omega)).mono ?_; rintro e w6 ⟨v6, rfl, ht1, hbn⟩; obtain ⟨A1, c1, E1, rfl, o1, HE1, h11⟩ := told_sl ht1; clear ht1; have hl1 : Lim w6 A1 c1 E1 := lim_one o1 HE1.out h11; clear o1; replace B3 := B3.below hbn; replace B4 := B4.below hbn; replace B5 := B5.below hbn; replace hlq := hlq.below hbn; replace hlr := hlr.below hbn; replace hlb := hlb.below hbn; clear C4 C5; have C4 := B4.cells; have C5 := B5.cells; replace hcur := bthen hcur hbn; go_wp2_with fail
        refine hK.out _ _ B3 (fun hHeld => ?_)
        clear hK K hHeld
        (try simp only [Act.put, List.setIfInBounds_toArray, List.set_cons_zero, List.set_cons_succ])
        refine wpAnyH_ready (rs := [0, 4]) (by kernel_rfl) (by simp) ?_
        refine AllReadyH.cons (o := _) rfl (fun K hK => ?_) ?_
        · go_simp
          refine hK.out _ _ B3 (fun hHeld => ?_)
          clear hK K hHeld
          (try simp only [Act.put, List.setIfInBounds_toArray, List.set_cons_zero, List.set_cons_succ])
          refine wpAnyH_ready (rs := [2, 4]) (by kernel_rfl) (by simp) ?_
          refine AllReadyH.cons (o := _) rfl (fun K hK => ?_) ?_
          · refine st_lit (v := fun g => .slice (some ⟨g, 0, none⟩) 2 2) 33 rfl (cs := [.bool qb, .slice A4 E4.length c4, .bool (decide ((-1 : Int) < 0)), .slice A1 E1.length c1]) (t := 26) (by go_simp; try rfl) ?_; intro g33 w6 hbn B33 hg33; replace B3 := B3.below hbn; replace B4 := B4.below hbn; replace B5 := B5.below hbn; replace hlq := hlq.below hbn; replace hlr := hlr.below hbn; replace hlb := hlb.below hbn; clear C4 C5; have C4 := B4.cells; have C5 := B5.cells; replace hl1 := hl1.below hbn; replace hcur := bthen hcur hbn
            refine hK.out _ _ B3 (fun hHeld => ?_)
            clear hK K hHeld
            (try simp only [Act.put, List.setIfInBounds_toArray, List.set_cons_zero, List.set_cons_succ])
            refine wpAnyH_ready (rs := [3, 4]) (by kernel_rfl) (by simp) ?_
            refine AllReadyH.cons (o := _) rfl (fun K hK => ?_) ?_
            · go_simp; refine (numAddAll_any [⟨qb, A4, c4, E4⟩, ⟨decide ((-1 : Int) < 0), A1, c1, E1⟩] 2 rfl _ 2 w6 (B33.rd (l := [⟨qb, A4, c4, E4⟩, ⟨decide ((-1 : Int) < 0), A1, c1, E1⟩]) lenN rfl) (Nat.le_refl _) (two_limN hlq hl1) 274877906942 (two_len hE4 (one_len HE1.out)) (by omega) (by omega)).mono ?_; rintro e w6 ⟨v6, rfl, ht3, hbn⟩; rw [HZ3.out A4 c4 E4 A1 c1 E1 HE4.out HE1.out] at ht3; obtain ⟨A3, c3, E3, rfl, o3, HE3, h31⟩ := told_sl ht3; replace o3 := o3.lower hcur.size; clear ht3 hl1 B33; replace B3 := B3.below hbn; replace B4 := B4.below hbn; replace B5 := B5.below hbn; replace hlq := hlq.below hbn; replace hlr := hlr.below hbn; replace hlb := hlb.below hbn; clear C4 C5; have C4 := B4.cells; have C5 := B5.cells; replace hcur := bthen hcur hbn; go_wp2_with fail
              refine hK.out _ _ B3 (fun hHeld => ?_)
              clear hK K hHeld
              (try simp only [Act.put, List.setIfInBounds_toArray, List.set_cons_zero, List.set_cons_succ])
              refine wpAnyH_ready (rs := [4]) (by kernel_rfl) (by simp) ?_
              refine AllReadyH.cons (o := _) rfl (fun K hK => ?_) ?_
              · go_simp
                refine hK.out _ _ B3 (fun hHeld => ?_)
                clear hK K hHeld
                (try simp only [Act.put, List.setIfInBounds_toArray, List.set_cons_zero, List.set_cons_succ])
                refine wpAnyH_ready (rs := [6]) (by kernel_rfl) (by simp) ?_
                refine AllReadyH.cons (o := _) rfl (fun K hK => ?_) ?_
                · refine st_lit (v := fun g => .slice (some ⟨g, 0, none⟩) 2 2) 37 rfl (cs := [.bool rb, .slice A5 E5.length c5, .bool n2, .slice A2 m.length c2]) (t := 26) (by go_simp; try rfl) ?_; intro g37 w6 hbn B37 hg37; replace B3 := B3.below hbn; replace B4 := B4.below hbn; replace B5 := B5.below hbn; replace hlq := hlq.below hbn; replace hlr := hlr.below hbn; replace hlb := hlb.below hbn; clear C4 C5; have C4 := B4.cells; have C5 := B5.cells; replace o3 := o3.below hbn; replace hcur := bthen hcur hbn
                  refine hK.out _ _ B3 (fun hHeld => ?_)
                  clear hK K hHeld
                  (try simp only [Act.put, List.setIfInBounds_toArray, List.set_cons_zero, List.set_cons_succ])
                  refine wpAnyH_ready (rs := [7]) (by kernel_rfl) (by simp) ?_
                  refine AllReadyH.cons (o := _) rfl (fun K hK => ?_) ?_
                  · go_simp; refine (numAddAll_any [⟨rb, A5, c5, E5⟩, ⟨n2, A2, c2, m⟩] 2 rfl _ 2 w6 (B37.rd (l := [⟨rb, A5, c5, E5⟩, ⟨n2, A2, c2, m⟩]) lenN rfl) (Nat.le_refl _) (two_limN hlr hlb) 274877906942 (two_len hE5 hml) (by omega) (by omega)).mono ?_; rintro e w6 ⟨v6, rfl, ht7, hbn⟩; rw [HZ7.out A5 c5 E5 HE5.out] at ht7; obtain ⟨A7, c7, E7, rfl, o7, HE7, h71⟩ := told_sl ht7; replace o7 := o7.lower hcur.size; clear ht7 B37; replace B3 := B3.below hbn; replace B4 := B4.below hbn; replace B5 := B5.below hbn; replace hlq := hlq.below hbn; replace hlr := hlr.below hbn; replace hlb := hlb.below hbn; clear C4 C5; have C4 := B4.cells; have C5 := B5.cells; replace o3 := o3.below hbn; replace hcur := bthen hcur hbn; go_wp2_with fail
                    refine hK.out _ _ B3 (fun hHeld => ?_)
                    clear hK K hHeld
                    (try simp only [Act.put, List.setIfInBounds_toArray, List.set_cons_zero, List.set_cons_succ])
                    refine wpAnyH_ready (rs := [8]) (by kernel_rfl) (by simp) ?_
                    refine AllReadyH.cons (o := _) rfl (fun K hK => ?_) ?_
                    · refine st_store rfl rfl B4 (news := [.bool (decide (Z3 < 0)), .slice A3 E3.length c3]) (by rfl) infoNum (by simp) (by simp [Value.oneCell']) ?_; intro w6 hon B8; simp only [List.take_zero, List.nil_append, List.length_cons, List.length_nil, List.drop_succ_cons, List.drop_zero, List.append_nil, List.cons_append] at B8; have B58 := B5.only hon hne54; replace B3 := B3.only hon hne34; replace o3 := ow_only o3 hon hl4 (Nat.le_refl _); replace o7 := ow_only o7 hon hl4 (Nat.le_refl _)
                      refine hK.out _ _ B3 (fun hHeld => ?_)
                      clear hK K hHeld
                      (try simp only [Act.put, List.setIfInBounds_toArray, List.set_cons_zero, List.set_cons_succ])
                      refine wpAnyH_ready (rs := [9]) (by kernel_rfl) (by simp) ?_
                      refine AllReadyH.cons (o := _) rfl (fun K hK => ?_) ?_
                      · refine st_store rfl rfl B58 (news := [.bool (decide (Z7 < 0)), .slice A7 E7.length c7]) (by rfl) infoNum (by simp) (by simp [Value.oneCell']) ?_; intro w7 hon2 B9; simp only [List.take_zero, List.nil_append, List.length_cons, List.length_nil, List.drop_succ_cons, List.drop_zero, List.append_nil, List.cons_append] at B9; have B89 := B8.only hon2 (Ne.symm hne54); replace B3 := B3.only hon2 hne35; replace o3 := ow_only o3 hon2 hl5 (Nat.le_refl _); replace o7 := ow_only o7 hon2 hl5 (Nat.le_refl _)
                        refine hK.out _ _ B3 (fun hHeld => ?_)
                        clear hK K hHeld
                        (try simp only [Act.put, List.setIfInBounds_toArray, List.set_cons_zero, List.set_cons_succ])
                        refine wpAnyH_ready (rs := [10]) (by kernel_rfl) (by simp) ?_
                        refine AllReadyH.cons (o := _) rfl (fun K hK => ?_) AllReadyH.nil
                        go_simp
                        refine hK.out _ _ B3 (fun hHeld => ?_)
                        clear hK K hHeld
                        (try simp only [Act.put, List.setIfInBounds_toArray, List.set_cons_zero, List.set_cons_succ])
                        refine wpAnyH_done (by kernel_rfl) ?_ _
                        refine NoPanic.normal ?_
                        obtain ⟨rfl⟩ := hQ7
                        (go_wp2_with fail)
                        refine bodyPost_ret (results_cct rfl _ _ g4 g5 26 26 #[.bool (decide (Z3 < 0)), .slice A3 E3.length c3] #[.bool (decide (Z7 < 0)), .slice A7 E7.length c7] (0, 0) (0, 0) _ rfl rfl B89.h B9.h Tryd.underlying26 rfl Hsz.out Hsz.out) rfl ?_
                        exact ⟨_, rfl, ⟨_, _, rfl, ⟨.slice A3 E3.length c3, by rw [HZQ.out.1], by rw [HZQ.out.1, ← HE3.out]; exact o3.lower hbw.size⟩, ⟨.slice A7 E7.length c7, by rw [HZQ.out.2], by rw [HZQ.out.2, ← HE7.out]; exact o7.lower hbw.size⟩⟩, ((bthen hbw hcur).trans (hon.below hg4)).trans (hon2.below hg5)⟩
                      exact AllReadyH.nil
                    exact AllReadyH.nil
                  exact AllReadyH.nil
                exact AllReadyH.nil
              exact AllReadyH.nil
            refine AllReadyH.cons (o := _) rfl (fun K hK => ?_) ?_
            · go_simp
              refine hK.out _ _ B3 (fun hHeld => ?_)
              clear hK K hHeld
              (try simp only [Act.put, List.setIfInBounds_toArray, List.set_cons_zero, List.set_cons_succ])
              refine wpAnyH_ready (rs := [3, 6]) (by kernel_rfl) (by simp) ?_
              refine AllReadyH.cons (o := _) rfl (fun K hK => ?_) ?_
              · go_simp; refine (numAddAll_any [⟨qb, A4, c4, E4⟩, ⟨decide ((-1 : Int) < 0), A1, c1, E1⟩] 2 rfl _ 2 w6 (B33.rd (l := [⟨qb, A4, c4, E4⟩, ⟨decide ((-1 : Int) < 0), A1, c1, E1⟩]) lenN rfl) (Nat.le_refl _) (two_limN hlq hl1) 274877906942 (two_len hE4 (one_len HE1.out)) (by omega) (by omega)).mono ?_; rintro e w6 ⟨v6, rfl, ht3, hbn⟩; rw [HZ3.out A4 c4 E4 A1 c1 E1 HE4.out HE1.out] at ht3; obtain ⟨A3, c3, E3, rfl, o3, HE3, h31⟩ := told_sl ht3; replace o3 := o3.lower hcur.size; clear ht3 hl1 B33; replace B3 := B3.below hbn; replace B4 := B4.below hbn; replace B5 := B5.below hbn; replace hlq := hlq.below hbn; replace hlr := hlr.below hbn; replace hlb := hlb.below hbn; clear C4 C5; have C4 := B4.cells; have C5 := B5.cells; replace hcur := bthen hcur hbn; go_wp2_with fail
                refine hK.out _ _ B3 (fun hHeld => ?_)
                clear hK K hHeld
                (try simp only [Act.put, List.setIfInBounds_toArray, List.set_cons_zero, List.set_cons_succ])
                refine wpAnyH_ready (rs := [6]) (by kernel_rfl) (by simp) ?_
                refine AllReadyH.cons (o := _) rfl (fun K hK => ?_) ?_
                · refine st_lit (v := fun g => .slice (some ⟨g, 0, none⟩) 2 2) 37 rfl (cs := [.bool rb, .slice A5 E5.length c5, .bool n2, .slice A2 m.length c2]) (t := 26) (by go_simp; try rfl) ?_; intro g37 w6 hbn B37 hg37; replace B3 := B3.below hbn; replace B4 := B4.below hbn; replace B5 := B5.below hbn; replace hlq := hlq.below hbn; replace hlr := hlr.below hbn; replace hlb := hlb.below hbn; clear C4 C5; have C4 := B4.cells; have C5 := B5.cells; replace o3 := o3.below hbn; replace hcur := bthen hcur hbn
                  refine hK.out _ _ B3 (fun hHeld => ?_)
                  clear hK K hHeld
                  (try simp only [Act.put, List.setIfInBounds_toArray, List.set_cons_zero, List.set_cons_succ])
                  refine wpAnyH_ready (rs := [7]) (by kernel_rfl) (by simp) ?_
                  refine AllReadyH.cons (o := _) rfl (fun K hK => ?_) ?_
                  · go_simp; refine (numAddAll_any [⟨rb, A5, c5, E5⟩, ⟨n2, A2, c2, m⟩] 2 rfl _ 2 w6 (B37.rd (l := [⟨rb, A5, c5, E5⟩, ⟨n2, A2, c2, m⟩]) lenN rfl) (Nat.le_refl _) (two_limN hlr hlb) 274877906942 (two_len hE5 hml) (by omega) (by omega)).mono ?_; rintro e w6 ⟨v6, rfl, ht7, hbn⟩; rw [HZ7.out A5 c5 E5 HE5.out] at ht7; obtain ⟨A7, c7, E7, rfl, o7, HE7, h71⟩ := told_sl ht7; replace o7 := o7.lower hcur.size; clear ht7 B37; replace B3 := B3.below hbn; replace B4 := B4.below hbn; replace B5 := B5.below hbn; replace hlq := hlq.below hbn; replace hlr := hlr.below hbn; replace hlb := hlb.below hbn; clear C4 C5; have C4 := B4.cells; have C5 := B5.cells; replace o3 := o3.below hbn; replace hcur := bthen hcur hbn; go_wp2_with fail
                    refine hK.out _ _ B3 (fun hHeld => ?_)
                    clear hK K hHeld
                    (try simp only [Act.put, List.setIfInBounds_toArray, List.set_cons_zero, List.set_cons_succ])
                    refine wpAnyH_ready (rs := [8]) (by kernel_rfl) (by simp) ?_
                    refine AllReadyH.cons (o := _) rfl (fun K hK => ?_) ?_
                    · refine st_store rfl rfl B4 (news := [.bool (decide (Z3 < 0)), .slice A3 E3.length c3]) (by rfl) infoNum (by simp) (by simp [Value.oneCell']) ?_; intro w6 hon B8; simp only [List.take_zero, List.nil_append, List.length_cons, List.length_nil, List.drop_succ_cons, List.drop_zero, List.append_nil, List.cons_append] at B8; have B58 := B5.only hon hne54; replace B3 := B3.only hon hne34; replace o3 := ow_only o3 hon hl4 (Nat.le_refl _); replace o7 := ow_only o7 hon hl4 (Nat.le_refl _)
                      refine hK.out _ _ B3 (fun hHeld => ?_)
                      clear hK K hHeld
                      (try simp only [Act.put, List.setIfInBounds_toArray, List.set_cons_zero, List.set_cons_succ])
                      refine wpAnyH_ready (rs := [9]) (by kernel_rfl) (by simp) ?_
                      refine AllReadyH.cons (o := _) rfl (fun K hK => ?_) ?_
                      · refine st_store rfl rfl B58 (news := [.bool (decide (Z7 < 0)), .slice A7 E7.length c7]) (by rfl) infoNum (by simp) (by simp [Value.oneCell']) ?_; intro w7 hon2 B9; simp only [List.take_zero, List.nil_append, List.length_cons, List.length_nil, List.drop_succ_cons, List.drop_zero, List.append_nil, List.cons_append] at B9; have B89 := B8.only hon2 (Ne.symm hne54); replace B3 := B3.only hon2 hne35; replace o3 := ow_only o3 hon2 hl5 (Nat.le_refl _); replace o7 := ow_only o7 hon2 hl5 (Nat.le_refl _)
                        refine hK.out _ _ B3 (fun hHeld => ?_)
                        clear hK K hHeld
                        (try simp only [Act.put, List.setIfInBounds_toArray, List.set_cons_zero, List.set_cons_succ])
                        refine wpAnyH_ready (rs := [10]) (by kernel_rfl) (by simp) ?_
                        refine AllReadyH.cons (o := _) rfl (fun K hK => ?_) AllReadyH.nil
                        go_simp
                        refine hK.out _ _ B3 (fun hHeld => ?_)
                        clear hK K hHeld
                        (try simp only [Act.put, List.setIfInBounds_toArray, List.set_cons_zero, List.set_cons_succ])
                        refine wpAnyH_done (by kernel_rfl) ?_ _
                        refine NoPanic.normal ?_
                        obtain ⟨rfl⟩ := hQ7
                        (go_wp2_with fail)
                        refine bodyPost_ret (results_cct rfl _ _ g4 g5 26 26 #[.bool (decide (Z3 < 0)), .slice A3 E3.length c3] #[.bool (decide (Z7 < 0)), .slice A7 E7.length c7] (0, 0) (0, 0) _ rfl rfl B89.h B9.h Tryd.underlying26 rfl Hsz.out Hsz.out) rfl ?_
                        exact ⟨_, rfl, ⟨_, _, rfl, ⟨.slice A3 E3.length c3, by rw [HZQ.out.1], by rw [HZQ.out.1, ← HE3.out]; exact o3.lower hbw.size⟩, ⟨.slice A7 E7.length c7, by rw [HZQ.out.2], by rw [HZQ.out.2, ← HE7.out]; exact o7.lower hbw.size⟩⟩, ((bthen hbw hcur).trans (hon.below hg4)).trans (hon2.below hg5)⟩
                      exact AllReadyH.nil
                    exact AllReadyH.nil
                  exact AllReadyH.nil
                exact AllReadyH.nil
              refine AllReadyH.cons (o := _) rfl (fun K hK => ?_) ?_
              · refine st_lit (v := fun g => .slice (some ⟨g, 0, none⟩) 2 2) 37 rfl (cs := [.bool rb, .slice A5 E5.length c5, .bool n2, .slice A2 m.length c2]) (t := 26) (by go_simp; try rfl) ?_; intro g37 w6 hbn B37 hg37; replace B3 := B3.below hbn; replace B4 := B4.below hbn; replace B5 := B5.below hbn; replace hlq := hlq.below hbn; replace hlr := hlr.below hbn; replace hlb := hlb.below hbn; clear C4 C5; have C4 := B4.cells; have C5 := B5.cells; replace hl1 := hl1.below hbn; replace B33 := B33.below hbn; replace hcur := bthen hcur hbn
                refine hK.out _ _ B3 (fun hHeld => ?_)
                clear hK K hHeld
                (try simp only [Act.put, List.setIfInBounds_toArray, List.set_cons_zero, List.set_cons_succ])
                refine wpAnyH_ready (rs := [3]) (by kernel_rfl) (by simp) ?_
                refine AllReadyH.cons (o := _) rfl (fun K hK => ?_) ?_
                · go_simp; refine (numAddAll_any [⟨qb, A4, c4, E4⟩, ⟨decide ((-1 : Int) < 0), A1, c1, E1⟩] 2 rfl _ 2 w6 (B33.rd (l := [⟨qb, A4, c4, E4⟩, ⟨decide ((-1 : Int) < 0), A1, c1, E1⟩]) lenN rfl) (Nat.le_refl _) (two_limN hlq hl1) 274877906942 (two_len hE4 (one_len HE1.out)) (by omega) (by omega)).mono ?_; rintro e w6 ⟨v6, rfl, ht3, hbn⟩; rw [HZ3.out A4 c4 E4 A1 c1 E1 HE4.out HE1.out] at ht3; obtain ⟨A3, c3, E3, rfl, o3, HE3, h31⟩ := told_sl ht3; replace o3 := o3.lower hcur.size; clear ht3 hl1 B33; replace B3 := B3.below hbn; replace B4 := B4.below hbn; replace B5 := B5.below hbn; replace hlq := hlq.below hbn; replace hlr := hlr.below hbn; replace hlb := hlb.below hbn; clear C4 C5; have C4 := B4.cells; have C5 := B5.cells; replace B37 := B37.below hbn; replace hcur := bthen hcur hbn; go_wp2_with fail
                  refine hK.out _ _ B3 (fun hHeld => ?_)
                  clear hK K hHeld
                  (try simp only [Act.put, List.setIfInBounds_toArray, List.set_cons_zero, List.set_cons_succ])
                  refine wpAnyH_ready (rs := [7]) (by kernel_rfl) (by simp) ?_
                  refine AllReadyH.cons (o := _) rfl (fun K hK => ?_) ?_
                  · go_simp; refine (numAddAll_any [⟨rb, A5, c5, E5⟩, ⟨n2, A2, c2, m⟩] 2 rfl _ 2 w6 (B37.rd (l := [⟨rb, A5, c5, E5⟩, ⟨n2, A2, c2, m⟩]) lenN rfl) (Nat.le_refl _) (two_limN hlr hlb) 274877906942 (two_len hE5 hml) (by omega) (by omega)).mono ?_; rintro e w6 ⟨v6, rfl, ht7, hbn⟩; rw [HZ7.out A5 c5 E5 HE5.out] at ht7; obtain ⟨A7, c7, E7, rfl, o7, HE7, h71⟩ := told_sl ht7; replace o7 := o7.lower hcur.size; clear ht7 B37; replace B3 := B3.below hbn; replace B4 := B4.below hbn; replace B5 := B5.below hbn; replace hlq := hlq.below hbn; replace hlr := hlr.below hbn; replace hlb := hlb.below hbn; clear C4 C5; have C4 := B4.cells; have C5 := B5.cells; replace o3 := o3.below hbn; replace hcur := bthen hcur hbn; go_wp2_with fail
                    refine hK.out _ _ B3 (fun hHeld => ?_)
                    clear hK K hHeld
                    (try simp only [Act.put, List.setIfInBounds_toArray, List.set_cons_zero, List.set_cons_succ])
                    refine wpAnyH_ready (rs := [8]) (by kernel_rfl) (by simp) ?_
                    refine AllReadyH.cons (o := _) rfl (fun K hK => ?_) ?_
                    · refine st_store rfl rfl B4 (news := [.bool (decide (Z3 < 0)), .slice A3 E3.length c3]) (by rfl) infoNum (by simp) (by simp [Value.oneCell']) ?_; intro w6 hon B8; simp only [List.take_zero, List.nil_append, List.length_cons, List.length_nil, List.drop_succ_cons, List.drop_zero, List.append_nil, List.cons_append] at B8; have B58 := B5.only hon hne54; replace B3 := B3.only hon hne34; replace o3 := ow_only o3 hon hl4 (Nat.le_refl _); replace o7 := ow_only o7 hon hl4 (Nat.le_refl _)
                      refine hK.out _ _ B3 (fun hHeld => ?_)
                      clear hK K hHeld
                      (try simp only [Act.put, List.setIfInBounds_toArray, List.set_cons_zero, List.set_cons_succ])
                      refine wpAnyH_ready (rs := [9]) (by kernel_rfl) (by simp) ?_
                      refine AllReadyH.cons (o := _) rfl (fun K hK => ?_) ?_
                      · refine st_store rfl rfl B58 (news := [.bool (decide (Z7 < 0)), .slice A7 E7.length c7]) (by rfl) infoNum (by simp) (by simp [Value.oneCell']) ?_; intro w7 hon2 B9; simp only [List.take_zero, List.nil_append, List.length_cons, List.length_nil, List.drop_succ_cons, List.drop_zero, List.append_nil, List.cons_append] at B9; have B89 := B8.only hon2 (Ne.symm hne54); replace B3 := B3.only hon2 hne35; replace o3 := ow_only o3 hon2 hl5 (Nat.le_refl _); replace o7 := ow_only o7 hon2 hl5 (Nat.le_refl _)
                        refine hK.out _ _ B3 (fun hHeld => ?_)
                        clear hK K hHeld
                        (try simp only [Act.put, List.setIfInBounds_toArray, List.set_cons_zero, List.set_cons_succ])
                        refine wpAnyH_ready (rs := [10]) (by kernel_rfl) (by simp) ?_
                        refine AllReadyH.cons (o := _) rfl (fun K hK => ?_) AllReadyH.nil
                        go_simp
                        refine hK.out _ _ B3 (fun hHeld => ?_)
                        clear hK K hHeld
                        (try simp only [Act.put, List.setIfInBounds_toArray, List.set_cons_zero, List.set_cons_succ])
                        refine wpAnyH_done (by kernel_rfl) ?_ _
                        refine NoPanic.normal ?_
                        obtain ⟨rfl⟩ := hQ7
                        (go_wp2_with fail)
                        refine bodyPost_ret (results_cct rfl _ _ g4 g5 26 26 #[.bool (decide (Z3 < 0)), .slice A3 E3.length c3] #[.bool (decide (Z7 < 0)), .slice A7 E7.length c7] (0, 0) (0, 0) _ rfl rfl B89.h B9.h Tryd.underlying26 rfl Hsz.out Hsz.out) rfl ?_
                        exact ⟨_, rfl, ⟨_, _, rfl, ⟨.slice A3 E3.length c3, by rw [HZQ.out.1], by rw [HZQ.out.1, ← HE3.out]; exact o3.lower hbw.size⟩, ⟨.slice A7 E7.length c7, by rw [HZQ.out.2], by rw [HZQ.out.2, ← HE7.out]; exact o7.lower hbw.size⟩⟩, ((bthen hbw hcur).trans (hon.below hg4)).trans (hon2.below hg5)⟩
                      exact AllReadyH.nil
                    exact AllReadyH.nil
                  exact AllReadyH.nil
                exact AllReadyH.nil
              exact AllReadyH.nil
            exact AllReadyH.nil
          refine AllReadyH.cons (o := _) rfl (fun K hK => ?_) ?_
          · go_simp
            refine hK.out _ _ B3 (fun hHeld => ?_)
            clear hK K hHeld
            (try simp only [Act.put, List.setIfInBounds_toArray, List.set_cons_zero, List.set_cons_succ])
            refine wpAnyH_ready (rs := [2, 6]) (by kernel_rfl) (by simp) ?_
            refine AllReadyH.cons (o := _) rfl (fun K hK => ?_) ?_
            · refine st_lit (v := fun g => .slice (some ⟨g, 0, none⟩) 2 2) 33 rfl (cs := [.bool qb, .slice A4 E4.length c4, .bool (decide ((-1 : Int) < 0)), .slice A1 E1.length c1]) (t := 26) (by go_simp; try rfl) ?_; intro g33 w6 hbn B33 hg33; replace B3 := B3.below hbn; replace B4 := B4.below hbn; replace B5 := B5.below hbn; replace hlq := hlq.below hbn; replace hlr := hlr.below hbn; replace hlb := hlb.below hbn; clear C4 C5; have C4 := B4.cells; have C5 := B5.cells; replace hl1 := hl1.below hbn; replace hcur := bthen hcur hbn
              refine hK.out _ _ B3 (fun hHeld => ?_)
              clear hK K hHeld
              (try simp only [Act.put, List.setIfInBounds_toArray, List.set_cons_zero, List.set_cons_succ])
              refine wpAnyH_ready (rs := [3, 6]) (by kernel_rfl) (by simp) ?_
              refine AllReadyH.cons (o := _) rfl (fun K hK => ?_) ?_
              · go_simp; refine (numAddAll_any [⟨qb, A4, c4, E4⟩, ⟨decide ((-1 : Int) < 0), A1, c1, E1⟩] 2 rfl _ 2 w6 (B33.rd (l := [⟨qb, A4, c4, E4⟩, ⟨decide ((-1 : Int) < 0), A1, c1, E1⟩]) lenN rfl) (Nat.le_refl _) (two_limN hlq hl1) 274877906942 (two_len hE4 (one_len HE1.out)) (by omega) (by omega)).mono ?_; rintro e w6 ⟨v6, rfl, ht3, hbn⟩; rw [HZ3.out A4 c4 E4 A1 c1 E1 HE4.out HE1.out] at ht3; obtain ⟨A3, c3, E3, rfl, o3, HE3, h31⟩ := told_sl ht3; replace o3 := o3.lower hcur.size; clear ht3 hl1 B33; replace B3 := B3.below hbn; replace B4 := B4.below hbn; replace B5 := B5.below hbn; replace hlq := hlq.below hbn; replace hlr := hlr.below hbn; replace hlb := hlb.below hbn; clear C4 C5; have C4 := B4.cells; have C5 := B5.cells; replace hcur := bthen hcur hbn; go_wp2_with fail
                refine hK.out _ _ B3 (fun hHeld => ?_)
                clear hK K hHeld
                (try simp only [Act.put, List.setIfInBounds_toArray, List.set_cons_zero, List.set_cons_succ])
                refine wpAnyH_ready (rs := [6]) (by kernel_rfl) (by simp) ?_
                refine AllReadyH.cons (o := _) rfl (fun K hK => ?_) ?_
                · refine st_lit (v := fun g => .slice (some ⟨g, 0, none⟩) 2 2) 37 rfl (cs := [.bool rb, .slice A5 E5.length c5, .bool n2, .slice A2 m.length c2]) (t := 26) (by go_simp; try rfl) ?_; intro g37 w6 hbn B37 hg37; replace B3 := B3.below hbn; replace B4 := B4.below hbn; replace B5 := B5.below hbn; replace hlq := hlq.below hbn; replace hlr := hlr.below hbn; replace hlb := hlb.below hbn; clear C4 C5; have C4 := B4.cells; have C5 := B5.cells; replace o3 := o3.below hbn; replace hcur := bthen hcur hbn
                  refine hK.out _ _ B3 (fun hHeld => ?_)
                  clear hK K hHeld
                  (try simp only [Act.put, List.setIfInBounds_toArray, List.set_cons_zero, List.set_cons_succ])
                  refine wpAnyH_ready (rs := [7]) (by kernel_rfl) (by simp) ?_
                  refine AllReadyH.cons (o := _) rfl (fun K hK => ?_) ?_
                  · go_simp; refine (numAddAll_any [⟨rb, A5, c5, E5⟩, ⟨n2, A2, c2, m⟩] 2 rfl _ 2 w6 (B37.rd (l := [⟨rb, A5, c5, E5⟩, ⟨n2, A2, c2, m⟩]) lenN rfl) (Nat.le_refl _) (two_limN hlr hlb) 274877906942 (two_len hE5 hml) (by omega) (by omega)).mono ?_; rintro e w6 ⟨v6, rfl, ht7, hbn⟩; rw [HZ7.out A5 c5 E5 HE5.out] at ht7; obtain ⟨A7, c7, E7, rfl, o7, HE7, h71⟩ := told_sl ht7; replace o7 := o7.lower hcur.size; clear ht7 B37; replace B3 := B3.below hbn; replace B4 := B4.below hbn; replace B5 := B5.below hbn; replace hlq := hlq.below hbn; replace hlr := hlr.below hbn; replace hlb := hlb.below hbn; clear C4 C5; have C4 := B4.cells; have C5 := B5.cells; replace o3 := o3.below hbn; replace hcur := bthen hcur hbn; go_wp2_with fail
                    refine hK.out _ _ B3 (fun hHeld => ?_)
                    clear hK K hHeld
                    (try simp only [Act.put, List.setIfInBounds_toArray, List.set_cons_zero, List.set_cons_succ])
                    refine wpAnyH_ready (rs := [8]) (by kernel_rfl) (by simp) ?_
                    refine AllReadyH.cons (o := _) rfl (fun K hK => ?_) ?_
                    · refine st_store rfl rfl B4 (news := [.bool (decide (Z3 < 0)), .slice A3 E3.length c3]) (by rfl) infoNum (by simp) (by simp [Value.oneCell']) ?_; intro w6 hon B8; simp only [List.take_zero, List.nil_append, List.length_cons, List.length_nil, List.drop_succ_cons, List.drop_zero, List.append_nil, List.cons_append] at B8; have B58 := B5.only hon hne54; replace B3 := B3.only hon hne34; replace o3 := ow_only o3 hon hl4 (Nat.le_refl _); replace o7 := ow_only o7 hon hl4 (Nat.le_refl _)
                      refine hK.out _ _ B3 (fun hHeld => ?_)
                      clear hK K hHeld
                      (try simp only [Act.put, List.setIfInBounds_toArray, List.set_cons_zero, List.set_cons_succ])
                      refine wpAnyH_ready (rs := [9]) (by kernel_rfl) (by simp) ?_
                      refine AllReadyH.cons (o := _) rfl (fun K hK => ?_) ?_
                      · refine st_store rfl rfl B58 (news := [.bool (decide (Z7 < 0)), .slice A7 E7.length c7]) (by rfl) infoNum (by simp) (by simp [Value.oneCell']) ?_; intro w7 hon2 B9; simp only [List.take_zero, List.nil_append, List.length_cons, List.length_nil, List.drop_succ_cons, List.drop_zero, List.append_nil, List.cons_append] at B9; have B89 := B8.only hon2 (Ne.symm hne54); replace B3 := B3.only hon2 hne35; replace o3 := ow_only o3 hon2 hl5 (Nat.le_refl _); replace o7 := ow_only o7 hon2 hl5 (Nat.le_refl _)
                        refine hK.out _ _ B3 (fun hHeld => ?_)
                        clear hK K hHeld
                        (try simp only [Act.put, List.setIfInBounds_toArray, List.set_cons_zero, List.set_cons_succ])
                        refine wpAnyH_ready (rs := [10]) (by kernel_rfl) (by simp) ?_
                        refine AllReadyH.cons (o := _) rfl (fun K hK => ?_) AllReadyH.nil
                        go_simp
                        refine hK.out _ _ B3 (fun hHeld => ?_)
                        clear hK K hHeld
                        (try simp only [Act.put, List.setIfInBounds_toArray, List.set_cons_zero, List.set_cons_succ])
                        refine wpAnyH_done (by kernel_rfl) ?_ _
                        refine NoPanic.normal ?_
                        obtain ⟨rfl⟩ := hQ7
                        (go_wp2_with fail)
                        refine bodyPost_ret (results_cct rfl _ _ g4 g5 26 26 #[.bool (decide (Z3 < 0)), .slice A3 E3.length c3] #[.bool (decide (Z7 < 0)), .slice A7 E7.length c7] (0, 0) (0, 0) _ rfl rfl B89.h B9.h Tryd.underlying26 rfl Hsz.out Hsz.out) rfl ?_
                        exact ⟨_, rfl, ⟨_, _, rfl, ⟨.slice A3 E3.length c3, by rw [HZQ.out.1], by rw [HZQ.out.1, ← HE3.out]; exact o3.lower hbw.size⟩, ⟨.slice A7 E7.length c7, by rw [HZQ.out.2], by rw [HZQ.out.2, ← HE7.out]; exact o7.lower hbw.size⟩⟩, ((bthen hbw hcur).trans (hon.below hg4)).trans (hon2.below hg5)⟩
                      exact AllReadyH.nil
                    exact AllReadyH.nil
                  exact AllReadyH.nil
                exact AllReadyH.nil
              refine AllReadyH.cons (o := _) rfl (fun K hK => ?_) ?_
              · refine st_lit (v := fun g => .slice (some ⟨g, 0, none⟩) 2 2) 37 rfl (cs := [.bool rb, .slice A5 E5.length c5, .bool n2, .slice A2 m.length c2]) (t := 26) (by go_simp; try rfl) ?_; intro g37 w6 hbn B37 hg37; replace B3 := B3.below hbn; replace B4 := B4.below hbn; replace B5 := B5.below hbn; replace hlq := hlq.below hbn; replace hlr := hlr.below hbn; replace hlb := hlb.below hbn; clear C4 C5; have C4 := B4.cells; have C5 := B5.cells; replace hl1 := hl1.below hbn; replace B33 := B33.below hbn; replace hcur := bthen hcur hbn
                refine hK.out _ _ B3 (fun hHeld => ?_)
                clear hK K hHeld
                (try simp only [Act.put, List.setIfInBounds_toArray, List.set_cons_zero, List.set_cons_succ])
                refine wpAnyH_ready (rs := [3]) (by kernel_rfl) (by simp) ?_
                refine AllReadyH.cons (o := _) rfl (fun K hK => ?_) ?_
                · go_simp; refine (numAddAll_any [⟨qb, A4, c4, E4⟩, ⟨decide ((-1 : Int) < 0), A1, c1, E1⟩] 2 rfl _ 2 w6 (B33.rd (l := [⟨qb, A4, c4, E4⟩, ⟨decide ((-1 : Int) < 0), A1, c1, E1⟩]) lenN rfl) (Nat.le_refl _) (two_limN hlq hl1) 274877906942 (two_len hE4 (one_len HE1.out)) (by omega) (by omega)).mono ?_; rintro e w6 ⟨v6, rfl, ht3, hbn⟩; rw [HZ3.out A4 c4 E4 A1 c1 E1 HE4.out HE1.out] at ht3; obtain ⟨A3, c3, E3, rfl, o3, HE3, h31⟩ := told_sl ht3; replace o3 := o3.lower hcur.size; clear ht3 hl1 B33; replace B3 := B3.below hbn; replace B4 := B4.below hbn; replace B5 := B5.below hbn; replace hlq := hlq.below hbn; replace hlr := hlr.below hbn; replace hlb := hlb.below hbn; clear C4 C5; have C4 := B4.cells; have C5 := B5.cells; replace B37 := B37.below hbn; replace hcur := bthen hcur hbn; go_wp2_with fail
                  refine hK.out _ _ B3 (fun hHeld => ?_)
                  clear hK K hHeld
                  (try simp only [Act.put, List.setIfInBounds_toArray, List.set_cons_zero, List.set_cons_succ])
                  refine wpAnyH_ready (rs := [7]) (by kernel_rfl) (by simp) ?_
                  refine AllReadyH.cons (o := _) rfl (fun K hK => ?_) ?_
                  · go_simp; refine (numAddAll_any [⟨rb, A5, c5, E5⟩, ⟨n2, A2, c2, m⟩] 2 rfl _ 2 w6 (B37.rd (l := [⟨rb, A5, c5, E5⟩, ⟨n2, A2, c2, m⟩]) lenN rfl) (Nat.le_refl _) (two_limN hlr hlb) 274877906942 (two_len hE5 hml) (by omega) (by omega)).mono ?_; rintro e w6 ⟨v6, rfl, ht7, hbn⟩; rw [HZ7.out A5 c5 E5 HE5.out] at ht7; obtain ⟨A7, c7, E7, rfl, o7, HE7, h71⟩ := told_sl ht7; replace o7 := o7.lower hcur.size; clear ht7 B37; replace B3 := B3.below hbn; replace B4 := B4.below hbn; replace B5 := B5.below hbn; replace hlq := hlq.below hbn; replace hlr := hlr.below hbn; replace hlb := hlb.below hbn; clear C4 C5; have C4 := B4.cells; have C5 := B5.cells; replace o3 := o3.below hbn; replace hcur := bthen hcur hbn; go_wp2_with fail
                    refine hK.out _ _ B3 (fun hHeld => ?_)
                    clear hK K hHeld
                    (try simp only [Act.put, List.setIfInBounds_toArray, List.set_cons_zero, List.set_cons_succ])
                    refine wpAnyH_ready (rs := [8]) (by kernel_rfl) (by simp) ?_
                    refine AllReadyH.cons (o := _) rfl (fun K hK => ?_) ?_
                    · refine st_store rfl rfl B4 (news := [.bool (decide (Z3 < 0)), .slice A3 E3.length c3]) (by rfl) infoNum (by simp) (by simp [Value.oneCell']) ?_; intro w6 hon B8; simp only [List.take_zero, List.nil_append, List.length_cons, List.length_nil, List.drop_succ_cons, List.drop_zero, List.append_nil, List.cons_append] at B8; have B58 := B5.only hon hne54; replace B3 := B3.only hon hne34; replace o3 := ow_only o3 hon hl4 (Nat.le_refl _); replace o7 := ow_only o7 hon hl4 (Nat.le_refl _)
                      refine hK.out _ _ B3 (fun hHeld => ?_)
                      clear hK K hHeld
                      (try simp only [Act.put, List.setIfInBounds_toArray, List.set_cons_zero, List.set_cons_succ])
                      refine wpAnyH_ready (rs := [9]) (by kernel_rfl) (by simp) ?_
                      refine AllReadyH.cons (o := _) rfl (fun K hK => ?_) ?_
                      · refine st_store rfl rfl B58 (news := [.bool (decide (Z7 < 0)), .slice A7 E7.length c7]) (by rfl) infoNum (by simp) (by simp [Value.oneCell']) ?_; intro w7 hon2 B9; simp only [List.take_zero, List.nil_append, List.length_cons, List.length_nil, List.drop_succ_cons, List.drop_zero, List.append_nil, List.cons_append] at B9; have B89 := B8.only hon2 (Ne.symm hne54); replace B3 := B3.only hon2 hne35; replace o3 := ow_only o3 hon2 hl5 (Nat.le_refl _); replace o7 := ow_only o7 hon2 hl5 (Nat.le_refl _)
                        refine hK.out _ _ B3 (fun hHeld => ?_)
                        clear hK K hHeld
                        (try simp only [Act.put, List.setIfInBounds_toArray, List.set_cons_zero, List.set_cons_succ])
                        refine wpAnyH_ready (rs := [10]) (by kernel_rfl) (by simp) ?_
                        refine AllReadyH.cons (o := _) rfl (fun K hK => ?_) AllReadyH.nil
                        go_simp
                        refine hK.out _ _ B3 (fun hHeld => ?_)
                        clear hK K hHeld
                        (try simp only [Act.put, List.setIfInBounds_toArray, List.set_cons_zero, List.set_cons_succ])
                        refine wpAnyH_done (by kernel_rfl) ?_ _
                        refine NoPanic.normal ?_
                        obtain ⟨rfl⟩ := hQ7
                        (go_wp2_with fail)
                        refine bodyPost_ret (results_cct rfl _ _ g4 g5 26 26 #[.bool (decide (Z3 < 0)), .slice A3 E3.length c3] #[.bool (decide (Z7 < 0)), .slice A7 E7.length c7] (0, 0) (0, 0) _ rfl rfl B89.h B9.h Tryd.underlying26 rfl Hsz.out Hsz.out) rfl ?_
                        exact ⟨_, rfl, ⟨_, _, rfl, ⟨.slice A3 E3.length c3, by rw [HZQ.out.1], by rw [HZQ.out.1, ← HE3.out]; exact o3.lower hbw.size⟩, ⟨.slice A7 E7.length c7, by rw [HZQ.out.2], by rw [HZQ.out.2, ← HE7.out]; exact o7.lower hbw.size⟩⟩, ((bthen hbw hcur).trans (hon.below hg4)).trans (hon2.below hg5)⟩
                      exact AllReadyH.nil
                    exact AllReadyH.nil
                  exact AllReadyH.nil
                exact AllReadyH.nil
              exact AllReadyH.nil
            refine AllReadyH.cons (o := _) rfl (fun K hK => ?_) ?_
            · refine st_lit (v := fun g => .slice (some ⟨g, 0, none⟩) 2 2) 37 rfl (cs := [.bool rb, .slice A5 E5.length c5, .bool n2, .slice A2 m.length c2]) (t := 26) (by go_simp; try rfl) ?_; intro g37 w6 hbn B37 hg37; replace B3 := B3.below hbn; replace B4 := B4.below hbn; replace B5 := B5.below hbn; replace hlq := hlq.below hbn; replace hlr := hlr.below hbn; replace hlb := hlb.below hbn; clear C4 C5; have C4 := B4.cells; have C5 := B5.cells; replace hl1 := hl1.below hbn; replace hcur := bthen hcur hbn
              refine hK.out _ _ B3 (fun hHeld => ?_)
              clear hK K hHeld
              (try simp only [Act.put, List.setIfInBounds_toArray, List.set_cons_zero, List.set_cons_succ])
              refine wpAnyH_ready (rs := [2]) (by kernel_rfl) (by simp) ?_
              refine AllReadyH.cons (o := _) rfl (fun K hK => ?_) ?_
              · refine st_lit (v := fun g => .slice (some ⟨g, 0, none⟩) 2 2) 33 rfl (cs := [.bool qb, .slice A4 E4.length c4, .bool (decide ((-1 : Int) < 0)), .slice A1 E1.length c1]) (t := 26) (by go_simp; try rfl) ?_; intro g33 w6 hbn B33 hg33; replace B3 := B3.below hbn; replace B4 := B4.below hbn; replace B5 := B5.below hbn; replace hlq := hlq.below hbn; replace hlr := hlr.below hbn; replace hlb := hlb.below hbn; clear C4 C5; have C4 := B4.cells; have C5 := B5.cells; replace hl1 := hl1.below hbn; replace B37 := B37.below hbn; replace hcur := bthen hcur hbn
                refine hK.out _ _ B3 (fun hHeld => ?_)
                clear hK K hHeld
                (try simp only [Act.put, List.setIfInBounds_toArray, List.set_cons_zero, List.set_cons_succ])
                refine wpAnyH_ready (rs := [3]) (by kernel_rfl) (by simp) ?_
                refine AllReadyH.cons (o := _) rfl (fun K hK => ?_) ?_
                · go_simp; refine (numAddAll_any [⟨qb, A4, c4, E4⟩, ⟨decide ((-1 : Int) < 0), A1, c1, E1⟩] 2 rfl _ 2 w6 (B33.rd (l := [⟨qb, A4, c4, E4⟩, ⟨decide ((-1 : Int) < 0), A1, c1, E1⟩]) lenN rfl) (Nat.le_refl _) (two_limN hlq hl1) 274877906942 (two_len hE4 (one_len HE1.out)) (by omega) (by omega)).mono ?_; rintro e w6 ⟨v6, rfl, ht3, hbn⟩; rw [HZ3.out A4 c4 E4 A1 c1 E1 HE4.out HE1.out] at ht3; obtain ⟨A3, c3, E3, rfl, o3, HE3, h31⟩ := told_sl ht3; replace o3 := o3.lower hcur.size; clear ht3 hl1 B33; replace B3 := B3.below hbn; replace B4 := B4.below hbn; replace B5 := B5.below hbn; replace hlq := hlq.below hbn; replace hlr := hlr.below hbn; replace hlb := hlb.below hbn; clear C4 C5; have C4 := B4.cells; have C5 := B5.cells; replace B37 := B37.below hbn; replace hcur := bthen hcur hbn; go_wp2_with fail
                  refine hK.out _ _ B3 (fun hHeld => ?_)
                  clear hK K hHeld
                  (try simp only [Act.put, List.setIfInBounds_toArray, List.set_cons_zero, List.set_cons_succ])
                  refine wpAnyH_ready (rs := [7]) (by kernel_rfl) (by simp) ?_
                  refine AllReadyH.cons (o := _) rfl (fun K hK => ?_) ?_
                  · go_simp; refine (numAddAll_any [⟨rb, A5, c5, E5⟩, ⟨n2, A2, c2, m⟩] 2 rfl _ 2 w6 (B37.rd (l := [⟨rb, A5, c5, E5⟩, ⟨n2, A2, c2, m⟩]) lenN rfl) (Nat.le_refl _) (two_limN hlr hlb) 274877906942 (two_len hE5 hml) (by omega) (by omega)).mono ?_; rintro e w6 ⟨v6, rfl, ht7, hbn⟩; rw [HZ7.out A5 c5 E5 HE5.out] at ht7; obtain ⟨A7, c7, E7, rfl, o7, HE7, h71⟩ := told_sl ht7; replace o7 := o7.lower hcur.size; clear ht7 B37; replace B3 := B3.below hbn; replace B4 := B4.below hbn; replace B5 := B5.below hbn; replace hlq := hlq.below hbn; replace hlr := hlr.below hbn; replace hlb := hlb.below hbn; clear C4 C5; have C4 := B4.cells; have C5 := B5.cells; replace o3 := o3.below hbn; replace hcur := bthen hcur hbn; go_wp2_with fail
                    refine hK.out _ _ B3 (fun hHeld => ?_)
                    clear hK K hHeld
                    (try simp only [Act.put, List.setIfInBounds_toArray, List.set_cons_zero, List.set_cons_succ])
                    refine wpAnyH_ready (rs := [8]) (by kernel_rfl) (by simp) ?_
                    refine AllReadyH.cons (o := _) rfl (fun K hK => ?_) ?_
                    · refine st_store rfl rfl B4 (news := [.bool (decide (Z3 < 0)), .slice A3 E3.length c3]) (by rfl) infoNum (by simp) (by simp [Value.oneCell']) ?_; intro w6 hon B8; simp only [List.take_zero, List.nil_append, List.length_cons, List.length_nil, List.drop_succ_cons, List.drop_zero, List.append_nil, List.cons_append] at B8; have B58 := B5.only hon hne54; replace B3 := B3.only hon hne34; replace o3 := ow_only o3 hon hl4 (Nat.le_refl _); replace o7 := ow_only o7 hon hl4 (Nat.le_refl _)
                      refine hK.out _ _ B3 (fun hHeld => ?_)
                      clear hK K hHeld
                      (try simp only [Act.put, List.setIfInBounds_toArray, List.set_cons_zero, List.set_cons_succ])
                      refine wpAnyH_ready (rs := [9]) (by kernel_rfl) (by simp) ?_
                      refine AllReadyH.cons (o := _) rfl (fun K hK => ?_) ?_
                      · refine st_store rfl rfl B58 (news := [.bool (decide (Z7 < 0)), .slice A7 E7.length c7]) (by rfl) infoNum (by simp) (by simp [Value.oneCell']) ?_; intro w7 hon2 B9; simp only [List.take_zero, List.nil_append, List.length_cons, List.length_nil, List.drop_succ_cons, List.drop_zero, List.append_nil, List.cons_append] at B9; have B89 := B8.only hon2 (Ne.symm hne54); replace B3 := B3.only hon2 hne35; replace o3 := ow_only o3 hon2 hl5 (Nat.le_refl _); replace o7 := ow_only o7 hon2 hl5 (Nat.le_refl _)
                        refine hK.out _ _ B3 (fun hHeld => ?_)
                        clear hK K hHeld
                        (try simp only [Act.put, List.setIfInBounds_toArray, List.set_cons_zero, List.set_cons_succ])
                        refine wpAnyH_ready (rs := [10]) (by kernel_rfl) (by simp) ?_
                        refine AllReadyH.cons (o := _) rfl (fun K hK => ?_) AllReadyH.nil
                        go_simp
                        refine hK.out _ _ B3 (fun hHeld => ?_)
                        clear hK K hHeld
                        (try simp only [Act.put, List.setIfInBounds_toArray, List.set_cons_zero, List.set_cons_succ])
                        refine wpAnyH_done (by kernel_rfl) ?_ _
                        refine NoPanic.normal ?_
                        obtain ⟨rfl⟩ := hQ7
                        (go_wp2_with fail)
                        refine bodyPost_ret (results_cct rfl _ _ g4 g5 26 26 #[.bool (decide (Z3 < 0)), .slice A3 E3.length c3] #[.bool (decide (Z7 < 0)), .slice A7 E7.length c7] (0, 0) (0, 0) _ rfl rfl B89.h B9.h Tryd.underlying26 rfl Hsz.out Hsz.out) rfl ?_
                        exact ⟨_, rfl, ⟨_, _, rfl, ⟨.slice A3 E3.length c3, by rw [HZQ.out.1], by rw [HZQ.out.1, ← HE3.out]; exact o3.lower hbw.size⟩, ⟨.slice A7 E7.length c7, by rw [HZQ.out.2], by rw [HZQ.out.2, ← HE7.out]; exact o7.lower hbw.size⟩⟩, ((bthen hbw hcur).trans (hon.below hg4)).trans (hon2.below hg5)⟩
                      exact AllReadyH.nil
                    exact AllReadyH.nil
                  exact AllReadyH.nil
                exact AllReadyH.nil
              exact AllReadyH.nil
            exact AllReadyH.nil
          exact AllReadyH.nil
        refine AllReadyH.cons (o := _) rfl (fun K hK => ?_) ?_
        · go_simp
          refine hK.out _ _ B3 (fun hHeld => ?_)
          clear hK K hHeld
          (try simp only [Act.put, List.setIfInBounds_toArray, List.set_cons_zero, List.set_cons_succ])
          refine wpAnyH_ready (rs := [0, 6]) (by kernel_rfl) (by simp) ?_
          refine AllReadyH.cons (o := _) rfl (fun K hK => ?_) ?_
          · go_simp
            refine hK.out _ _ B3 (fun hHeld => ?_)
            clear hK K hHeld
            (try simp only [Act.put, List.setIfInBounds_toArray, List.set_cons_zero, List.set_cons_succ])
            refine wpAnyH_ready (rs := [2, 6]) (by kernel_rfl) (by simp) ?_
            refine AllReadyH.cons (o := _) rfl (fun K hK => ?_) ?_
            · refine st_lit (v := fun g => .slice (some ⟨g, 0, none⟩) 2 2) 33 rfl (cs := [.bool qb, .slice A4 E4.length c4, .bool (decide ((-1 : Int) < 0)), .slice A1 E1.length c1]) (t := 26) (by go_simp; try rfl) ?_; intro g33 w6 hbn B33 hg33; replace B3 := B3.below hbn; replace B4 := B4.below hbn; replace B5 := B5.below hbn; replace hlq := hlq.below hbn; replace hlr := hlr.below hbn; replace hlb := hlb.below hbn; clear C4 C5; have C4 := B4.cells; have C5 := B5.cells; replace hl1 := hl1.below hbn; replace hcur := bthen hcur hbn
              refine hK.out _ _ B3 (fun hHeld => ?_)
              clear hK K hHeld
              (try simp only [Act.put, List.setIfInBounds_toArray, List.set_cons_zero, List.set_cons_succ])
              refine wpAnyH_ready (rs := [3, 6]) (by kernel_rfl) (by simp) ?_
              refine AllReadyH.cons (o := _) rfl (fun K hK => ?_) ?_
              · go_simp; refine (numAddAll_any [⟨qb, A4, c4, E4⟩, ⟨decide ((-1 : Int) < 0), A1, c1, E1⟩] 2 rfl _ 2 w6 (B33.rd (l := [⟨qb, A4, c4, E4⟩, ⟨decide ((-1 : Int) < 0), A1, c1, E1⟩]) lenN rfl) (Nat.le_refl _) (two_limN hlq hl1) 274877906942 (two_len hE4 (one_len HE1.out)) (by omega) (by omega)).mono ?_; rintro e w6 ⟨v6, rfl, ht3, hbn⟩; rw [HZ3.out A4 c4 E4 A1 c1 E1 HE4.out HE1.out] at ht3; obtain ⟨A3, c3, E3, rfl, o3, HE3, h31⟩ := told_sl ht3; replace o3 := o3.lower hcur.size; clear ht3 hl1 B33; replace B3 := B3.below hbn; replace B4 := B4.below hbn; replace B5 := B5.below hbn; replace hlq := hlq.below hbn; replace hlr := hlr.below hbn; replace hlb := hlb.below hbn; clear C4 C5; have C4 := B4.cells; have C5 := B5.cells; replace hcur := bthen hcur hbn; go_wp2_with fail
                refine hK.out _ _ B3 (fun hHeld => ?_)
                clear hK K hHeld
                (try simp only [Act.put, List.setIfInBounds_toArray, List.set_cons_zero, List.set_cons_succ])
                refine wpAnyH_ready (rs := [6]) (by kernel_rfl) (by simp) ?_
                refine AllReadyH.cons (o := _) rfl (fun K hK => ?_) ?_
                · refine st_lit (v := fun g => .slice (some ⟨g, 0, none⟩) 2 2) 37 rfl (cs := [.bool rb, .slice A5 E5.length c5, .bool n2, .slice A2 m.length c2]) (t := 26) (by go_simp; try rfl) ?_; intro g37 w6 hbn B37 hg37; replace B3 := B3.below hbn; replace B4 := B4.below hbn; replace B5 := B5.below hbn; replace hlq := hlq.below hbn; replace hlr := hlr.below hbn; replace hlb := hlb.below hbn; clear C4 C5; have C4 := B4.cells; have C5 := B5.cells; replace o3 := o3.below hbn; replace hcur := bthen hcur hbn
                  refine hK.out _ _ B3 (fun hHeld => ?_)
                  clear hK K hHeld
                  (try simp only [Act.put, List.setIfInBounds_toArray, List.set_cons_zero, List.set_cons_succ])
                  refine wpAnyH_ready (rs := [7]) (by kernel_rfl) (by simp) ?_
                  refine AllReadyH.cons (o := _) rfl (fun K hK => ?_) ?_
                  · go_simp; refine (numAddAll_any [⟨rb, A5, c5, E5⟩, ⟨n2, A2, c2, m⟩] 2 rfl _ 2 w6 (B37.rd (l := [⟨rb, A5, c5, E5⟩, ⟨n2, A2, c2, m⟩]) lenN rfl) (Nat.le_refl _) (two_limN hlr hlb) 274877906942 (two_len hE5 hml) (by omega) (by omega)).mono ?_; rintro e w6 ⟨v6, rfl, ht7, hbn⟩; rw [HZ7.out A5 c5 E5 HE5.out] at ht7; obtain ⟨A7, c7, E7, rfl, o7, HE7, h71⟩ := told_sl ht7; replace o7 := o7.lower hcur.size; clear ht7 B37; replace B3 := B3.below hbn; replace B4 := B4.below hbn; replace B5 := B5.below hbn; replace hlq := hlq.below hbn; replace hlr := hlr.below hbn; replace hlb := hlb.below hbn; clear C4 C5; have C4 := B4.cells; have C5 := B5.cells; replace o3 := o3.below hbn; replace hcur := bthen hcur hbn; go_wp2_with fail
                    refine hK.out _ _ B3 (fun hHeld => ?_)
                    clear hK K hHeld
                    (try simp only [Act.put, List.setIfInBounds_toArray, List.set_cons_zero, List.set_cons_succ])
                    refine wpAnyH_ready (rs := [8]) (by kernel_rfl) (by simp) ?_
                    refine AllReadyH.cons (o := _) rfl (fun K hK => ?_) ?_
                    · refine st_store rfl rfl B4 (news := [.bool (decide (Z3 < 0)), .slice A3 E3.length c3]) (by rfl) infoNum (by simp) (by simp [Value.oneCell']) ?_; intro w6 hon B8; simp only [List.take_zero, List.nil_append, List.length_cons, List.length_nil, List.drop_succ_cons, List.drop_zero, List.append_nil, List.cons_append] at B8; have B58 := B5.only hon hne54; replace B3 := B3.only hon hne34; replace o3 := ow_only o3 hon hl4 (Nat.le_refl _); replace o7 := ow_only o7 hon hl4 (Nat.le_refl _)
                      refine hK.out _ _ B3 (fun hHeld => ?_)
                      clear hK K hHeld
                      (try simp only [Act.put, List.setIfInBounds_toArray, List.set_cons_zero, List.set_cons_succ])
                      refine wpAnyH_ready (rs := [9]) (by kernel_rfl) (by simp) ?_
                      refine AllReadyH.cons (o := _) rfl (fun K hK => ?_) ?_
                      · refine st_store rfl rfl B58 (news := [.bool (decide (Z7 < 0)), .slice A7 E7.length c7]) (by rfl) infoNum (by simp) (by simp [Value.oneCell']) ?_; intro w7 hon2 B9; simp only [List.take_zero, List.nil_append, List.length_cons, List.length_nil, List.drop_succ_cons, List.drop_zero, List.append_nil, List.cons_append] at B9; have B89 := B8.only hon2 (Ne.symm hne54); replace B3 := B3.only hon2 hne35; replace o3 := ow_only o3 hon2 hl5 (Nat.le_refl _); replace o7 := ow_only o7 hon2 hl5 (Nat.le_refl _)
                        refine hK.out _ _ B3 (fun hHeld => ?_)
                        clear hK K hHeld
                        (try simp only [Act.put, List.setIfInBounds_toArray, List.set_cons_zero, List.set_cons_succ])
                        refine wpAnyH_ready (rs := [10]) (by kernel_rfl) (by simp) ?_
                        refine AllReadyH.cons (o := _) rfl (fun K hK => ?_) AllReadyH.nil
                        go_simp
                        refine hK.out _ _ B3 (fun hHeld => ?_)
                        clear hK K hHeld
                        (try simp only [Act.put, List.setIfInBounds_toArray, List.set_cons_zero, List.set_cons_succ])
                        refine wpAnyH_done (by kernel_rfl) ?_ _
                        refine NoPanic.normal ?_
                        obtain ⟨rfl⟩ := hQ7
                        (go_wp2_with fail)
                        refine bodyPost_ret (results_cct rfl _ _ g4 g5 26 26 #[.bool (decide (Z3 < 0)), .slice A3 E3.length c3] #[.bool (decide (Z7 < 0)), .slice A7 E7.length c7] (0, 0) (0, 0) _ rfl rfl B89.h B9.h Tryd.underlying26 rfl Hsz.out Hsz.out) rfl ?_
                        exact ⟨_, rfl, ⟨_, _, rfl, ⟨.slice A3 E3.length c3, by rw [HZQ.out.1], by rw [HZQ.out.1, ← HE3.out]; exact o3.lower hbw.size⟩, ⟨.slice A7 E7.length c7, by rw [HZQ.out.2], by rw [HZQ.out.2, ← HE7.out]; exact o7.lower hbw.size⟩⟩, ((bthen hbw hcur).trans (hon.below hg4)).trans (hon2.below hg5)⟩
                      exact AllReadyH.nil
                    exact AllReadyH.nil
                  exact AllReadyH.nil
                exact AllReadyH.nil
              refine AllReadyH.cons (o := _) rfl (fun K hK => ?_) ?_
              · refine st_lit (v := fun g => .slice (some ⟨g, 0, none⟩) 2 2) 37 rfl (cs := [.bool rb, .slice A5 E5.length c5, .bool n2, .slice A2 m.length c2]) (t := 26) (by go_simp; try rfl) ?_; intro g37 w6 hbn B37 hg37; replace B3 := B3.below hbn; replace B4 := B4.below hbn; replace B5 := B5.below hbn; replace hlq := hlq.below hbn; replace hlr := hlr.below hbn; replace hlb := hlb.below hbn; clear C4 C5; have C4 := B4.cells; have C5 := B5.cells; replace hl1 := hl1.below hbn; replace B33 := B33.below hbn; replace hcur := bthen hcur hbn
                refine hK.out _ _ B3 (fun hHeld => ?_)
                clear hK K hHeld
                (try simp only [Act.put, List.setIfInBounds_toArray, List.set_cons_zero, List.set_cons_succ])
                refine wpAnyH_ready (rs := [3]) (by kernel_rfl) (by simp) ?_
                refine AllReadyH.cons (o := _) rfl (fun K hK => ?_) ?_
                · go_simp; refine (numAddAll_any [⟨qb, A4, c4, E4⟩, ⟨decide ((-1 : Int) < 0), A1, c1, E1⟩] 2 rfl _ 2 w6 (B33.rd (l := [⟨qb, A4, c4, E4⟩, ⟨decide ((-1 : Int) < 0), A1, c1, E1⟩]) lenN rfl) (Nat.le_refl _) (two_limN hlq hl1) 274877906942 (two_len hE4 (one_len HE1.out)) (by omega) (by omega)).mono ?_; rintro e w6 ⟨v6, rfl, ht3, hbn⟩; rw [HZ3.out A4 c4 E4 A1 c1 E1 HE4.out HE1.out] at ht3; obtain ⟨A3, c3, E3, rfl, o3, HE3, h31⟩ := told_sl ht3; replace o3 := o3.lower hcur.size; clear ht3 hl1 B33; replace B3 := B3.below hbn; replace B4 := B4.below hbn; replace B5 := B5.below hbn; replace hlq := hlq.below hbn; replace hlr := hlr.below hbn; replace hlb := hlb.below hbn; clear C4 C5; have C4 := B4.cells; have C5 := B5.cells; replace B37 := B37.below hbn; replace hcur := bthen hcur hbn; go_wp2_with fail
                  refine hK.out _ _ B3 (fun hHeld => ?_)
                  clear hK K hHeld
                  (try simp only [Act.put, List.setIfInBounds_toArray, List.set_cons_zero, List.set_cons_succ])
                  refine wpAnyH_ready (rs := [7]) (by kernel_rfl) (by simp) ?_
                  refine AllReadyH.cons (o := _) rfl (fun K hK => ?_) ?_
                  · go_simp; refine (numAddAll_any [⟨rb, A5, c5, E5⟩, ⟨n2, A2, c2, m⟩] 2 rfl _ 2 w6 (B37.rd (l := [⟨rb, A5, c5, E5⟩, ⟨n2, A2, c2, m⟩]) lenN rfl) (Nat.le_refl _) (two_limN hlr hlb) 274877906942 (two_len hE5 hml) (by omega) (by omega)).mono ?_; rintro e w6 ⟨v6, rfl, ht7, hbn⟩; rw [HZ7.out A5 c5 E5 HE5.out] at ht7; obtain ⟨A7, c7, E7, rfl, o7, HE7, h71⟩ := told_sl ht7; replace o7 := o7.lower hcur.size; clear ht7 B37; replace B3 := B3.below hbn; replace B4 := B4.below hbn; replace B5 := B5.below hbn; replace hlq := hlq.below hbn; replace hlr := hlr.below hbn; replace hlb := hlb.below hbn; clear C4 C5; have C4 := B4.cells; have C5 := B5.cells; replace o3 := o3.below hbn; replace hcur := bthen hcur hbn; go_wp2_with fail
                    refine hK.out _ _ B3 (fun hHeld => ?_)
                    clear hK K hHeld
                    (try simp only [Act.put, List.setIfInBounds_toArray, List.set_cons_zero, List.set_cons_succ])
                    refine wpAnyH_ready (rs := [8]) (by kernel_rfl) (by simp) ?_
                    refine AllReadyH.cons (o := _) rfl (fun K hK => ?_) ?_
                    · refine st_store rfl rfl B4 (news := [.bool (decide (Z3 < 0)), .slice A3 E3.length c3]) (by rfl) infoNum (by simp) (by simp [Value.oneCell']) ?_; intro w6 hon B8; simp only [List.take_zero, List.nil_append, List.length_cons, List.length_nil, List.drop_succ_cons, List.drop_zero, List.append_nil, List.cons_append] at B8; have B58 := B5.only hon hne54; replace B3 := B3.only hon hne34; replace o3 := ow_only o3 hon hl4 (Nat.le_refl _); replace o7 := ow_only o7 hon hl4 (Nat.le_refl _)
                      refine hK.out _ _ B3 (fun hHeld => ?_)
                      clear hK K hHeld
                      (try simp only [Act.put, List.setIfInBounds_toArray, List.set_cons_zero, List.set_cons_succ])
                      refine wpAnyH_ready (rs := [9]) (by kernel_rfl) (by simp) ?_
                      refine AllReadyH.cons (o := _) rfl (fun K hK => ?_) ?_
                      · refine st_store rfl rfl B58 (news := [.bool (decide (Z7 < 0)), .slice A7 E7.length c7]) (by rfl) infoNum (by simp) (by simp [Value.oneCell']) ?_; intro w7 hon2 B9; simp only [List.take_zero, List.nil_append, List.length_cons, List.length_nil, List.drop_succ_cons, List.drop_zero, List.append_nil, List.cons_append] at B9; have B89 := B8.only hon2 (Ne.symm hne54); replace B3 := B3.only hon2 hne35; replace o3 := ow_only o3 hon2 hl5 (Nat.le_refl _); replace o7 := ow_only o7 hon2 hl5 (Nat.le_refl _)
                        refine hK.out _ _ B3 (fun hHeld => ?_)
                        clear hK K hHeld
                        (try simp only [Act.put, List.setIfInBounds_toArray, List.set_cons_zero, List.set_cons_succ])
                        refine wpAnyH_ready (rs := [10]) (by kernel_rfl) (by simp) ?_
                        refine AllReadyH.cons (o := _) rfl (fun K hK => ?_) AllReadyH.nil
                        go_simp
                        refine hK.out _ _ B3 (fun hHeld => ?_)
                        clear hK K hHeld
                        (try simp only [Act.put, List.setIfInBounds_toArray, List.set_cons_zero, List.set_cons_succ])
                        refine wpAnyH_done (by kernel_rfl) ?_ _
                        refine NoPanic.normal ?_
                        obtain ⟨rfl⟩ := hQ7
                        (go_wp2_with fail)
                        refine bodyPost_ret (results_cct rfl _ _ g4 g5 26 26 #[.bool (decide (Z3 < 0)), .slice A3 E3.length c3] #[.bool (decide (Z7 < 0)), .slice A7 E7.length c7] (0, 0) (0, 0) _ rfl rfl B89.h B9.h Tryd.underlying26 rfl Hsz.out Hsz.out) rfl ?_
                        exact ⟨_, rfl, ⟨_, _, rfl, ⟨.slice A3 E3.length c3, by rw [HZQ.out.1], by rw [HZQ.out.1, ← HE3.out]; exact o3.lower hbw.size⟩, ⟨.slice A7 E7.length c7, by rw [HZQ.out.2], by rw [HZQ.out.2, ← HE7.out]; exact o7.lower hbw.size⟩⟩, ((bthen hbw hcur).trans (hon.below hg4)).trans (hon2.below hg5)⟩
                      exact AllReadyH.nil
                    exact AllReadyH.nil
                  exact AllReadyH.nil
                exact AllReadyH.nil
              exact AllReadyH.nil
            refine AllReadyH.cons (o := _) rfl (fun K hK => ?_) ?_
            · refine st_lit (v := fun g => .slice (some ⟨g, 0, none⟩) 2 2) 37 rfl (cs := [.bool rb, .slice A5 E5.length c5, .bool n2, .slice A2 m.length c2]) (t := 26) (by go_simp; try rfl) ?_; intro g37 w6 hbn B37 hg37; replace B3 := B3.below hbn; replace B4 := B4.below hbn; replace B5 := B5.below hbn; replace hlq := hlq.below hbn; replace hlr := hlr.below hbn; replace hlb := hlb.below hbn; clear C4 C5; have C4 := B4.cells; have C5 := B5.cells; replace hl1 := hl1.below hbn; replace hcur := bthen hcur hbn
              refine hK.out _ _ B3 (fun hHeld => ?_)
              clear hK K hHeld
              (try simp only [Act.put, List.setIfInBounds_toArray, List.set_cons_zero, List.set_cons_succ])
              refine wpAnyH_ready (rs := [2]) (by kernel_rfl) (by simp) ?_
              refine AllReadyH.cons (o := _) rfl (fun K hK => ?_) ?_
              · refine st_lit (v := fun g => .slice (some ⟨g, 0, none⟩) 2 2) 33 rfl (cs := [.bool qb, .slice A4 E4.length c4, .bool (decide ((-1 : Int) < 0)), .slice A1 E1.length c1]) (t := 26) (by go_simp; try rfl) ?_; intro g33 w6 hbn B33 hg33; replace B3 := B3.below hbn; replace B4 := B4.below hbn; replace B5 := B5.below hbn; replace hlq := hlq.below hbn; replace hlr := hlr.below hbn; replace hlb := hlb.below hbn; clear C4 C5; have C4 := B4.cells; have C5 := B5.cells; replace hl1 := hl1.below hbn; replace B37 := B37.below hbn; replace hcur := bthen hcur hbn
                refine hK.out _ _ B3 (fun hHeld => ?_)
                clear hK K hHeld
                (try simp only [Act.put, List.setIfInBounds_toArray, List.set_cons_zero, List.set_cons_succ])
                refine wpAnyH_ready (rs := [3]) (by kernel_rfl) (by simp) ?_
                refine AllReadyH.cons (o := _) rfl (fun K hK => ?_) ?_
                · go_simp; refine (numAddAll_any [⟨qb, A4, c4, E4⟩, ⟨decide ((-1 : Int) < 0), A1, c1, E1⟩] 2 rfl _ 2 w6 (B33.rd (l := [⟨qb, A4, c4, E4⟩, ⟨decide ((-1 : Int) < 0), A1, c1, E1⟩]) lenN rfl) (Nat.le_refl _) (two_limN hlq hl1) 274877906942 (two_len hE4 (one_len HE1.out)) (by omega) (by omega)).mono ?_; rintro e w6 ⟨v6, rfl, ht3, hbn⟩; rw [HZ3.out A4 c4 E4 A1 c1 E1 HE4.out HE1.out] at ht3; obtain ⟨A3, c3, E3, rfl, o3, HE3, h31⟩ := told_sl ht3; replace o3 := o3.lower hcur.size; clear ht3 hl1 B33; replace B3 := B3.below hbn; replace B4 := B4.below hbn; replace B5 := B5.below hbn; replace hlq := hlq.below hbn; replace hlr := hlr.below hbn; replace hlb := hlb.below hbn; clear C4 C5; have C4 := B4.cells; have C5 := B5.cells; replace B37 := B37.below hbn; replace hcur := bthen hcur hbn; go_wp2_with fail
                  refine hK.out _ _ B3 (fun hHeld => ?_)
                  clear hK K hHeld
                  (try simp only [Act.put, List.setIfInBounds_toArray, List.set_cons_zero, List.set_cons_succ])
                  refine wpAnyH_ready (rs := [7]) (by kernel_rfl) (by simp) ?_
                  refine AllReadyH.cons (o := _) rfl (fun K hK => ?_) ?_
                  · go_simp; refine (numAddAll_any [⟨rb, A5, c5, E5⟩, ⟨n2, A2, c2, m⟩] 2 rfl _ 2 w6 (B37.rd (l := [⟨rb, A5, c5, E5⟩, ⟨n2, A2, c2, m⟩]) lenN rfl) (Nat.le_refl _) (two_limN hlr hlb) 274877906942 (two_len hE5 hml) (by omega) (by omega)).mono ?_; rintro e w6 ⟨v6, rfl, ht7, hbn⟩; rw [HZ7.out A5 c5 E5 HE5.out] at ht7; obtain ⟨A7, c7, E7, rfl, o7, HE7, h71⟩ := told_sl ht7; replace o7 := o7.lower hcur.size; clear ht7 B37; replace B3 := B3.below hbn; replace B4 := B4.below hbn; replace B5 := B5.below hbn; replace hlq := hlq.below hbn; replace hlr := hlr.below hbn; replace hlb := hlb.below hbn; clear C4 C5; have C4 := B4.cells; have C5 := B5.cells; replace o3 := o3.below hbn; replace hcur := bthen hcur hbn; go_wp2_with fail
                    refine hK.out _ _ B3 (fun hHeld => ?_)
                    clear hK K hHeld
                    (try simp only [Act.put, List.setIfInBounds_toArray, List.set_cons_zero, List.set_cons_succ])
                    refine wpAnyH_ready (rs := [8]) (by kernel_rfl) (by simp) ?_
                    refine AllReadyH.cons (o := _) rfl (fun K hK => ?_) ?_
                    · refine st_store rfl rfl B4 (news := [.bool (decide (Z3 < 0)), .slice A3 E3.length c3]) (by rfl) infoNum (by simp) (by simp [Value.oneCell']) ?_; intro w6 hon B8; simp only [List.take_zero, List.nil_append, List.length_cons, List.length_nil, List.drop_succ_cons, List.drop_zero, List.append_nil, List.cons_append] at B8; have B58 := B5.only hon hne54; replace B3 := B3.only hon hne34; replace o3 := ow_only o3 hon hl4 (Nat.le_refl _); replace o7 := ow_only o7 hon hl4 (Nat.le_refl _)
                      refine hK.out _ _ B3 (fun hHeld => ?_)
                      clear hK K hHeld
                      (try simp only [Act.put, List.setIfInBounds_toArray, List.set_cons_zero, List.set_cons_succ])
                      refine wpAnyH_ready (rs := [9]) (by kernel_rfl) (by simp) ?_
                      refine AllReadyH.cons (o := _) rfl (fun K hK => ?_) ?_
                      · refine st_store rfl rfl B58 (news := [.bool (decide (Z7 < 0)), .slice A7 E7.length c7]) (by rfl) infoNum (by simp) (by simp [Value.oneCell']) ?_; intro w7 hon2 B9; simp only [List.take_zero, List.nil_append, List.length_cons, List.length_nil, List.drop_succ_cons, List.drop_zero, List.append_nil, List.cons_append] at B9; have B89 := B8.only hon2 (Ne.symm hne54); replace B3 := B3.only hon2 hne35; replace o3 := ow_only o3 hon2 hl5 (Nat.le_refl _); replace o7 := ow_only o7 hon2 hl5 (Nat.le_refl _)
                        refine hK.out _ _ B3 (fun hHeld => ?_)
                        clear hK K hHeld
                        (try simp only [Act.put, List.setIfInBounds_toArray, List.set_cons_zero, List.set_cons_succ])
                        refine wpAnyH_ready (rs := [10]) (by kernel_rfl) (by simp) ?_
                        refine AllReadyH.cons (o := _) rfl (fun K hK => ?_) AllReadyH.nil
                        go_simp
                        refine hK.out _ _ B3 (fun hHeld => ?_)
                        clear hK K hHeld
                        (try simp only [Act.put, List.setIfInBounds_toArray, List.set_cons_zero, List.set_cons_succ])
                        refine wpAnyH_done (by kernel_rfl) ?_ _
                        refine NoPanic.normal ?_
                        obtain ⟨rfl⟩ := hQ7
                        (go_wp2_with fail)
                        refine bodyPost_ret (results_cct rfl _ _ g4 g5 26 26 #[.bool (decide (Z3 < 0)), .slice A3 E3.length c3] #[.bool (decide (Z7 < 0)), .slice A7 E7.length c7] (0, 0) (0, 0) _ rfl rfl B89.h B9.h Tryd.underlying26 rfl Hsz.out Hsz.out) rfl ?_
                        exact ⟨_, rfl, ⟨_, _, rfl, ⟨.slice A3 E3.length c3, by rw [HZQ.out.1], by rw [HZQ.out.1, ← HE3.out]; exact o3.lower hbw.size⟩, ⟨.slice A7 E7.length c7, by rw [HZQ.out.2], by rw [HZQ.out.2, ← HE7.out]; exact o7.lower hbw.size⟩⟩, ((bthen hbw hcur).trans (hon.below hg4)).trans (hon2.below hg5)⟩
                      exact AllReadyH.nil
                    exact AllReadyH.nil
                  exact AllReadyH.nil
                exact AllReadyH.nil
              exact AllReadyH.nil
            exact AllReadyH.nil
          refine AllReadyH.cons (o := _) rfl (fun K hK => ?_) ?_
          · refine st_lit (v := fun g => .slice (some ⟨g, 0, none⟩) 2 2) 37 rfl (cs := [.bool rb, .slice A5 E5.length c5, .bool n2, .slice A2 m.length c2]) (t := 26) (by go_simp; try rfl) ?_; intro g37 w6 hbn B37 hg37; replace B3 := B3.below hbn; replace B4 := B4.below hbn; replace B5 := B5.below hbn; replace hlq := hlq.below hbn; replace hlr := hlr.below hbn; replace hlb := hlb.below hbn; clear C4 C5; have C4 := B4.cells; have C5 := B5.cells; replace hl1 := hl1.below hbn; replace hcur := bthen hcur hbn
            refine hK.out _ _ B3 (fun hHeld => ?_)
            clear hK K hHeld
            (try simp only [Act.put, List.setIfInBounds_toArray, List.set_cons_zero, List.set_cons_succ])
            refine wpAnyH_ready (rs := [0]) (by kernel_rfl) (by simp) ?_
            refine AllReadyH.cons (o := _) rfl (fun K hK => ?_) ?_
            · go_simp
              refine hK.out _ _ B3 (fun hHeld => ?_)
              clear hK K hHeld
              (try simp only [Act.put, List.setIfInBounds_toArray, List.set_cons_zero, List.set_cons_succ])
              refine wpAnyH_ready (rs := [2]) (by kernel_rfl) (by simp) ?_
              refine AllReadyH.cons (o := _) rfl (fun K hK => ?_) ?_
              · refine st_lit (v := fun g => .slice (some ⟨g, 0, none⟩) 2 2) 33 rfl (cs := [.bool qb, .slice A4 E4.length c4, .bool (decide ((-1 : Int) < 0)), .slice A1 E1.length c1]) (t := 26) (by go_simp; try rfl) ?_; intro g33 w6 hbn B33 hg33; replace B3 := B3.below hbn; replace B4 := B4.below hbn; replace B5 := B5.below hbn; replace hlq := hlq.below hbn; replace hlr := hlr.below hbn; replace hlb := hlb.below hbn; clear C4 C5; have C4 := B4.cells; have C5 := B5.cells; replace hl1 := hl1.below hbn; replace B37 := B37.below hbn; replace hcur := bthen hcur hbn
                refine hK.out _ _ B3 (fun hHeld => ?_)
                clear hK K hHeld
                (try simp only [Act.put, List.setIfInBounds_toArray, List.set_cons_zero, List.set_cons_succ])
                refine wpAnyH_ready (rs := [3]) (by kernel_rfl) (by simp) ?_
                refine AllReadyH.cons (o := _) rfl (fun K hK => ?_) ?_
                · go_simp; refine (numAddAll_any [⟨qb, A4, c4, E4⟩, ⟨decide ((-1 : Int) < 0), A1, c1, E1⟩] 2 rfl _ 2 w6 (B33.rd (l := [⟨qb, A4, c4, E4⟩, ⟨decide ((-1 : Int) < 0), A1, c1, E1⟩]) lenN rfl) (Nat.le_refl _) (two_limN hlq hl1) 274877906942 (two_len hE4 (one_len HE1.out)) (by omega) (by omega)).mono ?_; rintro e w6 ⟨v6, rfl, ht3, hbn⟩; rw [HZ3.out A4 c4 E4 A1 c1 E1 HE4.out HE1.out] at ht3; obtain ⟨A3, c3, E3, rfl, o3, HE3, h31⟩ := told_sl ht3; replace o3 := o3.lower hcur.size; clear ht3 hl1 B33; replace B3 := B3.below hbn; replace B4 := B4.below hbn; replace B5 := B5.below hbn; replace hlq := hlq.below hbn; replace hlr := hlr.below hbn; replace hlb := hlb.below hbn; clear C4 C5; have C4 := B4.cells; have C5 := B5.cells; replace B37 := B37.below hbn; replace hcur := bthen hcur hbn; go_wp2_with fail
                  refine hK.out _ _ B3 (fun hHeld => ?_)
                  clear hK K hHeld
                  (try simp only [Act.put, List.setIfInBounds_toArray, List.set_cons_zero, List.set_cons_succ])
                  refine wpAnyH_ready (rs := [7]) (by kernel_rfl) (by simp) ?_
                  refine AllReadyH.cons (o := _) rfl (fun K hK => ?_) ?_
                  · go_simp; refine (numAddAll_any [⟨rb, A5, c5, E5⟩, ⟨n2, A2, c2, m⟩] 2 rfl _ 2 w6 (B37.rd (l := [⟨rb, A5, c5, E5⟩, ⟨n2, A2, c2, m⟩]) lenN rfl) (Nat.le_refl _) (two_limN hlr hlb) 274877906942 (two_len hE5 hml) (by omega) (by omega)).mono ?_; rintro e w6 ⟨v6, rfl, ht7, hbn⟩; rw [HZ7.out A5 c5 E5 HE5.out] at ht7; obtain ⟨A7, c7, E7, rfl, o7, HE7, h71⟩ := told_sl ht7; replace o7 := o7.lower hcur.size; clear ht7 B37; replace B3 := B3.below hbn; replace B4 := B4.below hbn; replace B5 := B5.below hbn; replace hlq := hlq.below hbn; replace hlr := hlr.below hbn; replace hlb := hlb.below hbn; clear C4 C5; have C4 := B4.cells; have C5 := B5.cells; replace o3 := o3.below hbn; replace hcur := bthen hcur hbn; go_wp2_with fail
                    refine hK.out _ _ B3 (fun hHeld => ?_)
                    clear hK K hHeld
                    (try simp only [Act.put, List.setIfInBounds_toArray, List.set_cons_zero, List.set_cons_succ])
                    refine wpAnyH_ready (rs := [8]) (by kernel_rfl) (by simp) ?_
                    refine AllReadyH.cons (o := _) rfl (fun K hK => ?_) ?_
                    · refine st_store rfl rfl B4 (news := [.bool (decide (Z3 < 0)), .slice A3 E3.length c3]) (by rfl) infoNum (by simp) (by simp [Value.oneCell']) ?_; intro w6 hon B8; simp only [List.take_zero, List.nil_append, List.length_cons, List.length_nil, List.drop_succ_cons, List.drop_zero, List.append_nil, List.cons_append] at B8; have B58 := B5.only hon hne54; replace B3 := B3.only hon hne34; replace o3 := ow_only o3 hon hl4 (Nat.le_refl _); replace o7 := ow_only o7 hon hl4 (Nat.le_refl _)
                      refine hK.out _ _ B3 (fun hHeld => ?_)
                      clear hK K hHeld
                      (try simp only [Act.put, List.setIfInBounds_toArray, List.set_cons_zero, List.set_cons_succ])
                      refine wpAnyH_ready (rs := [9]) (by kernel_rfl) (by simp) ?_
                      refine AllReadyH.cons (o := _) rfl (fun K hK => ?_) ?_
                      · refine st_store rfl rfl B58 (news := [.bool (decide (Z7 < 0)), .slice A7 E7.length c7]) (by rfl) infoNum (by simp) (by simp [Value.oneCell']) ?_; intro w7 hon2 B9; simp only [List.take_zero, List.nil_append, List.length_cons, List.length_nil, List.drop_succ_cons, List.drop_zero, List.append_nil, List.cons_append] at B9; have B89 := B8.only hon2 (Ne.symm hne54); replace B3 := B3.only hon2 hne35; replace o3 := ow_only o3 hon2 hl5 (Nat.le_refl _); replace o7 := ow_only o7 hon2 hl5 (Nat.le_refl _)
                        refine hK.out _ _ B3 (fun hHeld => ?_)
                        clear hK K hHeld
                        (try simp only [Act.put, List.setIfInBounds_toArray, List.set_cons_zero, List.set_cons_succ])
                        refine wpAnyH_ready (rs := [10]) (by kernel_rfl) (by simp) ?_
                        refine AllReadyH.cons (o := _) rfl (fun K hK => ?_) AllReadyH.nil
                        go_simp
                        refine hK.out _ _ B3 (fun hHeld => ?_)
                        clear hK K hHeld
                        (try simp only [Act.put, List.setIfInBounds_toArray, List.set_cons_zero, List.set_cons_succ])
                        refine wpAnyH_done (by kernel_rfl) ?_ _
                        refine NoPanic.normal ?_
                        obtain ⟨rfl⟩ := hQ7
                        (go_wp2_with fail)
                        refine bodyPost_ret (results_cct rfl _ _ g4 g5 26 26 #[.bool (decide (Z3 < 0)), .slice A3 E3.length c3] #[.bool (decide (Z7 < 0)), .slice A7 E7.length c7] (0, 0) (0, 0) _ rfl rfl B89.h B9.h Tryd.underlying26 rfl Hsz.out Hsz.out) rfl ?_
                        exact ⟨_, rfl, ⟨_, _, rfl, ⟨.slice A3 E3.length c3, by rw [HZQ.out.1], by rw [HZQ.out.1, ← HE3.out]; exact o3.lower hbw.size⟩, ⟨.slice A7 E7.length c7, by rw [HZQ.out.2], by rw [HZQ.out.2, ← HE7.out]; exact o7.lower hbw.size⟩⟩, ((bthen hbw hcur).trans (hon.below hg4)).trans (hon2.below hg5)⟩
                      exact AllReadyH.nil
                    exact AllReadyH.nil
                  exact AllReadyH.nil
                exact AllReadyH.nil
              exact AllReadyH.nil
            exact AllReadyH.nil
          exact AllReadyH.nil
        exact AllReadyH.nil
      refine AllReadyH.cons (o := _) rfl (fun K hK => ?_) ?_
      · go_simp
        refine hK.out _ _ B3 (fun hHeld => ?_)
        clear hK K hHeld
        (try simp only [Act.put, List.setIfInBounds_toArray, List.set_cons_zero, List.set_cons_succ])
        refine wpAnyH_ready (rs := [0, 1, 6]) (by kernel_rfl) (by simp) ?_
        refine AllReadyH.cons (o := _) rfl (fun K hK => ?_) ?_
        · go_simp
          refine hK.out _ _ B3 (fun hHeld => ?_)
          clear hK K hHeld
          (try simp only [Act.put, List.setIfInBounds_toArray, List.set_cons_zero, List.set_cons_succ])
          refine wpAnyH_ready (rs := [1, 6]) (by kernel_rfl) (by simp) ?_
          refine AllReadyH.cons (o := _) rfl (fun K hK => ?_) ?_
          · go_simp; refine (numInt_any (-1) _ (by omega) (by omega)).mono ?_; rintro e w6 ⟨v6, rfl, ht1, hbn⟩; obtain ⟨A1, c1, E1, rfl, o1, HE1, h11⟩ := told_sl ht1; clear ht1; have hl1 : Lim w6 A1 c1 E1 := lim_one o1 HE1.out h11; clear o1; replace B3 := B3.below hbn; replace B4 := B4.below hbn; replace B5 := B5.below hbn; replace hlq := hlq.below hbn; replace hlr := hlr.below hbn; replace hlb := hlb.below hbn; clear C4 C5; have C4 := B4.cells; have C5 := B5.cells; replace hcur := bthen hcur hbn; go_wp2_with fail
            refine hK.out _ _ B3 (fun hHeld => ?_)
            clear hK K hHeld
            (try simp only [Act.put, List.setIfInBounds_toArray, List.set_cons_zero, List.set_cons_succ])
            refine wpAnyH_ready (rs := [2, 6]) (by kernel_rfl) (by simp) ?_
            refine AllReadyH.cons (o := _) rfl (fun K hK => ?_) ?_
            · refine st_lit (v := fun g => .slice (some ⟨g, 0, none⟩) 2 2) 33 rfl (cs := [.bool qb, .slice A4 E4.length c4, .bool (decide ((-1 : Int) < 0)), .slice A1 E1.length c1]) (t := 26) (by go_simp; try rfl) ?_; intro g33 w6 hbn B33 hg33; replace B3 := B3.below hbn; replace B4 := B4.below hbn; replace B5 := B5.below hbn; replace hlq := hlq.below hbn; replace hlr := hlr.below hbn; replace hlb := hlb.below hbn; clear C4 C5; have C4 := B4.cells; have C5 := B5.cells; replace hl1 := hl1.below hbn; replace hcur := bthen hcur hbn
              refine hK.out _ _ B3 (fun hHeld => ?_)
              clear hK K hHeld
              (try simp only [Act.put, List.setIfInBounds_toArray, List.set_cons_zero, List.set_cons_succ])
              refine wpAnyH_ready (rs := [3, 6]) (by kernel_rfl) (by simp) ?_
              refine AllReadyH.cons (o := _) rfl (fun K hK => ?_) ?_
              · go_simp; refine (numAddAll_any [⟨qb, A4, c4, E4⟩, ⟨decide ((-1 : Int) < 0), A1, c1, E1⟩] 2 rfl _ 2 w6 (B33.rd (l := [⟨qb, A4, c4, E4⟩, ⟨decide ((-1 : Int) < 0), A1, c1, E1⟩]) lenN rfl) (Nat.le_refl _) (two_limN hlq hl1) 274877906942 (two_len hE4 (one_len HE1.out)) (by omega) (by omega)).mono ?_; rintro e w6 ⟨v6, rfl, ht3, hbn⟩; rw [HZ3.out A4 c4 E4 A1 c1 E1 HE4.out HE1.out] at ht3; obtain ⟨A3, c3, E3, rfl, o3, HE3, h31⟩ := told_sl ht3; replace o3 := o3.lower hcur.size; clear ht3 hl1 B33; replace B3 := B3.below hbn; replace B4 := B4.below hbn; replace B5 := B5.below hbn; replace hlq := hlq.below hbn; replace hlr := hlr.below hbn; replace hlb := hlb.below hbn; clear C4 C5; have C4 := B4.cells; have C5 := B5.cells; replace hcur := bthen hcur hbn; go_wp2_with fail
                refine hK.out _ _ B3 (fun hHeld => ?_)
                clear hK K hHeld
                (try simp only [Act.put, List.setIfInBounds_toArray, List.set_cons_zero, List.set_cons_succ])
                refine wpAnyH_ready (rs := [6]) (by kernel_rfl) (by simp) ?_
                refine AllReadyH.cons (o := _) rfl (fun K hK => ?_) ?_
                · refine st_lit (v := fun g => .slice (some ⟨g, 0, none⟩) 2 2) 37 rfl (cs := [.bool rb, .slice A5 E5.length c5, .bool n2, .slice A2 m.length c2]) (t := 26) (by go_simp; try rfl) ?_; intro g37 w6 hbn B37 hg37; replace B3 := B3.below hbn; replace B4 := B4.below hbn; replace B5 := B5.below hbn; replace hlq := hlq.below hbn; replace hlr := hlr.below hbn; replace hlb := hlb.below hbn; clear C4 C5; have C4 := B4.cells; have C5 := B5.cells; replace o3 := o3.below hbn; replace hcur := bthen hcur hbn
                  refine hK.out _ _ B3 (fun hHeld => ?_)
                  clear hK K hHeld
                  (try simp only [Act.put, List.setIfInBounds_toArray, List.set_cons_zero, List.set_cons_succ])
                  refine wpAnyH_ready (rs := [7]) (by kernel_rfl) (by simp) ?_
                  refine AllReadyH.cons (o := _) rfl (fun K hK => ?_) ?_
                  · go_simp; refine (numAddAll_any [⟨rb, A5, c5, E5⟩, ⟨n2, A2, c2, m⟩] 2 rfl _ 2 w6 (B37.rd (l := [⟨rb, A5, c5, E5⟩, ⟨n2, A2, c2, m⟩]) lenN rfl) (Nat.le_refl _) (two_limN hlr hlb) 274877906942 (two_len hE5 hml) (by omega) (by omega)).mono ?_; rintro e w6 ⟨v6, rfl, ht7, hbn⟩; rw [HZ7.out A5 c5 E5 HE5.out] at ht7; obtain ⟨A7, c7, E7, rfl, o7, HE7, h71⟩ := told_sl ht7; replace o7 := o7.lower hcur.size; clear ht7 B37; replace B3 := B3.below hbn; replace B4 := B4.below hbn; replace B5 := B5.below hbn; replace hlq := hlq.below hbn; replace hlr := hlr.below hbn; replace hlb := hlb.below hbn; clear C4 C5; have C4 := B4.cells; have C5 := B5.cells; replace o3 := o3.below hbn; replace hcur := bthen hcur hbn; go_wp2_with fail
                    refine hK.out _ _ B3 (fun hHeld => ?_)
                    clear hK K hHeld
                    (try simp only [Act.put, List.setIfInBounds_toArray, List.set_cons_zero, List.set_cons_succ])
                    refine wpAnyH_ready (rs := [8]) (by kernel_rfl) (by simp) ?_
                    refine AllReadyH.cons (o := _) rfl (fun K hK => ?_) ?_
                    · refine st_store rfl rfl B4 (news := [.bool (decide (Z3 < 0)), .slice A3 E3.length c3]) (by rfl) infoNum (by simp) (by simp [Value.oneCell']) ?_; intro w6 hon B8; simp only [List.take_zero, List.nil_append, List.length_cons, List.length_nil, List.drop_succ_cons, List.drop_zero, List.append_nil, List.cons_append] at B8; have B58 := B5.only hon hne54; replace B3 := B3.only hon hne34; replace o3 := ow_only o3 hon hl4 (Nat.le_refl _); replace o7 := ow_only o7 hon hl4 (Nat.le_refl _)
                      refine hK.out _ _ B3 (fun hHeld => ?_)
                      clear hK K hHeld
                      (try simp only [Act.put, List.setIfInBounds_toArray, List.set_cons_zero, List.set_cons_succ])
                      refine wpAnyH_ready (rs := [9]) (by kernel_rfl) (by simp) ?_
                      refine AllReadyH.cons (o := _) rfl (fun K hK => ?_) ?_
                      · refine st_store rfl rfl B58 (news := [.bool (decide (Z7 < 0)), .slice A7 E7.length c7]) (by rfl) infoNum (by simp) (by simp [Value.oneCell']) ?_; intro w7 hon2 B9; simp only [List.take_zero, List.nil_append, List.length_cons, List.length_nil, List.drop_succ_cons, List.drop_zero, List.append_nil, List.cons_append] at B9; have B89 := B8.only hon2 (Ne.symm hne54); replace B3 := B3.only hon2 hne35; replace o3 := ow_only o3 hon2 hl5 (Nat.le_refl _); replace o7 := ow_only o7 hon2 hl5 (Nat.le_refl _)
                        refine hK.out _ _ B3 (fun hHeld => ?_)
                        clear hK K hHeld
                        (try simp only [Act.put, List.setIfInBounds_toArray, List.set_cons_zero, List.set_cons_succ])
                        refine wpAnyH_ready (rs := [10]) (by kernel_rfl) (by simp) ?_
                        refine AllReadyH.cons (o := _) rfl (fun K hK => ?_) AllReadyH.nil
                        go_simp
                        refine hK.out _ _ B3 (fun hHeld => ?_)
                        clear hK K hHeld
                        (try simp only [Act.put, List.setIfInBounds_toArray, List.set_cons_zero, List.set_cons_succ])
                        refine wpAnyH_done (by kernel_rfl) ?_ _
                        refine NoPanic.normal ?_
                        obtain ⟨rfl⟩ := hQ7
                        (go_wp2_with fail)
                        refine bodyPost_ret (results_cct rfl _ _ g4 g5 26 26 #[.bool (decide (Z3 < 0)), .slice A3 E3.length c3] #[.bool (decide (Z7 < 0)), .slice A7 E7.length c7] (0, 0) (0, 0) _ rfl rfl B89.h B9.h Tryd.underlying26 rfl Hsz.out Hsz.out) rfl ?_
                        exact ⟨_, rfl, ⟨_, _, rfl, ⟨.slice A3 E3.length c3, by rw [HZQ.out.1], by rw [HZQ.out.1, ← HE3.out]; exact o3.lower hbw.size⟩, ⟨.slice A7 E7.length c7, by rw [HZQ.out.2], by rw [HZQ.out.2, ← HE7.out]; exact o7.lower hbw.size⟩⟩, ((bthen hbw hcur).trans (hon.below hg4)).trans (hon2.below hg5)⟩
                      exact AllReadyH.nil
                    exact AllReadyH.nil
                  exact AllReadyH.nil
                exact AllReadyH.nil
              refine AllReadyH.cons (o := _) rfl (fun K hK => ?_) ?_
              · refine st_lit (v := fun g => .slice (some ⟨g, 0, none⟩) 2 2) 37 rfl (cs := [.bool rb, .slice A5 E5.length c5, .bool n2, .slice A2 m.length c2]) (t := 26) (by go_simp; try rfl) ?_; intro g37 w6 hbn B37 hg37; replace B3 := B3.below hbn; replace B4 := B4.below hbn; replace B5 := B5.below hbn; replace hlq := hlq.below hbn; replace hlr := hlr.below hbn; replace hlb := hlb.below hbn; clear C4 C5; have C4 := B4.cells; have C5 := B5.cells; replace hl1 := hl1.below hbn; replace B33 := B33.below hbn; replace hcur := bthen hcur hbn
                refine hK.out _ _ B3 (fun hHeld => ?_)
                clear hK K hHeld
                (try simp only [Act.put, List.setIfInBounds_toArray, List.set_cons_zero, List.set_cons_succ])
                refine wpAnyH_ready (rs := [3]) (by kernel_rfl) (by simp) ?_
                refine AllReadyH.cons (o := _) rfl (fun K hK => ?_) ?_
                · go_simp; refine (numAddAll_any [⟨qb, A4, c4, E4⟩, ⟨decide ((-1 : Int) < 0), A1, c1, E1⟩] 2 rfl _ 2 w6 (B33.rd (l := [⟨qb, A4, c4, E4⟩, ⟨decide ((-1 : Int) < 0), A1, c1, E1⟩]) lenN rfl) (Nat.le_refl _) (two_limN hlq hl1) 274877906942 (two_len hE4 (one_len HE1.out)) (by omega) (by omega)).mono ?_; rintro e w6 ⟨v6, rfl, ht3, hbn⟩; rw [HZ3.out A4 c4 E4 A1 c1 E1 HE4.out HE1.out] at ht3; obtain ⟨A3, c3, E3, rfl, o3, HE3, h31⟩ := told_sl ht3; replace o3 := o3.lower hcur.size; clear ht3 hl1 B33; replace B3 := B3.below hbn; replace B4 := B4.below hbn; replace B5 := B5.below hbn; replace hlq := hlq.below hbn; replace hlr := hlr.below hbn; replace hlb := hlb.below hbn; clear C4 C5; have C4 := B4.cells; have C5 := B5.cells; replace B37 := B37.below hbn; replace hcur := bthen hcur hbn; go_wp2_with fail
                  refine hK.out _ _ B3 (fun hHeld => ?_)
                  clear hK K hHeld
                  (try simp only [Act.put, List.setIfInBounds_toArray, List.set_cons_zero, List.set_cons_succ])
                  refine wpAnyH_ready (rs := [7]) (by kernel_rfl) (by simp) ?_
                  refine AllReadyH.cons (o := _) rfl (fun K hK => ?_) ?_
                  · go_simp; refine (numAddAll_any [⟨rb, A5, c5, E5⟩, ⟨n2, A2, c2, m⟩] 2 rfl _ 2 w6 (B37.rd (l := [⟨rb, A5, c5, E5⟩, ⟨n2, A2, c2, m⟩]) lenN rfl) (Nat.le_refl _) (two_limN hlr hlb) 274877906942 (two_len hE5 hml) (by omega) (by omega)).mono ?_; rintro e w6 ⟨v6, rfl, ht7, hbn⟩; rw [HZ7.out A5 c5 E5 HE5.out] at ht7; obtain ⟨A7, c7, E7, rfl, o7, HE7, h71⟩ := told_sl ht7; replace o7 := o7.lower hcur.size; clear ht7 B37; replace B3 := B3.below hbn; replace B4 := B4.below hbn; replace B5 := B5.below hbn; replace hlq := hlq.below hbn; replace hlr := hlr.below hbn; replace hlb := hlb.below hbn; clear C4 C5; have C4 := B4.cells; have C5 := B5.cells; replace o3 := o3.below hbn; replace hcur := bthen hcur hbn; go_wp2_with fail
                    refine hK.out _ _ B3 (fun hHeld => ?_)
                    clear hK K hHeld
                    (try simp only [Act.put, List.setIfInBounds_toArray, List.set_cons_zero, List.set_cons_succ])
                    refine wpAnyH_ready (rs := [8]) (by kernel_rfl) (by simp) ?_
                    refine AllReadyH.cons (o := _) rfl (fun K hK => ?_) ?_
                    · refine st_store rfl rfl B4 (news := [.bool (decide (Z3 < 0)), .slice A3 E3.length c3]) (by rfl) infoNum (by simp) (by simp [Value.oneCell']) ?_; intro w6 hon B8; simp only [List.take_zero, List.nil_append, List.length_cons, List.length_nil, List.drop_succ_cons, List.drop_zero, List.append_nil, List.cons_append] at B8; have B58 := B5.only hon hne54; replace B3 := B3.only hon hne34; replace o3 := ow_only o3 hon hl4 (Nat.le_refl _); replace o7 := ow_only o7 hon hl4 (Nat.le_refl _)
                      refine hK.out _ _ B3 (fun hHeld => ?_)
                      clear hK K hHeld
                      (try simp only [Act.put, List.setIfInBounds_toArray, List.set_cons_zero, List.set_cons_succ])
                      refine wpAnyH_ready (rs := [9]) (by kernel_rfl) (by simp) ?_
                      refine AllReadyH.cons (o := _) rfl (fun K hK => ?_) ?_
                      · refine st_store rfl rfl B58 (news := [.bool (decide (Z7 < 0)), .slice A7 E7.length c7]) (by rfl) infoNum (by simp) (by simp [Value.oneCell']) ?_; intro w7 hon2 B9; simp only [List.take_zero, List.nil_append, List.length_cons, List.length_nil, List.drop_succ_cons, List.drop_zero, List.append_nil, List.cons_append] at B9; have B89 := B8.only hon2 (Ne.symm hne54); replace B3 := B3.only hon2 hne35; replace o3 := ow_only o3 hon2 hl5 (Nat.le_refl _); replace o7 := ow_only o7 hon2 hl5 (Nat.le_refl _)
                        refine hK.out _ _ B3 (fun hHeld => ?_)
                        clear hK K hHeld
                        (try simp only [Act.put, List.setIfInBounds_toArray, List.set_cons_zero, List.set_cons_succ])
                        refine wpAnyH_ready (rs := [10]) (by kernel_rfl) (by simp) ?_
                        refine AllReadyH.cons (o := _) rfl (fun K hK => ?_) AllReadyH.nil
                        go_simp
                        refine hK.out _ _ B3 (fun hHeld => ?_)
                        clear hK K hHeld
                        (try simp only [Act.put, List.setIfInBounds_toArray, List.set_cons_zero, List.set_cons_succ])
                        refine wpAnyH_done (by kernel_rfl) ?_ _
                        refine NoPanic.normal ?_
                        obtain ⟨rfl⟩ := hQ7
                        (go_wp2_with fail)
                        refine bodyPost_ret (results_cct rfl _ _ g4 g5 26 26 #[.bool (decide (Z3 < 0)), .slice A3 E3.length c3] #[.bool (decide (Z7 < 0)), .slice A7 E7.length c7] (0, 0) (0, 0) _ rfl rfl B89.h B9.h Tryd.underlying26 rfl Hsz.out Hsz.out) rfl ?_
                        exact ⟨_, rfl, ⟨_, _, rfl, ⟨.slice A3 E3.length c3, by rw [HZQ.out.1], by rw [HZQ.out.1, ← HE3.out]; exact o3.lower hbw.size⟩, ⟨.slice A7 E7.length c7, by rw [HZQ.out.2], by rw [HZQ.out.2, ← HE7.out]; exact o7.lower hbw.size⟩⟩, ((bthen hbw hcur).trans (hon.below hg4)).trans (hon2.below hg5)⟩
                      exact AllReadyH.nil
                    exact AllReadyH.nil
                  exact AllReadyH.nil
                exact AllReadyH.nil
              exact AllReadyH.nil
            refine AllReadyH.cons (o := _) rfl (fun K hK => ?_) ?_
            · refine st_lit (v := fun g => .slice (some ⟨g, 0, none⟩) 2 2) 37 rfl (cs := [.bool rb, .slice A5 E5.length c5, .bool n2, .slice A2 m.length c2]) (t := 26) (by go_simp; try rfl) ?_; intro g37 w6 hbn B37 hg37; replace B3 := B3.below hbn; replace B4 := B4.below hbn; replace B5 := B5.below hbn; replace hlq := hlq.below hbn; replace hlr := hlr.below hbn; replace hlb := hlb.below hbn; clear C4 C5; have C4 := B4.cells; have C5 := B5.cells; replace hl1 := hl1.below hbn; replace hcur := bthen hcur hbn
              refine hK.out _ _ B3 (fun hHeld => ?_)
              clear hK K hHeld
              (try simp only [Act.put, List.setIfInBounds_toArray, List.set_cons_zero, List.set_cons_succ])
              refine wpAnyH_ready (rs := [2]) (by kernel_rfl) (by simp) ?_
              refine AllReadyH.cons (o := _) rfl (fun K hK => ?_) ?_
              · refine st_lit (v := fun g => .slice (some ⟨g, 0, none⟩) 2 2) 33 rfl (cs := [.bool qb, .slice A4 E4.length c4, .bool (decide ((-1 : Int) < 0)), .slice A1 E1.length c1]) (t := 26) (by go_simp; try rfl) ?_; intro g33 w6 hbn B33 hg33; replace B3 := B3.below hbn; replace B4 := B4.below hbn; replace B5 := B5.below hbn; replace hlq := hlq.below hbn; replace hlr := hlr.below hbn; replace hlb := hlb.below hbn; clear C4 C5; have C4 := B4.cells; have C5 := B5.cells; replace hl1 := hl1.below hbn; replace B37 := B37.below hbn; replace hcur := bthen hcur hbn
                refine hK.out _ _ B3 (fun hHeld => ?_)
                clear hK K hHeld
                (try simp only [Act.put, List.setIfInBounds_toArray, List.set_cons_zero, List.set_cons_succ])
                refine wpAnyH_ready (rs := [3]) (by kernel_rfl) (by simp) ?_
                refine AllReadyH.cons (o := _) rfl (fun K hK => ?_) ?_
                · go_simp; refine (numAddAll_any [⟨qb, A4, c4, E4⟩, ⟨decide ((-1 : Int) < 0), A1, c1, E1⟩] 2 rfl _ 2 w6 (B33.rd (l := [⟨qb, A4, c4, E4⟩, ⟨decide ((-1 : Int) < 0), A1, c1, E1⟩]) lenN rfl) (Nat.le_refl _) (two_limN hlq hl1) 274877906942 (two_len hE4 (one_len HE1.out)) (by omega) (by omega)).mono ?_; rintro e w6 ⟨v6, rfl, ht3, hbn⟩; rw [HZ3.out A4 c4 E4 A1 c1 E1 HE4.out HE1.out] at ht3; obtain ⟨A3, c3, E3, rfl, o3, HE3, h31⟩ := told_sl ht3; replace o3 := o3.lower hcur.size; clear ht3 hl1 B33; replace B3 := B3.below hbn; replace B4 := B4.below hbn; replace B5 := B5.below hbn; replace hlq := hlq.below hbn; replace hlr := hlr.below hbn; replace hlb := hlb.below hbn; clear C4 C5; have C4 := B4.cells; have C5 := B5.cells; replace B37 := B37.below hbn; replace hcur := bthen hcur hbn; go_wp2_with fail
                  refine hK.out _ _ B3 (fun hHeld => ?_)
                  clear hK K hHeld
                  (try simp only [Act.put, List.setIfInBounds_toArray, List.set_cons_zero, List.set_cons_succ])
                  refine wpAnyH_ready (rs := [7]) (by kernel_rfl) (by simp) ?_
                  refine AllReadyH.cons (o := _) rfl (fun K hK => ?_) ?_
                  · go_simp; refine (numAddAll_any [⟨rb, A5, c5, E5⟩, ⟨n2, A2, c2, m⟩] 2 rfl _ 2 w6 (B37.rd (l := [⟨rb, A5, c5, E5⟩, ⟨n2, A2, c2, m⟩]) lenN rfl) (Nat.le_refl _) (two_limN hlr hlb) 274877906942 (two_len hE5 hml) (by omega) (by omega)).mono ?_; rintro e w6 ⟨v6, rfl, ht7, hbn⟩; rw [HZ7.out A5 c5 E5 HE5.out] at ht7; obtain ⟨A7, c7, E7, rfl, o7, HE7, h71⟩ := told_sl ht7; replace o7 := o7.lower hcur.size; clear ht7 B37; replace B3 := B3.below hbn; replace B4 := B4.below hbn; replace B5 := B5.below hbn; replace hlq := hlq.below hbn; replace hlr := hlr.below hbn; replace hlb := hlb.below hbn; clear C4 C5; have C4 := B4.cells; have C5 := B5.cells; replace o3 := o3.below hbn; replace hcur := bthen hcur hbn; go_wp2_with fail
                    refine hK.out _ _ B3 (fun hHeld => ?_)
                    clear hK K hHeld
                    (try simp only [Act.put, List.setIfInBounds_toArray, List.set_cons_zero, List.set_cons_succ])
                    refine wpAnyH_ready (rs := [8]) (by kernel_rfl) (by simp) ?_
                    refine AllReadyH.cons (o := _) rfl (fun K hK => ?_) ?_
                    · refine st_store rfl rfl B4 (news := [.bool (decide (Z3 < 0)), .slice A3 E3.length c3]) (by rfl) infoNum (by simp) (by simp [Value.oneCell']) ?_; intro w6 hon B8; simp only [List.take_zero, List.nil_append, List.length_cons, List.length_nil, List.drop_succ_cons, List.drop_zero, List.append_nil, List.cons_append] at B8; have B58 := B5.only hon hne54; replace B3 := B3.only hon hne34; replace o3 := ow_only o3 hon hl4 (Nat.le_refl _); replace o7 := ow_only o7 hon hl4 (Nat.le_refl _)
                      refine hK.out _ _ B3 (fun hHeld => ?_)
                      clear hK K hHeld
                      (try simp only [Act.put, List.setIfInBounds_toArray, List.set_cons_zero, List.set_cons_succ])
                      refine wpAnyH_ready (rs := [9]) (by kernel_rfl) (by simp) ?_
                      refine AllReadyH.cons (o := _) rfl (fun K hK => ?_) ?_
                      · refine st_store rfl rfl B58 (news := [.bool (decide (Z7 < 0)), .slice A7 E7.length c7]) (by rfl) infoNum (by simp) (by simp [Value.oneCell']) ?_; intro w7 hon2 B9; simp only [List.take_zero, List.nil_append, List.length_cons, List.length_nil, List.drop_succ_cons, List.drop_zero, List.append_nil, List.cons_append] at B9; have B89 := B8.only hon2 (Ne.symm hne54); replace B3 := B3.only hon2 hne35; replace o3 := ow_only o3 hon2 hl5 (Nat.le_refl _); replace o7 := ow_only o7 hon2 hl5 (Nat.le_refl _)
                        refine hK.out _ _ B3 (fun hHeld => ?_)
                        clear hK K hHeld
                        (try simp only [Act.put, List.setIfInBounds_toArray, List.set_cons_zero, List.set_cons_succ])
                        refine wpAnyH_ready (rs := [10]) (by kernel_rfl) (by simp) ?_
                        refine AllReadyH.cons (o := _) rfl (fun K hK => ?_) AllReadyH.nil
                        go_simp
                        refine hK.out _ _ B3 (fun hHeld => ?_)
                        clear hK K hHeld
                        (try simp only [Act.put, List.setIfInBounds_toArray, List.set_cons_zero, List.set_cons_succ])
                        refine wpAnyH_done (by kernel_rfl) ?_ _
                        refine NoPanic.normal ?_
                        obtain ⟨rfl⟩ := hQ7
                        (go_wp2_with fail)
                        refine bodyPost_ret (results_cct rfl _ _ g4 g5 26 26 #[.bool (decide (Z3 < 0)), .slice A3 E3.length c3] #[.bool (decide (Z7 < 0)), .slice A7 E7.length c7] (0, 0) (0, 0) _ rfl rfl B89.h B9.h Tryd.underlying26 rfl Hsz.out Hsz.out) rfl ?_
                        exact ⟨_, rfl, ⟨_, _, rfl, ⟨.slice A3 E3.length c3, by rw [HZQ.out.1], by rw [HZQ.out.1, ← HE3.out]; exact o3.lower hbw.size⟩, ⟨.slice A7 E7.length c7, by rw [HZQ.out.2], by rw [HZQ.out.2, ← HE7.out]; exact o7.lower hbw.size⟩⟩, ((bthen hbw hcur).trans (hon.below hg4)).trans (hon2.below hg5)⟩
                      exact AllReadyH.nil
                    exact AllReadyH.nil
                  exact AllReadyH.nil
                exact AllReadyH.nil
              exact AllReadyH.nil
            exact AllReadyH.nil
          refine AllReadyH.cons (o := _) rfl (fun K hK => ?_) ?_
          · refine st_lit (v := fun g => .slice (some ⟨g, 0, none⟩) 2 2) 37 rfl (cs := [.bool rb, .slice A5 E5.length c5, .bool n2, .slice A2 m.length c2]) (t := 26) (by go_simp; try rfl) ?_; intro g37 w6 hbn B37 hg37; replace B3 := B3.below hbn; replace B4 := B4.below hbn; replace B5 := B5.below hbn; replace hlq := hlq.below hbn; replace hlr := hlr.below hbn; replace hlb := hlb.below hbn; clear C4 C5; have C4 := B4.cells; have C5 := B5.cells; replace hcur := bthen hcur hbn
            refine hK.out _ _ B3 (fun hHeld => ?_)
            clear hK K hHeld
            (try simp only [Act.put, List.setIfInBounds_toArray, List.set_cons_zero, List.set_cons_succ])
            refine wpAnyH_ready (rs := [1]) (by kernel_rfl) (by simp) ?_
            refine AllReadyH.cons (o := _) rfl (fun K hK => ?_) ?_
            · go_simp; refine (numInt_any (-1) _ (by omega) (by omega)).mono ?_; rintro e w6 ⟨v6, rfl, ht1, hbn⟩; obtain ⟨A1, c1, E1, rfl, o1, HE1, h11⟩ := told_sl ht1; clear ht1; have hl1 : Lim w6 A1 c1 E1 := lim_one o1 HE1.out h11; clear o1; replace B3 := B3.below hbn; replace B4 := B4.below hbn; replace B5 := B5.below hbn; replace hlq := hlq.below hbn; replace hlr := hlr.below hbn; replace hlb := hlb.below hbn; clear C4 C5; have C4 := B4.cells; have C5 := B5.cells; replace B37 := B37.below hbn; replace hcur := bthen hcur hbn; go_wp2_with fail
              refine hK.out _ _ B3 (fun hHeld => ?_)
              clear hK K hHeld
              (try simp only [Act.put, List.setIfInBounds_toArray, List.set_cons_zero, List.set_cons_succ])
              refine wpAnyH_ready (rs := [2]) (by kernel_rfl) (by simp) ?_
              refine AllReadyH.cons (o := _) rfl (fun K hK => ?_) ?_
              · refine st_lit (v := fun g => .slice (some ⟨g, 0, none⟩) 2 2) 33 rfl (cs := [.bool qb, .slice A4 E4.length c4, .bool (decide ((-1 : Int) < 0)), .slice A1 E1.length c1]) (t := 26) (by go_simp; try rfl) ?_; intro g33 w6 hbn B33 hg33; replace B3 := B3.below hbn; replace B4 := B4.below hbn; replace B5 := B5.below hbn; replace hlq := hlq.below hbn; replace hlr := hlr.below hbn; replace hlb := hlb.below hbn; clear C4 C5; have C4 := B4.cells; have C5 := B5.cells; replace hl1 := hl1.below hbn; replace B37 := B37.below hbn; replace hcur := bthen hcur hbn
                refine hK.out _ _ B3 (fun hHeld => ?_)
                clear hK K hHeld
                (try simp only [Act.put, List.setIfInBounds_toArray, List.set_cons_zero, List.set_cons_succ])
                refine wpAnyH_ready (rs := [3]) (by kernel_rfl) (by simp) ?_
                refine AllReadyH.cons (o := _) rfl (fun K hK => ?_) ?_
                · go_simp; refine (numAddAll_any [⟨qb, A4, c4, E4⟩, ⟨decide ((-1 : Int) < 0), A1, c1, E1⟩] 2 rfl _ 2 w6 (B33.rd (l := [⟨qb, A4, c4, E4⟩, ⟨decide ((-1 : Int) < 0), A1, c1, E1⟩]) lenN rfl) (Nat.le_refl _) (two_limN hlq hl1) 274877906942 (two_len hE4 (one_len HE1.out)) (by omega) (by omega)).mono ?_; rintro e w6 ⟨v6, rfl, ht3, hbn⟩; rw [HZ3.out A4 c4 E4 A1 c1 E1 HE4.out HE1.out] at ht3; obtain ⟨A3, c3, E3, rfl, o3, HE3, h31⟩ := told_sl ht3; replace o3 := o3.lower hcur.size; clear ht3 hl1 B33; replace B3 := B3.below hbn; replace B4 := B4.below hbn; replace B5 := B5.below hbn; replace hlq := hlq.below hbn; replace hlr := hlr.below hbn; replace hlb := hlb.below hbn; clear C4 C5; have C4 := B4.cells; have C5 := B5.cells; replace B37 := B37.below hbn; replace hcur := bthen hcur hbn; go_wp2_with fail
                  refine hK.out _ _ B3 (fun hHeld => ?_)
                  clear hK K hHeld
                  (try simp only [Act.put, List.setIfInBounds_toArray, List.set_cons_zero, List.set_cons_succ])
                  refine wpAnyH_ready (rs := [7]) (by kernel_rfl) (by simp) ?_
                  refine AllReadyH.cons (o := _) rfl (fun K hK => ?_) ?_
                  · go_simp; refine (numAddAll_any [⟨rb, A5, c5, E5⟩, ⟨n2, A2, c2, m⟩] 2 rfl _ 2 w6 (B37.rd (l := [⟨rb, A5, c5, E5⟩, ⟨n2, A2, c2, m⟩]) lenN rfl) (Nat.le_refl _) (two_limN hlr hlb) 274877906942 (two_len hE5 hml) (by omega) (by omega)).mono ?_; rintro e w6 ⟨v6, rfl, ht7, hbn⟩; rw [HZ7.out A5 c5 E5 HE5.out] at ht7; obtain ⟨A7, c7, E7, rfl, o7, HE7, h71⟩ := told_sl ht7; replace o7 := o7.lower hcur.size; clear ht7 B37; replace B3 := B3.below hbn; replace B4 := B4.below hbn; replace B5 := B5.below hbn; replace hlq := hlq.below hbn; replace hlr := hlr.below hbn; replace hlb := hlb.below hbn; clear C4 C5; have C4 := B4.cells; have C5 := B5.cells; replace o3 := o3.below hbn; replace hcur := bthen hcur hbn; go_wp2_with fail
                    refine hK.out _ _ B3 (fun hHeld => ?_)
                    clear hK K hHeld
                    (try simp only [Act.put, List.setIfInBounds_toArray, List.set_cons_zero, List.set_cons_succ])
                    refine wpAnyH_ready (rs := [8]) (by kernel_rfl) (by simp) ?_
                    refine AllReadyH.cons (o := _) rfl (fun K hK => ?_) ?_
                    · refine st_store rfl rfl B4 (news := [.bool (decide (Z3 < 0)), .slice A3 E3.length c3]) (by rfl) infoNum (by simp) (by simp [Value.oneCell']) ?_; intro w6 hon B8; simp only [List.take_zero, List.nil_append, List.length_cons, List.length_nil, List.drop_succ_cons, List.drop_zero, List.append_nil, List.cons_append] at B8; have B58 := B5.only hon hne54; replace B3 := B3.only hon hne34; replace o3 := ow_only o3 hon hl4 (Nat.le_refl _); replace o7 := ow_only o7 hon hl4 (Nat.le_refl _)
                      refine hK.out _ _ B3 (fun hHeld => ?_)
                      clear hK K hHeld
                      (try simp only [Act.put, List.setIfInBounds_toArray, List.set_cons_zero, List.set_cons_succ])
                      refine wpAnyH_ready (rs := [9]) (by kernel_rfl) (by simp) ?_
                      refine AllReadyH.cons (o := _) rfl (fun K hK => ?_) ?_
                      · refine st_store rfl rfl B58 (news := [.bool (decide (Z7 < 0)), .slice A7 E7.length c7]) (by rfl) infoNum (by simp) (by simp [Value.oneCell']) ?_; intro w7 hon2 B9; simp only [List.take_zero, List.nil_append, List.length_cons, List.length_nil, List.drop_succ_cons, List.drop_zero, List.append_nil, List.cons_append] at B9; have B89 := B8.only hon2 (Ne.symm hne54); replace B3 := B3.only hon2 hne35; replace o3 := ow_only o3 hon2 hl5 (Nat.le_refl _); replace o7 := ow_only o7 hon2 hl5 (Nat.le_refl _)
                        refine hK.out _ _ B3 (fun hHeld => ?_)
                        clear hK K hHeld
                        (try simp only [Act.put, List.setIfInBounds_toArray, List.set_cons_zero, List.set_cons_succ])
                        refine wpAnyH_ready (rs := [10]) (by kernel_rfl) (by simp) ?_
                        refine AllReadyH.cons (o := _) rfl (fun K hK => ?_) AllReadyH.nil
                        go_simp
                        refine hK.out _ _ B3 (fun hHeld => ?_)
                        clear hK K hHeld
                        (try simp only [Act.put, List.setIfInBounds_toArray, List.set_cons_zero, List.set_cons_succ])
                        refine wpAnyH_done (by kernel_rfl) ?_ _
                        refine NoPanic.normal ?_
                        obtain ⟨rfl⟩ := hQ7
                        (go_wp2_with fail)
                        refine bodyPost_ret (results_cct rfl _ _ g4 g5 26 26 #[.bool (decide (Z3 < 0)), .slice A3 E3.length c3] #[.bool (decide (Z7 < 0)), .slice A7 E7.length c7] (0, 0) (0, 0) _ rfl rfl B89.h B9.h Tryd.underlying26 rfl Hsz.out Hsz.out) rfl ?_
                        exact ⟨_, rfl, ⟨_, _, rfl, ⟨.slice A3 E3.length c3, by rw [HZQ.out.1], by rw [HZQ.out.1, ← HE3.out]; exact o3.lower hbw.size⟩, ⟨.slice A7 E7.length c7, by rw [HZQ.out.2], by rw [HZQ.out.2, ← HE7.out]; exact o7.lower hbw.size⟩⟩, ((bthen hbw hcur).trans (hon.below hg4)).trans (hon2.below hg5)⟩
                      exact AllReadyH.nil
                    exact AllReadyH.nil
                  exact AllReadyH.nil
                exact AllReadyH.nil
              exact AllReadyH.nil
            exact AllReadyH.nil
          exact AllReadyH.nil
        refine AllReadyH.cons (o := _) rfl (fun K hK => ?_) ?_
        · go_simp; refine (numInt_any (-1) _ (by omega) (by omega)).mono ?_; rintro e w6 ⟨v6, rfl, ht1, hbn⟩; obtain ⟨A1, c1, E1, rfl, o1, HE1, h11⟩ := told_sl ht1; clear ht1; have hl1 : Lim w6 A1 c1 E1 := lim_one o1 HE1.out h11; clear o1; replace B3 := B3.below hbn; replace B4 := B4.below hbn; replace B5 := B5.below hbn; replace hlq := hlq.below hbn; replace hlr := hlr.below hbn; replace hlb := hlb.below hbn; clear C4 C5; have C4 := B4.cells; have C5 := B5.cells; replace hcur := bthen hcur hbn; go_wp2_with fail
          refine hK.out _ _ B3 (fun hHeld => ?_)
          clear hK K hHeld
          (try simp only [Act.put, List.setIfInBounds_toArray, List.set_cons_zero, List.set_cons_succ])
          refine wpAnyH_ready (rs := [0, 6]) (by kernel_rfl) (by simp) ?_
          refine AllReadyH.cons (o := _) rfl (fun K hK => ?_) ?_
          · go_simp
            refine hK.out _ _ B3 (fun hHeld => ?_)
            clear hK K hHeld
            (try simp only [Act.put, List.setIfInBounds_toArray, List.set_cons_zero, List.set_cons_succ])
            refine wpAnyH_ready (rs := [2, 6]) (by kernel_rfl) (by simp) ?_
            refine AllReadyH.cons (o := _) rfl (fun K hK => ?_) ?_
            · refine st_lit (v := fun g => .slice (some ⟨g, 0, none⟩) 2 2) 33 rfl (cs := [.bool qb, .slice A4 E4.length c4, .bool (decide ((-1 : Int) < 0)), .slice A1 E1.length c1]) (t := 26) (by go_simp; try rfl) ?_; intro g33 w6 hbn B33 hg33; replace B3 := B3.below hbn; replace B4 := B4.below hbn; replace B5 := B5.below hbn; replace hlq := hlq.below hbn; replace hlr := hlr.below hbn; replace hlb := hlb.below hbn; clear C4 C5; have C4 := B4.cells; have C5 := B5.cells; replace hl1 := hl1.below hbn; replace hcur := bthen hcur hbn
              refine hK.out _ _ B3 (fun hHeld => ?_)
              clear hK K hHeld
              (try simp only [Act.put, List.setIfInBounds_toArray, List.set_cons_zero, List.set_cons_succ])
              refine wpAnyH_ready (rs := [3, 6]) (by kernel_rfl) (by simp) ?_
              refine AllReadyH.cons (o := _) rfl (fun K hK => ?_) ?_
              · go_simp; refine (numAddAll_any [⟨qb, A4, c4, E4⟩, ⟨decide ((-1 : Int) < 0), A1, c1, E1⟩] 2 rfl _ 2 w6 (B33.rd (l := [⟨qb, A4, c4, E4⟩, ⟨decide ((-1 : Int) < 0), A1, c1, E1⟩]) lenN rfl) (Nat.le_refl _) (two_limN hlq hl1) 274877906942 (two_len hE4 (one_len HE1.out)) (by omega) (by omega)).mono ?_; rintro e w6 ⟨v6, rfl, ht3, hbn⟩; rw [HZ3.out A4 c4 E4 A1 c1 E1 HE4.out HE1.out] at ht3; obtain ⟨A3, c3, E3, rfl, o3, HE3, h31⟩ := told_sl ht3; replace o3 := o3.lower hcur.size; clear ht3 hl1 B33; replace B3 := B3.below hbn; replace B4 := B4.below hbn; replace B5 := B5.below hbn; replace hlq := hlq.below hbn; replace hlr := hlr.below hbn; replace hlb := hlb.below hbn; clear C4 C5; have C4 := B4.cells; have C5 := B5.cells; replace hcur := bthen hcur hbn; go_wp2_with fail
                refine hK.out _ _ B3 (fun hHeld => ?_)
                clear hK K hHeld
                (try simp only [Act.put, List.setIfInBounds_toArray, List.set_cons_zero, List.set_cons_succ])
                refine wpAnyH_ready (rs := [6]) (by kernel_rfl) (by simp) ?_
                refine AllReadyH.cons (o := _) rfl (fun K hK => ?_) ?_
                · refine st_lit (v := fun g => .slice (some ⟨g, 0, none⟩) 2 2) 37 rfl (cs := [.bool rb, .slice A5 E5.length c5, .bool n2, .slice A2 m.length c2]) (t := 26) (by go_simp; try rfl) ?_; intro g37 w6 hbn B37 hg37; replace B3 := B3.below hbn; replace B4 := B4.below hbn; replace B5 := B5.below hbn; replace hlq := hlq.below hbn; replace hlr := hlr.below hbn; replace hlb := hlb.below hbn; clear C4 C5; have C4 := B4.cells; have C5 := B5.cells; replace o3 := o3.below hbn; replace hcur := bthen hcur hbn
                  refine hK.out _ _ B3 (fun hHeld => ?_)
                  clear hK K hHeld
                  (try simp only [Act.put, List.setIfInBounds_toArray, List.set_cons_zero, List.set_cons_succ])
                  refine wpAnyH_ready (rs := [7]) (by kernel_rfl) (by simp) ?_
                  refine AllReadyH.cons (o := _) rfl (fun K hK => ?_) ?_
                  · go_simp; refine (numAddAll_any [⟨rb, A5, c5, E5⟩, ⟨n2, A2, c2, m⟩] 2 rfl _ 2 w6 (B37.rd (l := [⟨rb, A5, c5, E5⟩, ⟨n2, A2, c2, m⟩]) lenN rfl) (Nat.le_refl _) (two_limN hlr hlb) 274877906942 (two_len hE5 hml) (by omega) (by omega)).mono ?_; rintro e w6 ⟨v6, rfl, ht7, hbn⟩; rw [HZ7.out A5 c5 E5 HE5.out] at ht7; obtain ⟨A7, c7, E7, rfl, o7, HE7, h71⟩ := told_sl ht7; replace o7 := o7.lower hcur.size; clear ht7 B37; replace B3 := B3.below hbn; replace B4 := B4.below hbn; replace B5 := B5.below hbn; replace hlq := hlq.below hbn; replace hlr := hlr.below hbn; replace hlb := hlb.below hbn; clear C4 C5; have C4 := B4.cells; have C5 := B5.cells; replace o3 := o3.below hbn; replace hcur := bthen hcur hbn; go_wp2_with fail
                    refine hK.out _ _ B3 (fun hHeld => ?_)
                    clear hK K hHeld
                    (try simp only [Act.put, List.setIfInBounds_toArray, List.set_cons_zero, List.set_cons_succ])
                    refine wpAnyH_ready (rs := [8]) (by kernel_rfl) (by simp) ?_
                    refine AllReadyH.cons (o := _) rfl (fun K hK => ?_) ?_
                    · refine st_store rfl rfl B4 (news := [.bool (decide (Z3 < 0)), .slice A3 E3.length c3]) (by rfl) infoNum (by simp) (by simp [Value.oneCell']) ?_; intro w6 hon B8; simp only [List.take_zero, List.nil_append, List.length_cons, List.length_nil, List.drop_succ_cons, List.drop_zero, List.append_nil, List.cons_append] at B8; have B58 := B5.only hon hne54; replace B3 := B3.only hon hne34; replace o3 := ow_only o3 hon hl4 (Nat.le_refl _); replace o7 := ow_only o7 hon hl4 (Nat.le_refl _)
                      refine hK.out _ _ B3 (fun hHeld => ?_)
                      clear hK K hHeld
                      (try simp only [Act.put, List.setIfInBounds_toArray, List.set_cons_zero, List.set_cons_succ])
                      refine wpAnyH_ready (rs := [9]) (by kernel_rfl) (by simp) ?_
                      refine AllReadyH.cons (o := _) rfl (fun K hK => ?_) ?_
                      · refine st_store rfl rfl B58 (news := [.bool (decide (Z7 < 0)), .slice A7 E7.length c7]) (by rfl) infoNum (by simp) (by simp [Value.oneCell']) ?_; intro w7 hon2 B9; simp only [List.take_zero, List.nil_append, List.length_cons, List.length_nil, List.drop_succ_cons, List.drop_zero, List.append_nil, List.cons_append] at B9; have B89 := B8.only hon2 (Ne.symm hne54); replace B3 := B3.only hon2 hne35; replace o3 := ow_only o3 hon2 hl5 (Nat.le_refl _); replace o7 := ow_only o7 hon2 hl5 (Nat.le_refl _)
                        refine hK.out _ _ B3 (fun hHeld => ?_)
                        clear hK K hHeld
                        (try simp only [Act.put, List.setIfInBounds_toArray, List.set_cons_zero, List.set_cons_succ])
                        refine wpAnyH_ready (rs := [10]) (by kernel_rfl) (by simp) ?_
                        refine AllReadyH.cons (o := _) rfl (fun K hK => ?_) AllReadyH.nil
                        go_simp
                        refine hK.out _ _ B3 (fun hHeld => ?_)
                        clear hK K hHeld
                        (try simp only [Act.put, List.setIfInBounds_toArray, List.set_cons_zero, List.set_cons_succ])
                        refine wpAnyH_done (by kernel_rfl) ?_ _
                        refine NoPanic.normal ?_
                        obtain ⟨rfl⟩ := hQ7
                        (go_wp2_with fail)
                        refine bodyPost_ret (results_cct rfl _ _ g4 g5 26 26 #[.bool (decide (Z3 < 0)), .slice A3 E3.length c3] #[.bool (decide (Z7 < 0)), .slice A7 E7.length c7] (0, 0) (0, 0) _ rfl rfl B89.h B9.h Tryd.underlying26 rfl Hsz.out Hsz.out) rfl ?_
                        exact ⟨_, rfl, ⟨_, _, rfl, ⟨.slice A3 E3.length c3, by rw [HZQ.out.1], by rw [HZQ.out.1, ← HE3.out]; exact o3.lower hbw.size⟩, ⟨.slice A7 E7.length c7, by rw [HZQ.out.2], by rw [HZQ.out.2, ← HE7.out]; exact o7.lower hbw.size⟩⟩, ((bthen hbw hcur).trans (hon.below hg4)).trans (hon2.below hg5)⟩
                      exact AllReadyH.nil
                    exact AllReadyH.nil
                  exact AllReadyH.nil
                exact AllReadyH.nil
              refine AllReadyH.cons (o := _) rfl (fun K hK => ?_) ?_
              · refine st_lit (v := fun g => .slice (some ⟨g, 0, none⟩) 2 2) 37 rfl (cs := [.bool rb, .slice A5 E5.length c5, .bool n2, .slice A2 m.length c2]) (t := 26) (by go_simp; try rfl) ?_; intro g37 w6 hbn B37 hg37; replace B3 := B3.below hbn; replace B4 := B4.below hbn; replace B5 := B5.below hbn; replace hlq := hlq.below hbn; replace hlr := hlr.below hbn; replace hlb := hlb.below hbn; clear C4 C5; have C4 := B4.cells; have C5 := B5.cells; replace hl1 := hl1.below hbn; replace B33 := B33.below hbn; replace hcur := bthen hcur hbn
                refine hK.out _ _ B3 (fun hHeld => ?_)
                clear hK K hHeld
                (try simp only [Act.put, List.setIfInBounds_toArray, List.set_cons_zero, List.set_cons_succ])
                refine wpAnyH_ready (rs := [3]) (by kernel_rfl) (by simp) ?_
                refine AllReadyH.cons (o := _) rfl (fun K hK => ?_) ?_
                · go_simp; refine (numAddAll_any [⟨qb, A4, c4, E4⟩, ⟨decide ((-1 : Int) < 0), A1, c1, E1⟩] 2 rfl _ 2 w6 (B33.rd (l := [⟨qb, A4, c4, E4⟩, ⟨decide ((-1 : Int) < 0), A1, c1, E1⟩]) lenN rfl) (Nat.le_refl _) (two_limN hlq hl1) 274877906942 (two_len hE4 (one_len HE1.out)) (by omega) (by omega)).mono ?_; rintro e w6 ⟨v6, rfl, ht3, hbn⟩; rw [HZ3.out A4 c4 E4 A1 c1 E1 HE4.out HE1.out] at ht3; obtain ⟨A3, c3, E3, rfl, o3, HE3, h31⟩ := told_sl ht3; replace o3 := o3.lower hcur.size; clear ht3 hl1 B33; replace B3 := B3.below hbn; replace B4 := B4.below hbn; replace B5 := B5.below hbn; replace hlq := hlq.below hbn; replace hlr := hlr.below hbn; replace hlb := hlb.below hbn; clear C4 C5; have C4 := B4.cells; have C5 := B5.cells; replace B37 := B37.below hbn; replace hcur := bthen hcur hbn; go_wp2_with fail
                  refine hK.out _ _ B3 (fun hHeld => ?_)
                  clear hK K hHeld
                  (try simp only [Act.put, List.setIfInBounds_toArray, List.set_cons_zero, List.set_cons_succ])
                  refine wpAnyH_ready (rs := [7]) (by kernel_rfl) (by simp) ?_
                  refine AllReadyH.cons (o := _) rfl (fun K hK => ?_) ?_
                  · go_simp; refine (numAddAll_any [⟨rb, A5, c5, E5⟩, ⟨n2, A2, c2, m⟩] 2 rfl _ 2 w6 (B37.rd (l := [⟨rb, A5, c5, E5⟩, ⟨n2, A2, c2, m⟩]) lenN rfl) (Nat.le_refl _) (two_limN hlr hlb) 274877906942 (two_len hE5 hml) (by omega) (by omega)).mono ?_; rintro e w6 ⟨v6, rfl, ht7, hbn⟩; rw [HZ7.out A5 c5 E5 HE5.out] at ht7; obtain ⟨A7, c7, E7, rfl, o7, HE7, h71⟩ := told_sl ht7; replace o7 := o7.lower hcur.size; clear ht7 B37; replace B3 := B3.below hbn; replace B4 := B4.below hbn; replace B5 := B5.below hbn; replace hlq := hlq.below hbn; replace hlr := hlr.below hbn; replace hlb := hlb.below hbn; clear C4 C5; have C4 := B4.cells; have C5 := B5.cells; replace o3 := o3.below hbn; replace hcur := bthen hcur hbn; go_wp2_with fail
                    refine hK.out _ _ B3 (fun hHeld => ?_)
                    clear hK K hHeld
                    (try simp only [Act.put, List.setIfInBounds_toArray, List.set_cons_zero, List.set_cons_succ])
                    refine wpAnyH_ready (rs := [8]) (by kernel_rfl) (by simp) ?_
                    refine AllReadyH.cons (o := _) rfl (fun K hK => ?_) ?_
                    · refine st_store rfl rfl B4 (news := [.bool (decide (Z3 < 0)), .slice A3 E3.length c3]) (by rfl) infoNum (by simp) (by simp [Value.oneCell']) ?_; intro w6 hon B8; simp only [List.take_zero, List.nil_append, List.length_cons, List.length_nil, List.drop_succ_cons, List.drop_zero, List.append_nil, List.cons_append] at B8; have B58 := B5.only hon hne54; replace B3 := B3.only hon hne34; replace o3 := ow_only o3 hon hl4 (Nat.le_refl _); replace o7 := ow_only o7 hon hl4 (Nat.le_refl _)
                      refine hK.out _ _ B3 (fun hHeld => ?_)
                      clear hK K hHeld
                      (try simp only [Act.put, List.setIfInBounds_toArray, List.set_cons_zero, List.set_cons_succ])
                      refine wpAnyH_ready (rs := [9]) (by kernel_rfl) (by simp) ?_
                      refine AllReadyH.cons (o := _) rfl (fun K hK => ?_) ?_
                      · refine st_store rfl rfl B58 (news := [.bool (decide (Z7 < 0)), .slice A7 E7.length c7]) (by rfl) infoNum (by simp) (by simp [Value.oneCell']) ?_; intro w7 hon2 B9; simp only [List.take_zero, List.nil_append, List.length_cons, List.length_nil, List.drop_succ_cons, List.drop_zero, List.append_nil, List.cons_append] at B9; have B89 := B8.only hon2 (Ne.symm hne54); replace B3 := B3.only hon2 hne35; replace o3 := ow_only o3 hon2 hl5 (Nat.le_refl _); replace o7 := ow_only o7 hon2 hl5 (Nat.le_refl _)
                        refine hK.out _ _ B3 (fun hHeld => ?_)
                        clear hK K hHeld
                        (try simp only [Act.put, List.setIfInBounds_toArray, List.set_cons_zero, List.set_cons_succ])
                        refine wpAnyH_ready (rs := [10]) (by kernel_rfl) (by simp) ?_
                        refine AllReadyH.cons (o := _) rfl (fun K hK => ?_) AllReadyH.nil
                        go_simp
                        refine hK.out _ _ B3 (fun hHeld => ?_)
                        clear hK K hHeld
                        (try simp only [Act.put, List.setIfInBounds_toArray, List.set_cons_zero, List.set_cons_succ])
                        refine wpAnyH_done (by kernel_rfl) ?_ _
                        refine NoPanic.normal ?_
                        obtain ⟨rfl⟩ := hQ7
                        (go_wp2_with fail)
                        refine bodyPost_ret (results_cct rfl _ _ g4 g5 26 26 #[.bool (decide (Z3 < 0)), .slice A3 E3.length c3] #[.bool (decide (Z7 < 0)), .slice A7 E7.length c7] (0, 0) (0, 0) _ rfl rfl B89.h B9.h Tryd.underlying26 rfl Hsz.out Hsz.out) rfl ?_
                        exact ⟨_, rfl, ⟨_, _, rfl, ⟨.slice A3 E3.length c3, by rw [HZQ.out.1], by rw [HZQ.out.1, ← HE3.out]; exact o3.lower hbw.size⟩, ⟨.slice A7 E7.length c7, by rw [HZQ.out.2], by rw [HZQ.out.2, ← HE7.out]; exact o7.lower hbw.size⟩⟩, ((bthen hbw hcur).trans (hon.below hg4)).trans (hon2.below hg5)⟩
                      exact AllReadyH.nil
                    exact AllReadyH.nil
                  exact AllReadyH.nil
                exact AllReadyH.nil
              exact AllReadyH.nil
            refine AllReadyH.cons (o := _) rfl (fun K hK => ?_) ?_
            · refine st_lit (v := fun g => .slice (some ⟨g, 0, none⟩) 2 2) 37 rfl (cs := [.bool rb, .slice A5 E5.length c5, .bool n2, .slice A2 m.length c2]) (t := 26) (by go_simp; try rfl) ?_; intro g37 w6 hbn B37 hg37; replace B3 := B3.below hbn; replace B4 := B4.below hbn; replace B5 := B5.below hbn; replace hlq := hlq.below hbn; replace hlr := hlr.below hbn; replace hlb := hlb.below hbn; clear C4 C5; have C4 := B4.cells; have C5 := B5.cells; replace hl1 := hl1.below hbn; replace hcur := bthen hcur hbn
              refine hK.out _ _ B3 (fun hHeld => ?_)
              clear hK K hHeld
              (try simp only [Act.put, List.setIfInBounds_toArray, List.set_cons_zero, List.set_cons_succ])
              refine wpAnyH_ready (rs := [2]) (by kernel_rfl) (by simp) ?_
              refine AllReadyH.cons (o := _) rfl (fun K hK => ?_) ?_
              · refine st_lit (v := fun g => .slice (some ⟨g, 0, none⟩) 2 2) 33 rfl (cs := [.bool qb, .slice A4 E4.length c4, .bool (decide ((-1 : Int) < 0)), .slice A1 E1.length c1]) (t := 26) (by go_simp; try rfl) ?_; intro g33 w6 hbn B33 hg33; replace B3 := B3.below hbn; replace B4 := B4.below hbn; replace B5 := B5.below hbn; replace hlq := hlq.below hbn; replace hlr := hlr.below hbn; replace hlb := hlb.below hbn; clear C4 C5; have C4 := B4.cells; have C5 := B5.cells; replace hl1 := hl1.below hbn; replace B37 := B37.below hbn; replace hcur := bthen hcur hbn
                refine hK.out _ _ B3 (fun hHeld => ?_)
                clear hK K hHeld
                (try simp only [Act.put, List.setIfInBounds_toArray, List.set_cons_zero, List.set_cons_succ])
                refine wpAnyH_ready (rs := [3]) (by kernel_rfl) (by simp) ?_
                refine AllReadyH.cons (o := _) rfl (fun K hK => ?_) ?_
                · go_simp; refine (numAddAll_any [⟨qb, A4, c4, E4⟩, ⟨decide ((-1 : Int) < 0), A1, c1, E1⟩] 2 rfl _ 2 w6 (B33.rd (l := [⟨qb, A4, c4, E4⟩, ⟨decide ((-1 : Int) < 0), A1, c1, E1⟩]) lenN rfl) (Nat.le_refl _) (two_limN hlq hl1) 274877906942 (two_len hE4 (one_len HE1.out)) (by omega) (by omega)).mono ?_; rintro e w6 ⟨v6, rfl, ht3, hbn⟩; rw [HZ3.out A4 c4 E4 A1 c1 E1 HE4.out HE1.out] at ht3; obtain ⟨A3, c3, E3, rfl, o3, HE3, h31⟩ := told_sl ht3; replace o3 := o3.lower hcur.size; clear ht3 hl1 B33; replace B3 := B3.below hbn; replace B4 := B4.below hbn; replace B5 := B5.below hbn; replace hlq := hlq.below hbn; replace hlr := hlr.below hbn; replace hlb := hlb.below hbn; clear C4 C5; have C4 := B4.cells; have C5 := B5.cells; replace B37 := B37.below hbn; replace hcur := bthen hcur hbn; go_wp2_with fail
                  refine hK.out _ _ B3 (fun hHeld => ?_)
                  clear hK K hHeld
                  (try simp only [Act.put, List.setIfInBounds_toArray, List.set_cons_zero, List.set_cons_succ])
                  refine wpAnyH_ready (rs := [7]) (by kernel_rfl) (by simp) ?_
                  refine AllReadyH.cons (o := _) rfl (fun K hK => ?_) ?_
                  · go_simp; refine (numAddAll_any [⟨rb, A5, c5, E5⟩, ⟨n2, A2, c2, m⟩] 2 rfl _ 2 w6 (B37.rd (l := [⟨rb, A5, c5, E5⟩, ⟨n2, A2, c2, m⟩]) lenN rfl) (Nat.le_refl _) (two_limN hlr hlb) 274877906942 (two_len hE5 hml) (by omega) (by omega)).mono ?_; rintro e w6 ⟨v6, rfl, ht7, hbn⟩; rw [HZ7.out A5 c5 E5 HE5.out] at ht7; obtain ⟨A7, c7, E7, rfl, o7, HE7, h71⟩ := told_sl ht7; replace o7 := o7.lower hcur.size; clear ht7 B37; replace B3 := B3.below hbn; replace B4 := B4.below hbn; replace B5 := B5.below hbn; replace hlq := hlq.below hbn; replace hlr := hlr.below hbn; replace hlb := hlb.below hbn; clear C4 C5; have C4 := B4.cells; have C5 := B5.cells; replace o3 := o3.below hbn; replace hcur := bthen hcur hbn; go_wp2_with fail
                    refine hK.out _ _ B3 (fun hHeld => ?_)
                    clear hK K hHeld
                    (try simp only [Act.put, List.setIfInBounds_toArray, List.set_cons_zero, List.set_cons_succ])
                    refine wpAnyH_ready (rs := [8]) (by kernel_rfl) (by simp) ?_
                    refine AllReadyH.cons (o := _) rfl (fun K hK => ?_) ?_
                    · refine st_store rfl rfl B4 (news := [.bool (decide (Z3 < 0)), .slice A3 E3.length c3]) (by rfl) infoNum (by simp) (by simp [Value.oneCell']) ?_; intro w6 hon B8; simp only [List.take_zero, List.nil_append, List.length_cons, List.length_nil, List.drop_succ_cons, List.drop_zero, List.append_nil, List.cons_append] at B8; have B58 := B5.only hon hne54; replace B3 := B3.only hon hne34; replace o3 := ow_only o3 hon hl4 (Nat.le_refl _); replace o7 := ow_only o7 hon hl4 (Nat.le_refl _)
                      refine hK.out _ _ B3 (fun hHeld => ?_)
                      clear hK K hHeld
                      (try simp only [Act.put, List.setIfInBounds_toArray, List.set_cons_zero, List.set_cons_succ])
                      refine wpAnyH_ready (rs := [9]) (by kernel_rfl) (by simp) ?_
                      refine AllReadyH.cons (o := _) rfl (fun K hK => ?_) ?_
                      · refine st_store rfl rfl B58 (news := [.bool (decide (Z7 < 0)), .slice A7 E7.length c7]) (by rfl) infoNum (by simp) (by simp [Value.oneCell']) ?_; intro w7 hon2 B9; simp only [List.take_zero, List.nil_append, List.length_cons, List.length_nil, List.drop_succ_cons, List.drop_zero, List.append_nil, List.cons_append] at B9; have B89 := B8.only hon2 (Ne.symm hne54); replace B3 := B3.only hon2 hne35; replace o3 := ow_only o3 hon2 hl5 (Nat.le_refl _); replace o7 := ow_only o7 hon2 hl5 (Nat.le_refl _)
                        refine hK.out _ _ B3 (fun hHeld => ?_)
                        clear hK K hHeld
                        (try simp only [Act.put, List.setIfInBounds_toArray, List.set_cons_zero, List.set_cons_succ])
                        refine wpAnyH_ready (rs := [10]) (by kernel_rfl) (by simp) ?_
                        refine AllReadyH.cons (o := _) rfl (fun K hK => ?_) AllReadyH.nil
                        go_simp
                        refine hK.out _ _ B3 (fun hHeld => ?_)
                        clear hK K hHeld
                        (try simp only [Act.put, List.setIfInBounds_toArray, List.set_cons_zero, List.set_cons_succ])
                        refine wpAnyH_done (by kernel_rfl) ?_ _
                        refine NoPanic.normal ?_
                        obtain ⟨rfl⟩ := hQ7
                        (go_wp2_with fail)
                        refine bodyPost_ret (results_cct rfl _ _ g4 g5 26 26 #[.bool (decide (Z3 < 0)), .slice A3 E3.length c3] #[.bool (decide (Z7 < 0)), .slice A7 E7.length c7] (0, 0) (0, 0) _ rfl rfl B89.h B9.h Tryd.underlying26 rfl Hsz.out Hsz.out) rfl ?_
                        exact ⟨_, rfl, ⟨_, _, rfl, ⟨.slice A3 E3.length c3, by rw [HZQ.out.1], by rw [HZQ.out.1, ← HE3.out]; exact o3.lower hbw.size⟩, ⟨.slice A7 E7.length c7, by rw [HZQ.out.2], by rw [HZQ.out.2, ← HE7.out]; exact o7.lower hbw.size⟩⟩, ((bthen hbw hcur).trans (hon.below hg4)).trans (hon2.below hg5)⟩
                      exact AllReadyH.nil
                    exact AllReadyH.nil
                  exact AllReadyH.nil
                exact AllReadyH.nil
              exact AllReadyH.nil
            exact AllReadyH.nil
          refine AllReadyH.cons (o := _) rfl (fun K hK => ?_) ?_
          · refine st_lit (v := fun g => .slice (some ⟨g, 0, none⟩) 2 2) 37 rfl (cs := [.bool rb, .slice A5 E5.length c5, .bool n2, .slice A2 m.length c2]) (t := 26) (by go_simp; try rfl) ?_; intro g37 w6 hbn B37 hg37; replace B3 := B3.below hbn; replace B4 := B4.below hbn; replace B5 := B5.below hbn; replace hlq := hlq.below hbn; replace hlr := hlr.below hbn; replace hlb := hlb.below hbn; clear C4 C5; have C4 := B4.cells; have C5 := B5.cells; replace hl1 := hl1.below hbn; replace hcur := bthen hcur hbn
            refine hK.out _ _ B3 (fun hHeld => ?_)
            clear hK K hHeld
            (try simp only [Act.put, List.setIfInBounds_toArray, List.set_cons_zero, List.set_cons_succ])
            refine wpAnyH_ready (rs := [0]) (by kernel_rfl) (by simp) ?_
            refine AllReadyH.cons (o := _) rfl (fun K hK => ?_) ?_
            · go_simp
              refine hK.out _ _ B3 (fun hHeld => ?_)
              clear hK K hHeld
              (try simp only [Act.put, List.setIfInBounds_toArray, List.set_cons_zero, List.set_cons_succ])
              refine wpAnyH_ready (rs := [2]) (by kernel_rfl) (by simp) ?_
              refine AllReadyH.cons (o := _) rfl (fun K hK => ?_) ?_
              · refine st_lit (v := fun g => .slice (some ⟨g, 0, none⟩) 2 2) 33 rfl (cs := [.bool qb, .slice A4 E4.length c4, .bool (decide ((-1 : Int) < 0)), .slice A1 E1.length c1]) (t := 26) (by go_simp; try rfl) ?_; intro g33 w6 hbn B33 hg33; replace B3 := B3.below hbn; replace B4 := B4.below hbn; replace B5 := B5.below hbn; replace hlq := hlq.below hbn; replace hlr := hlr.below hbn; replace hlb := hlb.below hbn; clear C4 C5; have C4 := B4.cells; have C5 := B5.cells; replace hl1 := hl1.below hbn; replace B37 := B37.below hbn; replace hcur := bthen hcur hbn
                refine hK.out _ _ B3 (fun hHeld => ?_)
                clear hK K hHeld
                (try simp only [Act.put, List.setIfInBounds_toArray, List.set_cons_zero, List.set_cons_succ])
                refine wpAnyH_ready (rs := [3]) (by kernel_rfl) (by simp) ?_
                refine AllReadyH.cons (o := _) rfl (fun K hK => ?_) ?_
                · go_simp; refine (numAddAll_any [⟨qb, A4, c4, E4⟩, ⟨decide ((-1 : Int) < 0), A1, c1, E1⟩] 2 rfl _ 2 w6 (B33.rd (l := [⟨qb, A4, c4, E4⟩, ⟨decide ((-1 : Int) < 0), A1, c1, E1⟩]) lenN rfl) (Nat.le_refl _) (two_limN hlq hl1) 274877906942 (two_len hE4 (one_len HE1.out)) (by omega) (by omega)).mono ?_; rintro e w6 ⟨v6, rfl, ht3, hbn⟩; rw [HZ3.out A4 c4 E4 A1 c1 E1 HE4.out HE1.out] at ht3; obtain ⟨A3, c3, E3, rfl, o3, HE3, h31⟩ := told_sl ht3; replace o3 := o3.lower hcur.size; clear ht3 hl1 B33; replace B3 := B3.below hbn; replace B4 := B4.below hbn; replace B5 := B5.below hbn; replace hlq := hlq.below hbn; replace hlr := hlr.below hbn; replace hlb := hlb.below hbn; clear C4 C5; have C4 := B4.cells; have C5 := B5.cells; replace B37 := B37.below hbn; replace hcur := bthen hcur hbn; go_wp2_with fail
                  refine hK.out _ _ B3 (fun hHeld => ?_)
                  clear hK K hHeld
                  (try simp only [Act.put, List.setIfInBounds_toArray, List.set_cons_zero, List.set_cons_succ])
                  refine wpAnyH_ready (rs := [7]) (by kernel_rfl) (by simp) ?_
                  refine AllReadyH.cons (o := _) rfl (fun K hK => ?_) ?_
                  · go_simp; refine (numAddAll_any [⟨rb, A5, c5, E5⟩, ⟨n2, A2, c2, m⟩] 2 rfl _ 2 w6 (B37.rd (l := [⟨rb, A5, c5, E5⟩, ⟨n2, A2, c2, m⟩]) lenN rfl) (Nat.le_refl _) (two_limN hlr hlb) 274877906942 (two_len hE5 hml) (by omega) (by omega)).mono ?_; rintro e w6 ⟨v6, rfl, ht7, hbn⟩; rw [HZ7.out A5 c5 E5 HE5.out] at ht7; obtain ⟨A7, c7, E7, rfl, o7, HE7, h71⟩ := told_sl ht7; replace o7 := o7.lower hcur.size; clear ht7 B37; replace B3 := B3.below hbn; replace B4 := B4.below hbn; replace B5 := B5.below hbn; replace hlq := hlq.below hbn; replace hlr := hlr.below hbn; replace hlb := hlb.below hbn; clear C4 C5; have C4 := B4.cells; have C5 := B5.cells; replace o3 := o3.below hbn; replace hcur := bthen hcur hbn; go_wp2_with fail
                    refine hK.out _ _ B3 (fun hHeld => ?_)
                    clear hK K hHeld
                    (try simp only [Act.put, List.setIfInBounds_toArray, List.set_cons_zero, List.set_cons_succ])
                    refine wpAnyH_ready (rs := [8]) (by kernel_rfl) (by simp) ?_
                    refine AllReadyH.cons (o := _) rfl (fun K hK => ?_) ?_
                    · refine st_store rfl rfl B4 (news := [.bool (decide (Z3 < 0)), .slice A3 E3.length c3]) (by rfl) infoNum (by simp) (by simp [Value.oneCell']) ?_; intro w6 hon B8; simp only [List.take_zero, List.nil_append, List.length_cons, List.length_nil, List.drop_succ_cons, List.drop_zero, List.append_nil, List.cons_append] at B8; have B58 := B5.only hon hne54; replace B3 := B3.only hon hne34; replace o3 := ow_only o3 hon hl4 (Nat.le_refl _); replace o7 := ow_only o7 hon hl4 (Nat.le_refl _)
                      refine hK.out _ _ B3 (fun hHeld => ?_)
                      clear hK K hHeld
                      (try simp only [Act.put, List.setIfInBounds_toArray, List.set_cons_zero, List.set_cons_succ])
                      refine wpAnyH_ready (rs := [9]) (by kernel_rfl) (by simp) ?_
                      refine AllReadyH.cons (o := _) rfl (fun K hK => ?_) ?_
                      · refine st_store rfl rfl B58 (news := [.bool (decide (Z7 < 0)), .slice A7 E7.length c7]) (by rfl) infoNum (by simp) (by simp [Value.oneCell']) ?_; intro w7 hon2 B9; simp only [List.take_zero, List.nil_append, List.length_cons, List.length_nil, List.drop_succ_cons, List.drop_zero, List.append_nil, List.cons_append] at B9; have B89 := B8.only hon2 (Ne.symm hne54); replace B3 := B3.only hon2 hne35; replace o3 := ow_only o3 hon2 hl5 (Nat.le_refl _); replace o7 := ow_only o7 hon2 hl5 (Nat.le_refl _)
                        refine hK.out _ _ B3 (fun hHeld => ?_)
                        clear hK K hHeld
                        (try simp only [Act.put, List.setIfInBounds_toArray, List.set_cons_zero, List.set_cons_succ])
                        refine wpAnyH_ready (rs := [10]) (by kernel_rfl) (by simp) ?_
                        refine AllReadyH.cons (o := _) rfl (fun K hK => ?_) AllReadyH.nil
                        go_simp
                        refine hK.out _ _ B3 (fun hHeld => ?_)
                        clear hK K hHeld
                        (try simp only [Act.put, List.setIfInBounds_toArray, List.set_cons_zero, List.set_cons_succ])
                        refine wpAnyH_done (by kernel_rfl) ?_ _
                        refine NoPanic.normal ?_
                        obtain ⟨rfl⟩ := hQ7
                        (go_wp2_with fail)
                        refine bodyPost_ret (results_cct rfl _ _ g4 g5 26 26 #[.bool (decide (Z3 < 0)), .slice A3 E3.length c3] #[.bool (decide (Z7 < 0)), .slice A7 E7.length c7] (0, 0) (0, 0) _ rfl rfl B89.h B9.h Tryd.underlying26 rfl Hsz.out Hsz.out) rfl ?_
                        exact ⟨_, rfl, ⟨_, _, rfl, ⟨.slice A3 E3.length c3, by rw [HZQ.out.1], by rw [HZQ.out.1, ← HE3.out]; exact o3.lower hbw.size⟩, ⟨.slice A7 E7.length c7, by rw [HZQ.out.2], by rw [HZQ.out.2, ← HE7.out]; exact o7.lower hbw.size⟩⟩, ((bthen hbw hcur).trans (hon.below hg4)).trans (hon2.below hg5)⟩
                      exact AllReadyH.nil
                    exact AllReadyH.nil
                  exact AllReadyH.nil
                exact AllReadyH.nil
              exact AllReadyH.nil
            exact AllReadyH.nil
          exact AllReadyH.nil
        refine AllReadyH.cons (o := _) rfl (fun K hK => ?_) ?_
        · refine st_lit (v := fun g => .slice (some ⟨g, 0, none⟩) 2 2) 37 rfl (cs := [.bool rb, .slice A5 E5.length c5, .bool n2, .slice A2 m.length c2]) (t := 26) (by go_simp; try rfl) ?_; intro g37 w6 hbn B37 hg37; replace B3 := B3.below hbn; replace B4 := B4.below hbn; replace B5 := B5.below hbn; replace hlq := hlq.below hbn; replace hlr := hlr.below hbn; replace hlb := hlb.below hbn; clear C4 C5; have C4 := B4.cells; have C5 := B5.cells; replace hcur := bthen hcur hbn
          refine hK.out _ _ B3 (fun hHeld => ?_)
          clear hK K hHeld
          (try simp only [Act.put, List.setIfInBounds_toArray, List.set_cons_zero, List.set_cons_succ])
          refine wpAnyH_ready (rs := [0, 1]) (by kernel_rfl) (by simp) ?_
          refine AllReadyH.cons (o := _) rfl (fun K hK => ?_) ?_
          · go_simp
            refine hK.out _ _ B3 (fun hHeld => ?_)
            clear hK K hHeld
            (try simp only [Act.put, List.setIfInBounds_toArray, List.set_cons_zero, List.set_cons_succ])
            refine wpAnyH_ready (rs := [1]) (by kernel_rfl) (by simp) ?_
            refine AllReadyH.cons (o := _) rfl (fun K hK => ?_) ?_
            · go_simp; refine (numInt_any (-1) _ (by omega) (by omega)).mono ?_; rintro e w6 ⟨v6, rfl, ht1, hbn⟩; obtain ⟨A1, c1, E1, rfl, o1, HE1, h11⟩ := told_sl ht1; clear ht1; have hl1 : Lim w6 A1 c1 E1 := lim_one o1 HE1.out h11; clear o1; replace B3 := B3.below hbn; replace B4 := B4.below hbn; replace B5 := B5.below hbn; replace hlq := hlq.below hbn; replace hlr := hlr.below hbn; replace hlb := hlb.below hbn; clear C4 C5; have C4 := B4.cells; have C5 := B5.cells; replace B37 := B37.below hbn; replace hcur := bthen hcur hbn; go_wp2_with fail
              refine hK.out _ _ B3 (fun hHeld => ?_)
              clear hK K hHeld
              (try simp only [Act.put, List.setIfInBounds_toArray, List.set_cons_zero, List.set_cons_succ])
              refine wpAnyH_ready (rs := [2]) (by kernel_rfl) (by simp) ?_
              refine AllReadyH.cons (o := _) rfl (fun K hK => ?_) ?_
              · refine st_lit (v := fun g => .slice (some ⟨g, 0, none⟩) 2 2) 33 rfl (cs := [.bool qb, .slice A4 E4.length c4, .bool (decide ((-1 : Int) < 0)), .slice A1 E1.length c1]) (t := 26) (by go_simp; try rfl) ?_; intro g33 w6 hbn B33 hg33; replace B3 := B3.below hbn; replace B4 := B4.below hbn; replace B5 := B5.below hbn; replace hlq := hlq.below hbn; replace hlr := hlr.below hbn; replace hlb := hlb.below hbn; clear C4 C5; have C4 := B4.cells; have C5 := B5.cells; replace hl1 := hl1.below hbn; replace B37 := B37.below hbn; replace hcur := bthen hcur hbn
                refine hK.out _ _ B3 (fun hHeld => ?_)
                clear hK K hHeld
                (try simp only [Act.put, List.setIfInBounds_toArray, List.set_cons_zero, List.set_cons_succ])
                refine wpAnyH_ready (rs := [3]) (by kernel_rfl) (by simp) ?_
                refine AllReadyH.cons (o := _) rfl (fun K hK => ?_) ?_
                · go_simp; refine (numAddAll_any [⟨qb, A4, c4, E4⟩, ⟨decide ((-1 : Int) < 0), A1, c1, E1⟩] 2 rfl _ 2 w6 (B33.rd (l := [⟨qb, A4, c4, E4⟩, ⟨decide ((-1 : Int) < 0), A1, c1, E1⟩]) lenN rfl) (Nat.le_refl _) (two_limN hlq hl1) 274877906942 (two_len hE4 (one_len HE1.out)) (by omega) (by omega)).mono ?_; rintro e w6 ⟨v6, rfl, ht3, hbn⟩; rw [HZ3.out A4 c4 E4 A1 c1 E1 HE4.out HE1.out] at ht3; obtain ⟨A3, c3, E3, rfl, o3, HE3, h31⟩ := told_sl ht3; replace o3 := o3.lower hcur.size; clear ht3 hl1 B33; replace B3 := B3.below hbn; replace B4 := B4.below hbn; replace B5 := B5.below hbn; replace hlq := hlq.below hbn; replace hlr := hlr.below hbn; replace hlb := hlb.below hbn; clear C4 C5; have C4 := B4.cells; have C5 := B5.cells; replace B37 := B37.below hbn; replace hcur := bthen hcur hbn; go_wp2_with fail
                  refine hK.out _ _ B3 (fun hHeld => ?_)
                  clear hK K hHeld
                  (try simp only [Act.put, List.setIfInBounds_toArray, List.set_cons_zero, List.set_cons_succ])
                  refine wpAnyH_ready (rs := [7]) (by kernel_rfl) (by simp) ?_
                  refine AllReadyH.cons (o := _) rfl (fun K hK => ?_) ?_
                  · go_simp; refine (numAddAll_any [⟨rb, A5, c5, E5⟩, ⟨n2, A2, c2, m⟩] 2 rfl _ 2 w6 (B37.rd (l := [⟨rb, A5, c5, E5⟩, ⟨n2, A2, c2, m⟩]) lenN rfl) (Nat.le_refl _) (two_limN hlr hlb) 274877906942 (two_len hE5 hml) (by omega) (by omega)).mono ?_; rintro e w6 ⟨v6, rfl, ht7, hbn⟩; rw [HZ7.out A5 c5 E5 HE5.out] at ht7; obtain ⟨A7, c7, E7, rfl, o7, HE7, h71⟩ := told_sl ht7; replace o7 := o7.lower hcur.size; clear ht7 B37; replace B3 := B3.below hbn; replace B4 := B4.below hbn; replace B5 := B5.below hbn; replace hlq := hlq.below hbn; replace hlr := hlr.below hbn; replace hlb := hlb.below hbn; clear C4 C5; have C4 := B4.cells; have C5 := B5.cells; replace o3 := o3.below hbn; replace hcur := bthen hcur hbn; go_wp2_with fail
                    refine hK.out _ _ B3 (fun hHeld => ?_)
                    clear hK K hHeld
                    (try simp only [Act.put, List.setIfInBounds_toArray, List.set_cons_zero, List.set_cons_succ])
                    refine wpAnyH_ready (rs := [8]) (by kernel_rfl) (by simp) ?_
                    refine AllReadyH.cons (o := _) rfl (fun K hK => ?_) ?_
                    · refine st_store rfl rfl B4 (news := [.bool (decide (Z3 < 0)), .slice A3 E3.length c3]) (by rfl) infoNum (by simp) (by simp [Value.oneCell']) ?_; intro w6 hon B8; simp only [List.take_zero, List.nil_append, List.length_cons, List.length_nil, List.drop_succ_cons, List.drop_zero, List.append_nil, List.cons_append] at B8; have B58 := B5.only hon hne54; replace B3 := B3.only hon hne34; replace o3 := ow_only o3 hon hl4 (Nat.le_refl _); replace o7 := ow_only o7 hon hl4 (Nat.le_refl _)
                      refine hK.out _ _ B3 (fun hHeld => ?_)
                      clear hK K hHeld
                      (try simp only [Act.put, List.setIfInBounds_toArray, List.set_cons_zero, List.set_cons_succ])
                      refine wpAnyH_ready (rs := [9]) (by kernel_rfl) (by simp) ?_
                      refine AllReadyH.cons (o := _) rfl (fun K hK => ?_) ?_
                      · refine st_store rfl rfl B58 (news := [.bool (decide (Z7 < 0)), .slice A7 E7.length c7]) (by rfl) infoNum (by simp) (by simp [Value.oneCell']) ?_; intro w7 hon2 B9; simp only [List.take_zero, List.nil_append, List.length_cons, List.length_nil, List.drop_succ_cons, List.drop_zero, List.append_nil, List.cons_append] at B9; have B89 := B8.only hon2 (Ne.symm hne54); replace B3 := B3.only hon2 hne35; replace o3 := ow_only o3 hon2 hl5 (Nat.le_refl _); replace o7 := ow_only o7 hon2 hl5 (Nat.le_refl _)
                        refine hK.out _ _ B3 (fun hHeld => ?_)
                        clear hK K hHeld
                        (try simp only [Act.put, List.setIfInBounds_toArray, List.set_cons_zero, List.set_cons_succ])
                        refine wpAnyH_ready (rs := [10]) (by kernel_rfl) (by simp) ?_
                        refine AllReadyH.cons (o := _) rfl (fun K hK => ?_) AllReadyH.nil
                        go_simp
                        refine hK.out _ _ B3 (fun hHeld => ?_)
                        clear hK K hHeld
                        (try simp only [Act.put, List.setIfInBounds_toArray, List.set_cons_zero, List.set_cons_succ])
                        refine wpAnyH_done (by kernel_rfl) ?_ _
                        refine NoPanic.normal ?_
                        obtain ⟨rfl⟩ := hQ7
                        (go_wp2_with fail)
                        refine bodyPost_ret (results_cct rfl _ _ g4 g5 26 26 #[.bool (decide (Z3 < 0)), .slice A3 E3.length c3] #[.bool (decide (Z7 < 0)), .slice A7 E7.length c7] (0, 0) (0, 0) _ rfl rfl B89.h B9.h Tryd.underlying26 rfl Hsz.out Hsz.out) rfl ?_
                        exact ⟨_, rfl, ⟨_, _, rfl, ⟨.slice A3 E3.length c3, by rw [HZQ.out.1], by rw [HZQ.out.1, ← HE3.out]; exact o3.lower hbw.size⟩, ⟨.slice A7 E7.length c7, by rw [HZQ.out.2], by rw [HZQ.out.2, ← HE7.out]; exact o7.lower hbw.size⟩⟩, ((bthen hbw hcur).trans (hon.below hg4)).trans (hon2.below hg5)⟩
                      exact AllReadyH.nil
                    exact AllReadyH.nil
                  exact AllReadyH.nil
                exact AllReadyH.nil
              exact AllReadyH.nil
            exact AllReadyH.nil
          refine AllReadyH.cons (o := _) rfl (fun K hK => ?_) ?_
          · go_simp; refine (numInt_any (-1) _ (by omega) (by omega)).mono ?_; rintro e w6 ⟨v6, rfl, ht1, hbn⟩; obtain ⟨A1, c1, E1, rfl, o1, HE1, h11⟩ := told_sl ht1; clear ht1; have hl1 : Lim w6 A1 c1 E1 := lim_one o1 HE1.out h11; clear o1; replace B3 := B3.below hbn; replace B4 := B4.below hbn; replace B5 := B5.below hbn; replace hlq := hlq.below hbn; replace hlr := hlr.below hbn; replace hlb := hlb.below hbn; clear C4 C5; have C4 := B4.cells; have C5 := B5.cells; replace B37 := B37.below hbn; replace hcur := bthen hcur hbn; go_wp2_with fail
            refine hK.out _ _ B3 (fun hHeld => ?_)
            clear hK K hHeld
            (try simp only [Act.put, List.setIfInBounds_toArray, List.set_cons_zero, List.set_cons_succ])
            refine wpAnyH_ready (rs := [0]) (by kernel_rfl) (by simp) ?_
            refine AllReadyH.cons (o := _) rfl (fun K hK => ?_) ?_
            · go_simp
              refine hK.out _ _ B3 (fun hHeld => ?_)
              clear hK K hHeld
              (try simp only [Act.put, List.setIfInBounds_toArray, List.set_cons_zero, List.set_cons_succ])
              refine wpAnyH_ready (rs := [2]) (by kernel_rfl) (by simp) ?_
              refine AllReadyH.cons (o := _) rfl (fun K hK => ?_) ?_
              · refine st_lit (v := fun g => .slice (some ⟨g, 0, none⟩) 2 2) 33 rfl (cs := [.bool qb, .slice A4 E4.length c4, .bool (decide ((-1 : Int) < 0)), .slice A1 E1.length c1]) (t := 26) (by go_simp; try rfl) ?_; intro g33 w6 hbn B33 hg33; replace B3 := B3.below hbn; replace B4 := B4.below hbn; replace B5 := B5.below hbn; replace hlq := hlq.below hbn; replace hlr := hlr.below hbn; replace hlb := hlb.below hbn; clear C4 C5; have C4 := B4.cells; have C5 := B5.cells; replace hl1 := hl1.below hbn; replace B37 := B37.below hbn; replace hcur := bthen hcur hbn
                refine hK.out _ _ B3 (fun hHeld => ?_)
                clear hK K hHeld
                (try simp only [Act.put, List.setIfInBounds_toArray, List.set_cons_zero, List.set_cons_succ])
                refine wpAnyH_ready (rs := [3]) (by kernel_rfl) (by simp) ?_
                refine AllReadyH.cons (o := _) rfl (fun K hK => ?_) ?_
                · go_simp; refine (numAddAll_any [⟨qb, A4, c4, E4⟩, ⟨decide ((-1 : Int) < 0), A1, c1, E1⟩] 2 rfl _ 2 w6 (B33.rd (l := [⟨qb, A4, c4, E4⟩, ⟨decide ((-1 : Int) < 0), A1, c1, E1⟩]) lenN rfl) (Nat.le_refl _) (two_limN hlq hl1) 274877906942 (two_len hE4 (one_len HE1.out)) (by omega) (by omega)).mono ?_; rintro e w6 ⟨v6, rfl, ht3, hbn⟩; rw [HZ3.out A4 c4 E4 A1 c1 E1 HE4.out HE1.out] at ht3; obtain ⟨A3, c3, E3, rfl, o3, HE3, h31⟩ := told_sl ht3; replace o3 := o3.lower hcur.size; clear ht3 hl1 B33; replace B3 := B3.below hbn; replace B4 := B4.below hbn; replace B5 := B5.below hbn; replace hlq := hlq.below hbn; replace hlr := hlr.below hbn; replace hlb := hlb.below hbn; clear C4 C5; have C4 := B4.cells; have C5 := B5.cells; replace B37 := B37.below hbn; replace hcur := bthen hcur hbn; go_wp2_with fail
                  refine hK.out _ _ B3 (fun hHeld => ?_)
                  clear hK K hHeld
                  (try simp only [Act.put, List.setIfInBounds_toArray, List.set_cons_zero, List.set_cons_succ])
                  refine wpAnyH_ready (rs := [7]) (by kernel_rfl) (by simp) ?_
                  refine AllReadyH.cons (o := _) rfl (fun K hK => ?_) ?_
                  · go_simp; refine (numAddAll_any [⟨rb, A5, c5, E5⟩, ⟨n2, A2, c2, m⟩] 2 rfl _ 2 w6 (B37.rd (l := [⟨rb, A5, c5, E5⟩, ⟨n2, A2, c2, m⟩]) lenN rfl) (Nat.le_refl _) (two_limN hlr hlb) 274877906942 (two_len hE5 hml) (by omega) (by omega)).mono ?_; rintro e w6 ⟨v6, rfl, ht7, hbn⟩; rw [HZ7.out A5 c5 E5 HE5.out] at ht7; obtain ⟨A7, c7, E7, rfl, o7, HE7, h71⟩ := told_sl ht7; replace o7 := o7.lower hcur.size; clear ht7 B37; replace B3 := B3.below hbn; replace B4 := B4.below hbn; replace B5 := B5.below hbn; replace hlq := hlq.below hbn; replace hlr := hlr.below hbn; replace hlb := hlb.below hbn; clear C4 C5; have C4 := B4.cells; have C5 := B5.cells; replace o3 := o3.below hbn; replace hcur := bthen hcur hbn; go_wp2_with fail
                    refine hK.out _ _ B3 (fun hHeld => ?_)
                    clear hK K hHeld
                    (try simp only [Act.put, List.setIfInBounds_toArray, List.set_cons_zero, List.set_cons_succ])
                    refine wpAnyH_ready (rs := [8]) (by kernel_rfl) (by simp) ?_
                    refine AllReadyH.cons (o := _) rfl (fun K hK => ?_) ?_
                    · refine st_store rfl rfl B4 (news := [.bool (decide (Z3 < 0)), .slice A3 E3.length c3]) (by rfl) infoNum (by simp) (by simp [Value.oneCell']) ?_; intro w6 hon B8; simp only [List.take_zero, List.nil_append, List.length_cons, List.length_nil, List.drop_succ_cons, List.drop_zero, List.append_nil, List.cons_append] at B8; have B58 := B5.only hon hne54; replace B3 := B3.only hon hne34; replace o3 := ow_only o3 hon hl4 (Nat.le_refl _); replace o7 := ow_only o7 hon hl4 (Nat.le_refl _)
                      refine hK.out _ _ B3 (fun hHeld => ?_)
                      clear hK K hHeld
                      (try simp only [Act.put, List.setIfInBounds_toArray, List.set_cons_zero, List.set_cons_succ])
                      refine wpAnyH_ready (rs := [9]) (by kernel_rfl) (by simp) ?_
                      refine AllReadyH.cons (o := _) rfl (fun K hK => ?_) ?_
                      · refine st_store rfl rfl B58 (news := [.bool (decide (Z7 < 0)), .slice A7 E7.length c7]) (by rfl) infoNum (by simp) (by simp [Value.oneCell']) ?_; intro w7 hon2 B9; simp only [List.take_zero, List.nil_append, List.length_cons, List.length_nil, List.drop_succ_cons, List.drop_zero, List.append_nil, List.cons_append] at B9; have B89 := B8.only hon2 (Ne.symm hne54); replace B3 := B3.only hon2 hne35; replace o3 := ow_only o3 hon2 hl5 (Nat.le_refl _); replace o7 := ow_only o7 hon2 hl5 (Nat.le_refl _)
                        refine hK.out _ _ B3 (fun hHeld => ?_)
                        clear hK K hHeld
                        (try simp only [Act.put, List.setIfInBounds_toArray, List.set_cons_zero, List.set_cons_succ])
                        refine wpAnyH_ready (rs := [10]) (by kernel_rfl) (by simp) ?_
                        refine AllReadyH.cons (o := _) rfl (fun K hK => ?_) AllReadyH.nil
                        go_simp
                        refine hK.out _ _ B3 (fun hHeld => ?_)
                        clear hK K hHeld
                        (try simp only [Act.put, List.setIfInBounds_toArray, List.set_cons_zero, List.set_cons_succ])
                        refine wpAnyH_done (by kernel_rfl) ?_ _
                        refine NoPanic.normal ?_
                        obtain ⟨rfl⟩ := hQ7
                        (go_wp2_with fail)
                        refine bodyPost_ret (results_cct rfl _ _ g4 g5 26 26 #[.bool (decide (Z3 < 0)), .slice A3 E3.length c3] #[.bool (decide (Z7 < 0)), .slice A7 E7.length c7] (0, 0) (0, 0) _ rfl rfl B89.h B9.h Tryd.underlying26 rfl Hsz.out Hsz.out) rfl ?_
                        exact ⟨_, rfl, ⟨_, _, rfl, ⟨.slice A3 E3.length c3, by rw [HZQ.out.1], by rw [HZQ.out.1, ← HE3.out]; exact o3.lower hbw.size⟩, ⟨.slice A7 E7.length c7, by rw [HZQ.out.2], by rw [HZQ.out.2, ← HE7.out]; exact o7.lower hbw.size⟩⟩, ((bthen hbw hcur).trans (hon.below hg4)).trans (hon2.below hg5)⟩
                      exact AllReadyH.nil
                    exact AllReadyH.nil
                  exact AllReadyH.nil
                exact AllReadyH.nil
              exact AllReadyH.nil
            exact AllReadyH.nil
          exact AllReadyH.nil
        exact AllReadyH.nil
      exact AllReadyH.nil
end Go.Proofs.YtigoofeodbbbhaaDoor
