/- tandemref02: Of, Canon, Text. -/
import Derived.Test.YtigoofeodbbbhaaDoorNum1
namespace Go.Proofs.YtigoofeodbbbhaaDoor
open Go.RowKit Go.Proofs.YtigoofeodbbbhaaDoorL Go.Proofs.YtigoofeodbbbhaaDoorM
set_option linter.unusedVariables false
set_option linter.unusedSimpArgs false
theorem infoNum : (Tryd.prog.info? 26).map (fun i => (i.zero, i.size, i.bytes)) = some (some (.agg #[.bool false, .slice none 0 0]), 2, 32) := by kernel_rfl
theorem ow_only {α : Type} {enc : α → List Value} {sz : Nat} {e : TypeId} {base base2 g : Nat} {w w1 : World} {v : Value} {l : List α} (f : Ow enc sz e base2 w v l) (h : Only g w w1) (hg : g < base2) (hb : base ≤ base2) : Ow enc sz e base w1 v l :=
  Ow.lower ⟨f.own.kept (row := some g) ⟨h.os, h.tape, h.output, Nat.le_of_eq h.size.symm, fun k _ hk => h.block k (fun e => hk (by rw [e]))⟩ (by
    cases hv : v.ownBlock with
    | none => exact .inl rfl
    | some k =>
      refine .inr (fun e => ?_)
      have h1 := (f.own.lt k hv).1
      simp only [Option.some.injEq] at e
      omega)⟩ hb
set_option maxHeartbeats 400000 in
theorem of_any (l : List Nat) (neg : Bool) (A : Option Addr) (c : Nat) (w : World) (h : Lim w A c l) :
    Calls Tryd.prog 54 #[.bool neg, .slice A l.length c] w (Gives w fun v w' => ∃ m, v = .agg #[.bool (neg && decide (0 < valB 4294967296 l)), m] ∧ Ow encU 1 62 w.heap.size w' m (digB 4294967296 (valB 4294967296 l))) := by
  have hadd := fun w g (h : Lim w A c l) (hr : Rd encS 1 w (some ⟨g, 0, none⟩) [⟨A, c, l⟩]) => rAdd_any [⟨A, c, l⟩] 1 rfl (some ⟨g, 0, none⟩) 1 w hr (fun s hs => by
    simp only [List.mem_singleton] at hs
    subst hs
    exact ⟨h.rd, h.lt, h.cap, h.max, h.none⟩) (by omega) (by omega)
  simp only [List.map_cons, List.map_nil, sumV, Nat.add_zero] at hadd
  obtain ⟨V, hV⟩ : ∃ V, V = valB 4294967296 l := ⟨_, rfl⟩
  simp only [← hV] at hadd ⊢
  obtain ⟨L, hL⟩ : ∃ L, L = digB 4294967296 V := ⟨_, rfl⟩
  simp only [← hL] at hadd ⊢
  have hp : As (decide (0 < L.length) = decide (0 < V)) := ⟨by
    rw [Bool.eq_iff_iff, decide_eq_true_iff, decide_eq_true_iff]
    have e1 := digB_eq_nil 4294967296 V (by omega)
    rw [← hL, ← List.length_eq_zero_iff] at e1
    omega⟩
  have HA := As.mk hadd
  clear hadd hV hL
  cases neg with
  | true =>
    go_enter Tryd.func54, Tryd.ntmps54
    go_wp2_with (first
      | ((with_reducible refine g_dst 4 ?_); go_must (refine ev_alloc 4 rfl infoNum (cs := [.bool false, .slice none 0 0]) rfl ?_); intro g w1 hb1 B1 hg1)
      | ((with_reducible refine g_dst 7 ?_); go_must (refine ev_lit (v := fun g => .slice (some ⟨g, 0, none⟩) 1 1) 7 rfl (cs := [valS ⟨A, c, l⟩]) (t := 24) (by go_simp; rfl) ?_); intro g2 w2 hb2 B2 hg2; have hgl := B1.lt; replace B1 := B1.below hb2; have hgl2 := Nat.lt_of_lt_of_le hgl hb2.size; replace hb2 := bthen hb1 hb2)
      | (go_at_call 71; (with_reducible refine (HA.out _ _ (h.below hb2) (B2.rdm (l := [⟨A, c, l⟩]) encS_one)).mono ?_); rintro e w3 ⟨v3, rfl, ho3, hb3⟩; replace B1 := B1.below hb3; replace hb3 := bthen hb2 hb3; obtain ⟨A3, c3, rfl, h31, h32⟩ := ho3.form)
      | ((with_reducible refine g_store 4 ?_); go_must (refine ev_store rfl rfl B1 (news := [.bool (decide (0 < L.length)), .slice A3 L.length c3]) (by rfl) infoNum (by simp) (by simp [Value.oneCell']) ?_); intro w4 ho4 B4; simp only [List.take_zero, List.nil_append, List.length_cons, List.length_nil, List.drop_succ_cons, List.drop_zero, List.append_nil, List.cons_append] at B4))
    refine bodyPost_ret (results_cell_row rfl _ _ g 26 #[.bool (decide (0 < L.length)), .slice A3 L.length c3] (0, 0) _ rfl B4.h Tryd.underlying26 rfl (by kernel_rfl)) rfl ?_
    exact ⟨_, rfl, ⟨_, by rw [hp.out, Bool.true_and], ow_only ho3 ho4 hgl2 hb2.size⟩, hb3.trans (ho4.below hg1)⟩
  | false =>
    go_enter Tryd.func54, Tryd.ntmps54
    go_wp2_with (first
      | ((with_reducible refine g_dst 4 ?_); go_must (refine ev_alloc 4 rfl infoNum (cs := [.bool false, .slice none 0 0]) rfl ?_); intro g w1 hb1 B1 hg1)
      | ((with_reducible refine g_dst 7 ?_); go_must (refine ev_lit (v := fun g => .slice (some ⟨g, 0, none⟩) 1 1) 7 rfl (cs := [valS ⟨A, c, l⟩]) (t := 24) (by go_simp; rfl) ?_); intro g2 w2 hb2 B2 hg2; have hgl := B1.lt; replace B1 := B1.below hb2; have hgl2 := Nat.lt_of_lt_of_le hgl hb2.size; replace hb2 := bthen hb1 hb2)
      | (go_at_call 71; (with_reducible refine (HA.out _ _ (h.below hb2) (B2.rdm (l := [⟨A, c, l⟩]) encS_one)).mono ?_); rintro e w3 ⟨v3, rfl, ho3, hb3⟩; replace B1 := B1.below hb3; replace hb3 := bthen hb2 hb3; obtain ⟨A3, c3, rfl, h31, h32⟩ := ho3.form)
      | ((with_reducible refine g_store 4 ?_); go_must (refine ev_store rfl rfl B1 (news := [.bool (false), .slice A3 L.length c3]) (by rfl) infoNum (by simp) (by simp [Value.oneCell']) ?_); intro w4 ho4 B4; simp only [List.take_zero, List.nil_append, List.length_cons, List.length_nil, List.drop_succ_cons, List.drop_zero, List.append_nil, List.cons_append] at B4))
    refine bodyPost_ret (results_cell_row rfl _ _ g 26 #[.bool (false), .slice A3 L.length c3] (0, 0) _ rfl B4.h Tryd.underlying26 rfl (by kernel_rfl)) rfl ?_
    exact ⟨_, rfl, ⟨_, rfl, ow_only ho3 ho4 hgl2 hb2.size⟩, hb3.trans (ho4.below hg1)⟩
set_option maxHeartbeats 400000 in
theorem canon_any (l : List Nat) (neg : Bool) (A : Option Addr) (c : Nat) (w : World) (h : Lim w A c l) :
    Calls Tryd.prog 52 #[.agg #[.bool neg, .slice A l.length c]] w (Gives w fun v w' => ∃ m, v = .agg #[.bool (neg && decide (0 < valB 4294967296 l)), m] ∧ Ow encU 1 62 w.heap.size w' m (digB 4294967296 (valB 4294967296 l))) := by
  have hof := fun w h => of_any l neg A c w h
  obtain ⟨V, hV⟩ : ∃ V, V = valB 4294967296 l := ⟨_, rfl⟩
  simp only [← hV] at hof ⊢
  obtain ⟨L, hL⟩ : ∃ L, L = digB 4294967296 V := ⟨_, rfl⟩
  simp only [← hL] at hof ⊢
  obtain ⟨nb, hnb⟩ : ∃ nb, nb = (neg && decide (0 < V)) := ⟨_, rfl⟩
  simp only [← hnb] at hof ⊢
  have HO := As.mk hof
  clear hof hV hL hnb
  go_enter Tryd.func52, Tryd.ntmps52
  go_wp2_with (first
    | ((with_reducible refine g_dst 1 ?_); go_must (refine ev_box 1 rfl (cs := [.bool neg, .slice A l.length c]) (by rfl) ?_); intro g w1 hb1 B1 hg1; have C1 := B1.cells)
    | ((with_reducible refine g_dst 2 ?_); go_must (refine ev_alloc 2 rfl infoNum (cs := [.bool false, .slice none 0 0]) rfl ?_); intro g2 w2 hb2 B2 hg2; replace B1 := B1.below hb2; clear C1; have C1 := B1.cells; replace hg2 := Nat.le_trans hb1.size hg2; replace hb2 := bthen hb1 hb2)
    | (go_at_call 54; (with_reducible refine (HO.out _ (h.below hb2)).mono ?_); rintro e w3 ⟨v3, rfl, ⟨m, rfl, ho3⟩, hb3⟩; have hgl := B2.lt; replace B2 := B2.below hb3; replace hb3 := bthen hb2 hb3; obtain ⟨A3, c3, rfl, h31, h32⟩ := ho3.form)
    | ((with_reducible refine g_store 2 ?_); go_must (refine ev_store rfl rfl B2 (news := [.bool nb, .slice A3 L.length c3]) (by rfl) infoNum (by simp) (by simp [Value.oneCell']) ?_); intro w4 ho4 B4; simp only [List.take_zero, List.nil_append, List.length_cons, List.length_nil, List.drop_succ_cons, List.drop_zero, List.append_nil, List.cons_append] at B4))
  refine bodyPost_ret (results_cell_row rfl _ _ g2 26 #[.bool nb, .slice A3 L.length c3] (0, 0) _ rfl B4.h Tryd.underlying26 rfl (by kernel_rfl)) rfl ?_
  exact ⟨_, rfl, ⟨_, rfl, ow_only ho3 ho4 hgl hb2.size⟩, hb3.trans (ho4.below hg2)⟩
theorem sB_decL (v : Nat) : sB (decL v) = ⟨(Lib.decDigits v).toArray⟩ := by
  rw [← decL_dec]
  simp [sB, strOfNums]
set_option maxHeartbeats 400000 in
theorem rnumText_any (l : List Nat) (neg : Bool) (A : Option Addr) (c : Nat) (w : World) (h : Lim w A c l) :
    Calls Tryd.prog 44 #[.agg #[.bool neg, .slice A l.length c]] w (Gives w fun v w' => v = .string ⟨(numT neg (valB 4294967296 l)).toArray⟩) := by
  have hcan := fun w h => canon_any l neg A c w h
  have htext := fun (M : List Nat) w A c (hr : Rd encU 1 w A M) (hc : M.length ≤ c) (hM : M = digB 4294967296 (valB 4294967296 l)) (hm : M.length ≤ 274877906944) => rText_any M M.length rfl A c w hr (by rw [hM]; exact digB_lt 4294967296 (by omega) _) hc hm
  have hdl := dec_len l h.lt h.max
  have hLl := trimL_le l
  rw [trimL_dig 4294967296 (by omega) l h.lt] at hLl
  obtain ⟨V, hV⟩ : ∃ V, V = valB 4294967296 l := ⟨_, rfl⟩
  simp only [← hV] at hcan htext hdl hLl ⊢
  obtain ⟨L, hL⟩ : ∃ L, L = digB 4294967296 V := ⟨_, rfl⟩
  obtain ⟨T, hT⟩ : ∃ T, T = Lib.decDigits V := ⟨_, rfl⟩
  have htext := fun w A c hr hc => htext L w A c hr hc hL (by rw [hL]; exact Nat.le_trans hLl h.max)
  rw [show valB 4294967296 L = V by rw [hL]; exact digB_val 4294967296 (by omega) V] at htext
  simp only [← hL] at hcan
  simp only [sB_decL, ← hT] at htext
  rw [← hT] at hdl
  have ha : ∀ w : World, (Op.stringOp .add ⟨#[45]⟩ ⟨T.toArray⟩).run Tryd.prog w = .ok (.string ⟨(45 :: T).toArray⟩) w := fun w => run_add_lists w [45] T (by simp; omega)
  have HX := As.mk htext
  by_cases hc : neg = true ∧ V ≠ 0
  · have hn : As (numT neg V = 45 :: T) := ⟨by rw [numT, if_pos hc, hT]⟩
    have hnb : (neg && decide (0 < V)) = true := by simp; exact ⟨hc.1, by omega⟩
    simp only [hnb] at hcan
    have HC := As.mk hcan
    clear hT hV htext hcan hc hnb hL hLl
    go_enter Tryd.func44, Tryd.ntmps44
    go_wp2_with (first
      | ((with_reducible refine g_dst 1 ?_); go_must (refine ev_box 1 rfl (cs := [.bool neg, .slice A l.length c]) (by rfl) ?_); intro g w1 hb1 B1 hg1; have C1 := B1.cells)
      | (go_at_call 52; (with_reducible refine (HC.out _ (h.below hb1)).mono ?_); rintro e w3 ⟨v3, rfl, ⟨m, rfl, ho3⟩, hb3⟩; have hgl := B1.lt; replace B1 := B1.below hb3; clear C1; replace hb3 := bthen hb1 hb3; obtain ⟨A3, c3, rfl, h31, h32⟩ := ho3.form)
      | ((with_reducible refine g_store 1 ?_); go_must (refine ev_store rfl rfl B1 (news := [.bool true, .slice A3 L.length c3]) (by rfl) infoNum (by simp) (by simp [Value.oneCell']) ?_); intro w4 ho4 B4; simp only [List.take_zero, List.nil_append, List.length_cons, List.length_nil, List.drop_succ_cons, List.drop_zero, List.append_nil, List.cons_append] at B4; have C4 := B4.cells; have hr4 := (ow_only ho3 ho4 hgl (Nat.le_refl _)).rd lenU; have hb4 := hb3.trans (ho4.below hg1))
      | (go_at_call 66; (with_reducible refine (HX.out _ _ _ hr4 h31).mono ?_); rintro e w5 ⟨v5, rfl, rfl, hb5⟩))
    go_ret
    exact ⟨_, rfl, by rw [hn.out]; rfl, bthen hb4 hb5⟩
  · have hn : As (numT neg V = T) := ⟨by rw [numT, if_neg hc, hT]⟩
    have hnb : (neg && decide (0 < V)) = false := by
      rw [Bool.and_eq_false_iff]
      by_cases h0 : neg = true
      · exact .inr (by simp; exact Classical.byContradiction (fun h => hc ⟨h0, h⟩))
      · exact .inl (by simpa using h0)
    simp only [hnb] at hcan
    have HC := As.mk hcan
    clear hT hV htext hcan hc hnb hL hLl
    go_enter Tryd.func44, Tryd.ntmps44
    go_wp2_with (first
      | ((with_reducible refine g_dst 1 ?_); go_must (refine ev_box 1 rfl (cs := [.bool neg, .slice A l.length c]) (by rfl) ?_); intro g w1 hb1 B1 hg1; have C1 := B1.cells)
      | (go_at_call 52; (with_reducible refine (HC.out _ (h.below hb1)).mono ?_); rintro e w3 ⟨v3, rfl, ⟨m, rfl, ho3⟩, hb3⟩; have hgl := B1.lt; replace B1 := B1.below hb3; clear C1; replace hb3 := bthen hb1 hb3; obtain ⟨A3, c3, rfl, h31, h32⟩ := ho3.form)
      | ((with_reducible refine g_store 1 ?_); go_must (refine ev_store rfl rfl B1 (news := [.bool false, .slice A3 L.length c3]) (by rfl) infoNum (by simp) (by simp [Value.oneCell']) ?_); intro w4 ho4 B4; simp only [List.take_zero, List.nil_append, List.length_cons, List.length_nil, List.drop_succ_cons, List.drop_zero, List.append_nil, List.cons_append] at B4; have C4 := B4.cells; have hr4 := (ow_only ho3 ho4 hgl (Nat.le_refl _)).rd lenU; have hb4 := hb3.trans (ho4.below hg1))
      | (go_at_call 66; (with_reducible refine (HX.out _ _ _ hr4 h31).mono ?_); rintro e w5 ⟨v5, rfl, rfl, hb5⟩))
    go_ret
    exact ⟨_, rfl, by rw [hn.out]; rfl, bthen hb4 hb5⟩
end Go.Proofs.YtigoofeodbbbhaaDoor
