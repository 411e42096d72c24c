/- tandemref02: Of, Canon, Int, plus, Neg, as whole numbers. -/
import Derived.Test.YtigoofeodbbbhaaDoorNum4
namespace Go.Proofs.YtigoofeodbbbhaaDoor
open Go.RowKit Go.Proofs.YtigoofeodbbbhaaDoorL Go.Proofs.YtigoofeodbbbhaaDoorM
set_option linter.unusedVariables false
set_option linter.unusedSimpArgs false
theorem ofT_any (l : List Nat) (n : Nat) (hn : l.length = n) (neg : Bool) (A : Option Addr) (c : Nat) (w : World) (h : Lim w A c l) :
    Calls Tryd.prog 54 #[.bool neg, .slice A n c] w (Gives w fun v w' => Told w.heap.size w' v (sval neg (valB 4294967296 l))) := by
  subst hn
  refine (of_any l neg A c w h).mono ?_
  rintro e w1 ⟨v, rfl, ⟨m, rfl, ho⟩, hb⟩
  exact ⟨_, rfl, told_mk ho, hb⟩
theorem canonT_any (l : List Nat) (neg : Bool) (A : Option Addr) (c : Nat) (w : World) (h : Lim w A c l) :
    Calls Tryd.prog 52 #[.agg #[.bool neg, .slice A l.length c]] w (Gives w fun v w' => Told w.heap.size w' v (sval neg (valB 4294967296 l))) := by
  refine (canon_any l neg A c w h).mono ?_
  rintro e w1 ⟨v, rfl, ⟨m, rfl, ho⟩, hb⟩
  exact ⟨_, rfl, told_mk ho, hb⟩
theorem told_one {base : Nat} {w : World} {v : Value} {z : Int} (h : Told base w v z) : ∃ m, v = .agg #[.bool (decide (z < 0)), m] ∧ Ow encU 1 62 base w m (digB 4294967296 z.natAbs) ∧ (∀ u ∈ [Value.bool (decide (z < 0)), m], u.oneCell' = true) := by
  obtain ⟨m, rfl, ho⟩ := h
  refine ⟨m, rfl, ho, ?_⟩
  obtain ⟨A, c, rfl, _⟩ := ho.form
  simp [Value.oneCell']
theorem told_sl {base : Nat} {w : World} {v : Value} {z : Int} (h : Told base w v z) : ∃ A c L, v = .agg #[.bool (decide (z < 0)), .slice A L.length c] ∧ Ow encU 1 62 base w (.slice A L.length c) L ∧ As (L = digB 4294967296 z.natAbs) ∧ L.length ≤ c := by
  obtain ⟨m, rfl, ho⟩ := h
  obtain ⟨A, c, rfl, h1, _⟩ := ho.form
  exact ⟨A, c, _, rfl, ho, ⟨rfl⟩, h1⟩
set_option maxHeartbeats 400000 in
theorem rInt_any (v : Int) (w : World) (h1 : -9223372036854775808 ≤ v) (h2 : v ≤ 9223372036854775807) :
    Calls Tryd.prog 28 #[.int .i64 v] w (Gives w fun r w' => Told w.heap.size w' r v) := by
  obtain ⟨a, ha⟩ : ∃ a, a = v.natAbs := ⟨_, rfl⟩
  have hab : a ≤ 9223372036854775808 := by omega
  have HT := As.mk (fun (w1 : World) (g : Nat) (neg : Bool) (hl : Lim w1 (some ⟨g, 0, none⟩) 2 [a % 4294967296, a / 4294967296]) => ofT_any [a % 4294967296, a / 4294967296] 2 rfl neg _ 2 w1 hl)
  simp only [two_val] at HT
  have Hl := As.mk (fun (w1 : World) (g : Nat) (t : TypeId) (B : Blk w1 g [valU (a % 4294967296), valU (a / 4294967296)] t) => two_lim B hab)
  obtain ⟨lo, hlo⟩ : ∃ lo, lo = a % 4294967296 := ⟨_, rfl⟩
  obtain ⟨hi, hhi⟩ : ∃ hi, hi = a / 4294967296 := ⟨_, rfl⟩
  have e3 : IntKind.u32.wrap (a : Int) = (lo : Int) := by rw [hlo]; simp [IntKind.wrap, IntKind.bits, IntKind.signed]
  have e4 : ((a : Int) / 4294967296) = (hi : Int) := by rw [hhi]; rfl
  have e5 : IntKind.u32.wrap (hi : Int) = (hi : Int) := IntWalk.u32_in _ (by omega)
  have e6 : ((a : Int) % 4294967296) = (lo : Int) := by rw [hlo]; rfl
  have e7 : ((hi : Int) % 4294967296) = (hi : Int) := by omega
  simp only [← hlo, ← hhi] at HT Hl
  have hhib : hi ≤ 2147483648 := by omega
  have hlob : lo < 4294967296 := by omega
  by_cases hv : v < 0
  · obtain rfl : v = -(a : Int) := by omega
    obtain ⟨b, hb⟩ : ∃ b, b = 18446744073709551616 - a := ⟨_, rfl⟩
    have e1 : IntKind.u64.wrap (-(a : Int)) = (b : Int) := by
      have : (-(a : Int)) % 18446744073709551616 = (b : Int) := by omega
      simpa [IntKind.wrap, IntKind.bits, IntKind.signed] using this
    have e2 : IntKind.u64.wrap (-(b : Int)) = (a : Int) := by
      have : (-(b : Int)) % 18446744073709551616 = (a : Int) := by omega
      simpa [IntKind.wrap, IntKind.bits, IntKind.signed] using this
    have e8 : IntKind.u64.wrap (0 - (b : Int)) = (a : Int) := by rw [Int.zero_sub]; exact e2
    have z1 : decide (-(a : Int) < 0) = true := by simp; omega
    have z2 : decide ((0 : Int) < (a : Int)) = true := by simp; omega
    have z3 : 0 < a := by omega
    clear ha hlo hhi hb hv h1 h2
    go_enter Tryd.func28, Tryd.ntmps28
    go_wp2_with (first
      | ((with_reducible refine g_dst 2 ?_); go_must (refine ev_alloc 2 rfl infoNum (cs := [.bool false, .slice none 0 0]) rfl ?_); intro g2 w2 hb2 B2 hg2)
      | ((with_reducible refine g_dst 17 ?_); go_must (refine ev_lit (v := fun g => .slice (some ⟨g, 0, none⟩) 2 2) 17 rfl (cs := [valU lo, valU hi]) (t := 62) (by go_simp; rfl) ?_); intro g3 w3 hb3 B3 hg3; replace B2 := B2.below hb3; have hgl := B2.lt; have hl3 := Hl.out _ _ _ B3; replace hb3 := bthen hb2 hb3)
      | (go_at_call 54; (with_reducible refine (HT.out _ _ _ hl3).mono ?_); rintro e w4 ⟨v4, rfl, ht4, hb4⟩; obtain ⟨m, rfl, ho4, h14⟩ := told_one ht4; replace B2 := B2.below hb4; have hb34 := bthen hb3 hb4)
      | ((with_reducible refine g_store 2 ?_); go_must (refine ev_store rfl rfl B2 (news := [.bool (decide (sval true a < 0)), m]) (by rfl) infoNum (by simp) h14 ?_); intro w5 ho5 B5; simp only [List.take_zero, List.nil_append, List.length_cons, List.length_nil, List.drop_succ_cons, List.drop_zero, List.append_nil, List.cons_append] at B5))
    refine bodyPost_ret (results_cell_row rfl _ _ g2 26 #[.bool (decide (sval true a < 0)), m] (0, 0) _ rfl B5.h Tryd.underlying26 rfl (by kernel_rfl)) rfl ?_
    exact ⟨_, rfl, ⟨m, rfl, ow_only ho4 ho5 hgl hb3.size⟩, hb34.trans (ho5.below hg2)⟩
  · obtain rfl : v = (a : Int) := by omega
    have z1 : decide ((a : Int) < 0) = false := by simp
    clear ha hlo hhi hv h1
    go_enter Tryd.func28, Tryd.ntmps28
    go_wp2_with (first
      | ((with_reducible refine g_dst 2 ?_); go_must (refine ev_alloc 2 rfl infoNum (cs := [.bool false, .slice none 0 0]) rfl ?_); intro g2 w2 hb2 B2 hg2)
      | ((with_reducible refine g_dst 17 ?_); go_must (refine ev_lit (v := fun g => .slice (some ⟨g, 0, none⟩) 2 2) 17 rfl (cs := [valU lo, valU hi]) (t := 62) (by go_simp; rfl) ?_); intro g3 w3 hb3 B3 hg3; replace B2 := B2.below hb3; have hgl := B2.lt; have hl3 := Hl.out _ _ _ B3; replace hb3 := bthen hb2 hb3)
      | (go_at_call 54; (with_reducible refine (HT.out _ _ _ hl3).mono ?_); rintro e w4 ⟨v4, rfl, ht4, hb4⟩; obtain ⟨m, rfl, ho4, h14⟩ := told_one ht4; replace B2 := B2.below hb4; have hb34 := bthen hb3 hb4)
      | ((with_reducible refine g_store 2 ?_); go_must (refine ev_store rfl rfl B2 (news := [.bool (decide (sval false a < 0)), m]) (by rfl) infoNum (by simp) h14 ?_); intro w5 ho5 B5; simp only [List.take_zero, List.nil_append, List.length_cons, List.length_nil, List.drop_succ_cons, List.drop_zero, List.append_nil, List.cons_append] at B5))
    refine bodyPost_ret (results_cell_row rfl _ _ g2 26 #[.bool (decide (sval false a < 0)), m] (0, 0) _ rfl B5.h Tryd.underlying26 rfl (by kernel_rfl)) rfl ?_
    exact ⟨_, rfl, ⟨m, rfl, ow_only ho4 ho5 hgl hb3.size⟩, hb34.trans (ho5.below hg2)⟩
set_option maxHeartbeats 400000 in
theorem rNeg_any (l : List Nat) (neg : Bool) (A : Option Addr) (c : Nat) (w : World) (h : Lim w A c l) :
    Calls Tryd.prog 32 #[.agg #[.bool neg, .slice A l.length c]] w (Gives w fun r w' => Told w.heap.size w' r (- sval neg (valB 4294967296 l))) := by
  obtain ⟨nn, hnn⟩ : ∃ nn, nn = !neg := ⟨_, rfl⟩
  have HT := As.mk (fun (w1 : World) (hb : Below w.heap.size w w1) => ofT_any l l.length rfl nn A c w1 (h.below hb))
  rw [show sval nn (valB 4294967296 l) = - sval neg (valB 4294967296 l) by rw [hnn]; exact sval_not _ _] at HT
  have e1 : (!neg) = nn := hnn.symm
  obtain ⟨z, hz⟩ : ∃ z, z = - sval neg (valB 4294967296 l) := ⟨_, rfl⟩
  rw [← hz] at HT ⊢
  clear hnn hz
  go_enter Tryd.func32, Tryd.ntmps32
  go_wp2_with (first
    | ((with_reducible refine g_dst 1 ?_); go_must (refine ev_box 1 rfl (cs := [.bool neg, .slice A l.length c]) (by rfl) ?_); intro g1 w1 hb1 B1 hg1)
    | ((with_reducible refine g_dst 2 ?_); go_must (refine ev_alloc 2 rfl infoNum (cs := [.bool false, .slice none 0 0]) rfl ?_); intro g2 w2 hb2 B2 hg2; replace B1 := B1.below hb2; have C1 := B1.cells; replace hg2 := Nat.le_trans hb1.size hg2; replace hb2 := bthen hb1 hb2)
    | (go_at_call 54; (with_reducible refine (HT.out _ hb2).mono ?_); rintro e w4 ⟨v4, rfl, ht4, hb4⟩; obtain ⟨m, rfl, ho4, h14⟩ := told_one ht4; have hgl := B2.lt; replace B2 := B2.below hb4; have hb34 := bthen hb2 hb4)
    | ((with_reducible refine g_store 2 ?_); go_must (refine ev_store rfl rfl B2 (news := [.bool (decide (z < 0)), m]) (by rfl) infoNum (by simp) h14 ?_); intro w5 ho5 B5; simp only [List.take_zero, List.nil_append, List.length_cons, List.length_nil, List.drop_succ_cons, List.drop_zero, List.append_nil, List.cons_append] at B5))
  refine bodyPost_ret (results_cell_row rfl _ _ g2 26 #[.bool (decide (z < 0)), m] (0, 0) _ rfl B5.h Tryd.underlying26 rfl (by kernel_rfl)) rfl ?_
  exact ⟨_, rfl, ⟨m, rfl, ow_only ho4 ho5 hgl hb2.size⟩, hb34.trans (ho5.below hg2)⟩
/-- what plus does behind its two Canon: the sizes, the signs -/
theorem plus_eq {y z : Int} (hs : decide (y < 0) = decide (z < 0)) : sval (decide (y < 0)) (y.natAbs + z.natAbs) = y + z := by
  rw [sval_same]
  conv => lhs; arg 2; rw [hs]
  rw [sval_of, sval_of]
theorem plus_ge {y z : Int} (hs : decide (y < 0) ≠ decide (z < 0)) (hle : z.natAbs ≤ y.natAbs) : sval (decide (y < 0)) (y.natAbs - z.natAbs) = y + z := by
  rw [sval_apart _ _ _ _ hs hle, sval_of, sval_of]
theorem plus_lt {y z : Int} (hs : decide (y < 0) ≠ decide (z < 0)) (hle : y.natAbs ≤ z.natAbs) : sval (decide (z < 0)) (z.natAbs - y.natAbs) = y + z := by
  rw [sval_apart _ _ _ _ (Ne.symm hs) hle, sval_of, sval_of, Int.add_comm]
theorem sum_len {k : Nat} {y z : Int} (h1 : Sm k y) (h2 : Sm k z) : (digB 4294967296 (y.natAbs + z.natAbs)).length ≤ k + 1 := by
  refine digB_len_lt _ (by omega) _ _ ?_
  unfold Sm at h1 h2
  rw [Nat.pow_succ]; omega
set_option maxRecDepth 8000 in
set_option maxHeartbeats 1000000 in
theorem plus_any (l m : List Nat) (n1 n2 : Bool) (A A2 : Option Addr) (c c2 : Nat) (w : World) (h : Lim w A c l) (h2 : Lim w A2 c2 m) (hl1 : l.length < 274877906944) (hl2 : m.length < 274877906944) :
    Calls Tryd.prog 49 #[.agg #[.bool n1, .slice A l.length c], .agg #[.bool n2, .slice A2 m.length c2]] w (Gives w fun r w' => Told w.heap.size w' r (sval n1 (valB 4294967296 l) + sval n2 (valB 4294967296 m))) := by
  have HC1 := As.mk (fun w1 (hb : Below w.heap.size w w1) => canonT_any l n1 A c w1 (h.below hb))
  have HC2 := As.mk (fun w1 (hb : Below w.heap.size w w1) => canonT_any m n2 A2 c2 w1 (h2.below hb))
  have hy := Sm.of n1 l h.lt
  have hz := Sm.of n2 m h2.lt
  obtain ⟨y, hye⟩ : ∃ y, y = sval n1 (valB 4294967296 l) := ⟨_, rfl⟩
  obtain ⟨z, hze⟩ : ∃ z, z = sval n2 (valB 4294967296 m) := ⟨_, rfl⟩
  rw [← hye] at HC1 hy ⊢
  rw [← hze] at HC2 hz ⊢
  have hyl := Nat.le_of_lt (Nat.lt_of_le_of_lt hy.len hl1)
  have hzl := Nat.le_of_lt (Nat.lt_of_le_of_lt hz.len hl2)
  have hsum : As ((digB 4294967296 (y.natAbs + z.natAbs)).length ≤ 274877906944) := ⟨Nat.le_trans (sum_len (hy.mono (Nat.le_max_left l.length m.length)) (hz.mono (Nat.le_max_right l.length m.length))) (by omega)⟩
  have hd1 : As ((digB 4294967296 (y.natAbs - z.natAbs)).length ≤ 274877906944) := ⟨Nat.le_trans (digB_mono8 4294967296 (by omega) (Nat.sub_le _ _)) hyl⟩
  have hd2 : As ((digB 4294967296 (z.natAbs - y.natAbs)).length ≤ 274877906944) := ⟨Nat.le_trans (digB_mono8 4294967296 (by omega) (Nat.sub_le _ _)) hzl⟩
  obtain ⟨L, hL⟩ : ∃ L, L = digB 4294967296 y.natAbs := ⟨_, rfl⟩
  obtain ⟨M, hM⟩ : ∃ M, M = digB 4294967296 z.natAbs := ⟨_, rfl⟩
  have HV : As (valB 4294967296 L = y.natAbs) := ⟨by rw [hL]; exact digB_val _ (by omega) _⟩
  have HU : As (valB 4294967296 M = z.natAbs) := ⟨by rw [hM]; exact digB_val _ (by omega) _⟩
  have HLl : As (∀ x ∈ L, x < 4294967296) := ⟨by rw [hL]; exact digB_lt _ (by omega) _⟩
  have HMl : As (∀ x ∈ M, x < 4294967296) := ⟨by rw [hM]; exact digB_lt _ (by omega) _⟩
  rw [← hL] at hyl
  rw [← hM] at hzl
  have HL := As.mk hL
  have HM := As.mk hM
  have hzero : (decide (y < 0) = decide (z < 0)) ∨ (decide (y < 0) ≠ decide (z < 0)) := Decidable.em _
  obtain ⟨a1, ha1⟩ : ∃ a, a = decide (y < 0) := ⟨_, rfl⟩
  obtain ⟨a2, ha2⟩ : ∃ a, a = decide (z < 0) := ⟨_, rfl⟩
  have Ha1 := As.mk ha1
  have Ha2 := As.mk ha2
  rw [← ha1, ← ha2] at hzero
  clear hye hze hy hz hL hM ha1 ha2
  rcases hzero with heq | hne
  · have HZ : As (sval a1 (y.natAbs + z.natAbs) = y + z) := ⟨by rw [Ha1.out]; exact plus_eq (by rw [← Ha1.out, ← Ha2.out]; exact heq)⟩
    obtain ⟨D, hD⟩ : ∃ D, D = digB 4294967296 (y.natAbs + z.natAbs) := ⟨_, rfl⟩
    have hDl : D.length ≤ 274877906944 := by rw [hD]; exact hsum.out
    have HADD := As.mk (fun (W : World) A5 c5 A7 c7 g (r : Rd encS 1 W (some ⟨g, 0, none⟩) [⟨A5, c5, L⟩, ⟨A7, c7, M⟩]) (h5 : Lim W A5 c5 L) (h7 : Lim W A7 c7 M) => rAdd_any [⟨A5, c5, L⟩, ⟨A7, c7, M⟩] 2 rfl (some ⟨g, 0, none⟩) 2 W r (fun s hs => by
      simp only [List.mem_cons, List.not_mem_nil, or_false] at hs
      rcases hs with rfl | rfl
      · exact ⟨h5.rd, h5.lt, h5.cap, h5.max, h5.none⟩
      · exact ⟨h7.rd, h7.lt, h7.cap, h7.max, h7.none⟩) (Nat.le_refl _) (by omega))
    simp only [List.map_cons, List.map_nil, sumV, Nat.add_zero, HV.out, HU.out, ← hD] at HADD
    have HOF := As.mk (fun (W : World) A9 c9 (h9 : Lim W A9 c9 D) => ofT_any D D.length rfl a1 A9 c9 W h9)
    rw [show valB 4294967296 D = y.natAbs + z.natAbs by rw [hD]; exact digB_val _ (by omega) _, HZ.out] at HOF
    have HDl : As (∀ x ∈ D, x < 4294967296) := ⟨by rw [hD]; exact digB_lt _ (by omega) _⟩
    subst heq
    obtain ⟨s, hs⟩ : ∃ s, s = y + z := ⟨_, rfl⟩
    rw [← hs] at HOF ⊢
    clear hD hs HZ
    go_enter Tryd.func49, Tryd.ntmps49
    go_wp2_with (first
      | ((with_reducible refine g_dst 2 ?_); go_must (refine ev_box 2 rfl (cs := [.bool n1, .slice A l.length c]) (by rfl) ?_); intro g2 w2 hb2 B2 hg2)
      | ((with_reducible refine g_dst 3 ?_); go_must (refine ev_box 3 rfl (cs := [.bool n2, .slice A2 m.length c2]) (by rfl) ?_); intro g3 w3 hb3 B3 hg3; have hne23 : g2 ≠ g3 := Nat.ne_of_lt (Nat.lt_of_lt_of_le B2.lt hg3); replace B2 := B2.below hb3; replace hg3 := Nat.le_trans hb2.size hg3; replace hb3 := bthen hb2 hb3)
      | ((with_reducible refine g_dst 4 ?_); go_must (refine ev_alloc 4 rfl infoNum (cs := [.bool false, .slice none 0 0]) rfl ?_); intro g4 w4 hb4 B4 hg4; have hne24 : g2 ≠ g4 := Nat.ne_of_lt (Nat.lt_of_lt_of_le B2.lt hg4); have hne34 : g3 ≠ g4 := Nat.ne_of_lt (Nat.lt_of_lt_of_le B3.lt hg4); replace B2 := B2.below hb4; replace B3 := B3.below hb4; replace hg4 := Nat.le_trans hb3.size hg4; replace hb4 := bthen hb3 hb4; have C2 := B2.cells; have C3 := B3.cells; have l2 := B2.lt; have l3 := B3.lt; have l4 := B4.lt)
      | (go_at_call 52; (with_reducible refine (HC1.out _ hb4).mono ?_); rintro e w5 ⟨v5, rfl, ht5, hb5⟩; obtain ⟨m5, rfl, ho5, h15⟩ := told_one ht5; clear ht5 h15; rw [← HL.out] at ho5; rw [← Ha1.out]; obtain ⟨A5, c5, rfl, h51, h52⟩ := ho5.form; replace B2 := B2.below hb5; replace B3 := B3.below hb5; replace B4 := B4.below hb5; clear C2 C3; replace hb5 := bthen hb4 hb5)
      | ((with_reducible refine g_store 2 ?_); go_must (refine ev_store rfl rfl B2 (news := [.bool a1, .slice A5 L.length c5]) (by rfl) infoNum (by simp) (by simp [Value.oneCell']) ?_); intro w6 ho6 B26; simp only [List.take_zero, List.nil_append, List.length_cons, List.length_nil, List.drop_succ_cons, List.drop_zero, List.append_nil, List.cons_append] at B26; have B36 := B3.only ho6 (Ne.symm hne23); have B46 := B4.only ho6 (Ne.symm hne24); have hb6 := hb5.trans (ho6.below hg2); have C2 := B26.cells; have C3 := B36.cells; have hoL := ow_only ho5 ho6 l2 (Nat.le_refl _); have l62 := B26.lt; have l63 := B36.lt; have l64 := B46.lt)
      | (go_at_call 52; (with_reducible refine (HC2.out _ hb6).mono ?_); rintro e w7 ⟨v7, rfl, ht7, hb7⟩; obtain ⟨m7, rfl, ho7, h17⟩ := told_one ht7; clear ht7 h17; rw [← HM.out] at ho7; rw [← Ha2.out]; obtain ⟨A7, c7, rfl, h71, h72⟩ := ho7.form; have B27 := B26.below hb7; have B37 := B36.below hb7; have B47 := B46.below hb7; clear C2 C3; have hoL7 := hoL.below hb7; replace hb7 := bthen hb6 hb7)
      | ((with_reducible refine g_store 3 ?_); go_must (refine ev_store rfl rfl B37 (news := [.bool a1, .slice A7 M.length c7]) (by rfl) infoNum (by simp) (by simp [Value.oneCell']) ?_); intro w8 ho8 B38; simp only [List.take_zero, List.nil_append, List.length_cons, List.length_nil, List.drop_succ_cons, List.drop_zero, List.append_nil, List.cons_append] at B38; have B28 := B27.only ho8 hne23; have B48 := B47.only ho8 (Ne.symm hne34); have hb8 := hb7.trans (ho8.below hg3); have C2 := B28.cells; have C3 := B38.cells; have hoM := ow_only ho7 ho8 l63 (Nat.le_refl _); have hoL8 := ow_only hoL7 ho8 l3 (Nat.le_refl _); have hlL : Lim w8 A5 c5 L := ⟨hoL8.rd lenU, HLl.out, h51, hoL8.none, hyl⟩; have hlM : Lim w8 A7 c7 M := ⟨hoM.rd lenU, HMl.out, h71, hoM.none, hzl⟩; have l8 := B48.lt; clear hoL8 hoM hoL hoL7 ho5 ho7))
    clear C2 C3
    have hS : ∀ W, Blk W g2 [.bool a1, .slice A5 L.length c5] 26 → Blk W g3 [.bool a1, .slice A7 M.length c7] 26 → W.cell? ⟨g2, 0, none⟩ = some (.bool a1) ∧ W.cell? ⟨g2, 1, none⟩ = some (.slice A5 L.length c5) ∧ W.cell? ⟨g3, 1, none⟩ = some (.slice A7 M.length c7) := fun W b1 b2 => ⟨b1.cells 0, b1.cells 1, b2.cells 1⟩
    have hd := (Below.refl w8.heap.size w8).drew
    have hS0 := hS _ (B28.below hd) (B38.below hd)
    have hbA : ∀ o, Below w8.heap.size w8 (w8.alloc o).drew := fun o => ((Below.refl w8.heap.size w8).alloc (Nat.le_refl _) o).drew
    refine wp_gen (fun Q7 hQ7 => ?_)
    go_region_held3 (fun W => W.cell? ⟨g2, 0, none⟩ = some (.bool a1) ∧ W.cell? ⟨g2, 1, none⟩ = some (.slice A5 L.length c5) ∧ W.cell? ⟨g3, 1, none⟩ = some (.slice A7 M.length c7)) (first | assumption | exact hS _ (B28.below hb9) (B38.below hb9) | exact hS _ (B28.below hb10) (B38.below hb10) | exact hSk _ _ | exact hS _ (B28.below (hbA _)) (B38.below (hbA _))) (first
      | (go_at_call 71; (with_reducible refine (HADD.out _ A5 c5 A7 c7 _ ((Blk.new w8 [valS ⟨A5, c5, L⟩, valS ⟨A7, c7, M⟩] 24).drew.rdm (l := [⟨A5, c5, L⟩, ⟨A7, c7, M⟩]) encS_one) (hlL.below (hbA _)) (hlM.below (hbA _))).mono ?_); rintro e w9 ⟨v9, rfl, ho9, hb9⟩; replace hb9 := bthen (hbA _) hb9; obtain ⟨A9, c9, rfl, h91, h92⟩ := ho9.form; have hl9 : Lim w9 A9 c9 D := ⟨ho9.rd lenU, HDl.out, h91, ho9.none, hDl⟩; clear ho9)
      | (go_at_call 54; (with_reducible refine (HOF.out _ _ _ hl9).mono ?_); rintro e w10 ⟨v10, rfl, ht10, hb10⟩; obtain ⟨A10, c10, E, rfl, ho10, HE, h101⟩ := told_sl ht10; have ho10' := ho10.lower hb9.size; replace hb10 := bthen hb9 hb10; have B410 := B48.below hb10; have C4 := B410.cells; have F4 := B410.free; have hSk := fun v u => hS _ ((B28.below hb10).only (set2_gen B410 v u).1 hne24) ((B38.below hb10).only (set2_gen B410 v u).1 hne34)))
    obtain ⟨ho11, B11⟩ := set2_gen B410 (.bool (decide (s < 0))) (.slice A10 E.length c10)
    generalize (w10.setCell ⟨g4, 0, none⟩ (.bool (decide (s < 0)))).setCell ⟨g4, 1, none⟩ (.slice A10 E.length c10) = w11 at ho11 B11 ⊢
    obtain ⟨rfl⟩ := hQ7
    go_wp2
    refine bodyPost_ret (results_cell_row rfl _ _ g4 26 #[.bool (decide (s < 0)), .slice A10 E.length c10] (0, 0) _ rfl B11.h Tryd.underlying26 rfl (by kernel_rfl)) rfl ?_
    exact ⟨_, rfl, ⟨.slice A10 E.length c10, rfl, by rw [← HE.out]; exact ow_only ho10' ho11 l8 hb8.size⟩, (bthen hb8 hb10).trans (ho11.below hg4)⟩
  · have q1 : (a1 == a2) = false := by cases a1 <;> cases a2 <;> simp_all
    have q2 : decide (a1 = a2) = false := by simp [hne]
    have HSUB := As.mk (fun (W : World) A5 c5 A7 c7 (h5 : Lim W A5 c5 L) (h7 : Lim W A7 c7 M) => rSub_any L M A5 A7 c5 c7 W ⟨h5.rd, h5.lt, h5.cap, h5.max, h5.none⟩ ⟨h7.rd, h7.lt, h7.cap, h7.max, h7.none⟩)
    have HSUB2 := As.mk (fun (W : World) A5 c5 A7 c7 (h5 : Lim W A5 c5 L) (h7 : Lim W A7 c7 M) => rSub_any M L A7 A5 c7 c5 W ⟨h7.rd, h7.lt, h7.cap, h7.max, h7.none⟩ ⟨h5.rd, h5.lt, h5.cap, h5.max, h5.none⟩)
    rw [HV.out, HU.out] at HSUB HSUB2
    by_cases hle : z.natAbs ≤ y.natAbs
    · have HZ : As (sval a1 (y.natAbs - z.natAbs) = y + z) := ⟨by rw [Ha1.out]; exact plus_ge (by rw [← Ha1.out, ← Ha2.out]; exact hne) hle⟩
      have Hle := As.mk hle
      obtain ⟨D, hD⟩ : ∃ D, D = digB 4294967296 (y.natAbs - z.natAbs) := ⟨_, rfl⟩
      have hDl : D.length ≤ 274877906944 := by rw [hD]; exact hd1.out
      simp only [← hD] at HSUB
      have HOF := As.mk (fun (W : World) A9 c9 (h9 : Lim W A9 c9 D) => ofT_any D D.length rfl a1 A9 c9 W h9)
      rw [show valB 4294967296 D = y.natAbs - z.natAbs by rw [hD]; exact digB_val _ (by omega) _, HZ.out] at HOF
      have HDl : As (∀ x ∈ D, x < 4294967296) := ⟨by rw [hD]; exact digB_lt _ (by omega) _⟩
      obtain ⟨s, hs⟩ : ∃ s, s = y + z := ⟨_, rfl⟩
      rw [← hs] at HOF ⊢
      clear hD hs HZ hle hne
      go_enter Tryd.func49, Tryd.ntmps49
      go_wp2_with (first
        | ((with_reducible refine g_dst 2 ?_); go_must (refine ev_box 2 rfl (cs := [.bool n1, .slice A l.length c]) (by rfl) ?_); intro g2 w2 hb2 B2 hg2)
        | ((with_reducible refine g_dst 3 ?_); go_must (refine ev_box 3 rfl (cs := [.bool n2, .slice A2 m.length c2]) (by rfl) ?_); intro g3 w3 hb3 B3 hg3; have hne23 : g2 ≠ g3 := Nat.ne_of_lt (Nat.lt_of_lt_of_le B2.lt hg3); replace B2 := B2.below hb3; replace hg3 := Nat.le_trans hb2.size hg3; replace hb3 := bthen hb2 hb3)
        | ((with_reducible refine g_dst 4 ?_); go_must (refine ev_alloc 4 rfl infoNum (cs := [.bool false, .slice none 0 0]) rfl ?_); intro g4 w4 hb4 B4 hg4; have hne24 : g2 ≠ g4 := Nat.ne_of_lt (Nat.lt_of_lt_of_le B2.lt hg4); have hne34 : g3 ≠ g4 := Nat.ne_of_lt (Nat.lt_of_lt_of_le B3.lt hg4); replace B2 := B2.below hb4; replace B3 := B3.below hb4; replace hg4 := Nat.le_trans hb3.size hg4; replace hb4 := bthen hb3 hb4; have C2 := B2.cells; have C3 := B3.cells; have l2 := B2.lt; have l3 := B3.lt; have l4 := B4.lt)
        | (go_at_call 52; (with_reducible refine (HC1.out _ hb4).mono ?_); rintro e w5 ⟨v5, rfl, ht5, hb5⟩; obtain ⟨m5, rfl, ho5, h15⟩ := told_one ht5; clear ht5 h15; rw [← HL.out] at ho5; rw [← Ha1.out]; obtain ⟨A5, c5, rfl, h51, h52⟩ := ho5.form; replace B2 := B2.below hb5; replace B3 := B3.below hb5; replace B4 := B4.below hb5; clear C2 C3; replace hb5 := bthen hb4 hb5)
        | ((with_reducible refine g_store 2 ?_); go_must (refine ev_store rfl rfl B2 (news := [.bool a1, .slice A5 L.length c5]) (by rfl) infoNum (by simp) (by simp [Value.oneCell']) ?_); intro w6 ho6 B26; simp only [List.take_zero, List.nil_append, List.length_cons, List.length_nil, List.drop_succ_cons, List.drop_zero, List.append_nil, List.cons_append] at B26; have B36 := B3.only ho6 (Ne.symm hne23); have B46 := B4.only ho6 (Ne.symm hne24); have hb6 := hb5.trans (ho6.below hg2); have C2 := B26.cells; have C3 := B36.cells; have hoL := ow_only ho5 ho6 l2 (Nat.le_refl _); have l62 := B26.lt; have l63 := B36.lt; have l64 := B46.lt)
        | (go_at_call 52; (with_reducible refine (HC2.out _ hb6).mono ?_); rintro e w7 ⟨v7, rfl, ht7, hb7⟩; obtain ⟨m7, rfl, ho7, h17⟩ := told_one ht7; clear ht7 h17; rw [← HM.out] at ho7; rw [← Ha2.out]; obtain ⟨A7, c7, rfl, h71, h72⟩ := ho7.form; have B27 := B26.below hb7; have B37 := B36.below hb7; have B47 := B46.below hb7; clear C2 C3; have hoL7 := hoL.below hb7; replace hb7 := bthen hb6 hb7)
        | ((with_reducible refine g_store 3 ?_); go_must (refine ev_store rfl rfl B37 (news := [.bool a2, .slice A7 M.length c7]) (by rfl) infoNum (by simp) (by simp [Value.oneCell']) ?_); intro w8 ho8 B38; simp only [List.take_zero, List.nil_append, List.length_cons, List.length_nil, List.drop_succ_cons, List.drop_zero, List.append_nil, List.cons_append] at B38; have B28 := B27.only ho8 hne23; have B48 := B47.only ho8 (Ne.symm hne34); have hb8 := hb7.trans (ho8.below hg3); have C2 := B28.cells; have C3 := B38.cells; have hoM := ow_only ho7 ho8 l63 (Nat.le_refl _); have hoL8 := ow_only hoL7 ho8 l3 (Nat.le_refl _); have hlL : Lim w8 A5 c5 L := ⟨hoL8.rd lenU, HLl.out, h51, hoL8.none, hyl⟩; have hlM : Lim w8 A7 c7 M := ⟨hoM.rd lenU, HMl.out, h71, hoM.none, hzl⟩; have l8 := B48.lt; clear hoL8 hoM hoL hoL7 ho5 ho7)
        | (go_at_call 72; (with_reducible refine (HSUB.out _ _ _ _ _ hlL hlM).mono ?_); rintro e w9 ⟨v9, rfl, ⟨_, hq⟩, hb9⟩; obtain ⟨q, rfl, ho9⟩ := hq Hle.out; obtain ⟨A9, c9, rfl, h91, h92⟩ := ho9.form; have hl9 : Lim w9 A9 c9 D := ⟨ho9.rd lenU, HDl.out, h91, ho9.none, hDl⟩; clear ho9 C2 C3; have C2 := (B28.below hb9).cells; have B49 := B48.below hb9)
        | (go_at_call 54; (with_reducible refine (HOF.out _ _ _ hl9).mono ?_); rintro e w10 ⟨v10, rfl, ht10, hb10⟩; obtain ⟨m10, rfl, ho10, h110⟩ := told_one ht10; have ho10' := ho10.lower hb9.size; have B410 := B49.below hb10; replace hb10 := bthen hb9 hb10; clear C2)
        | ((with_reducible refine g_store 4 ?_); go_must (refine ev_store rfl rfl B410 (news := [.bool (decide (s < 0)), m10]) (by rfl) infoNum (by simp) h110 ?_); intro w11 ho11 B11; simp only [List.take_zero, List.nil_append, List.length_cons, List.length_nil, List.drop_succ_cons, List.drop_zero, List.append_nil, List.cons_append] at B11))
      refine bodyPost_ret (results_cell_row rfl _ _ g4 26 #[.bool (decide (s < 0)), m10] (0, 0) _ rfl B11.h Tryd.underlying26 rfl (by kernel_rfl)) rfl ?_
      exact ⟨_, rfl, ⟨m10, rfl, ow_only ho10' ho11 l8 hb8.size⟩, (bthen hb8 hb10).trans (ho11.below hg4)⟩
    · have HZ : As (sval a2 (z.natAbs - y.natAbs) = y + z) := ⟨by rw [Ha2.out]; exact plus_lt (by rw [← Ha1.out, ← Ha2.out]; exact hne) (by omega)⟩
      have Hlt : As (y.natAbs < z.natAbs) := ⟨by omega⟩
      obtain ⟨D, hD⟩ : ∃ D, D = digB 4294967296 (z.natAbs - y.natAbs) := ⟨_, rfl⟩
      have hDl : D.length ≤ 274877906944 := by rw [hD]; exact hd2.out
      simp only [← hD] at HSUB2
      have HOF := As.mk (fun (W : World) A9 c9 (h9 : Lim W A9 c9 D) => ofT_any D D.length rfl a2 A9 c9 W h9)
      rw [show valB 4294967296 D = z.natAbs - y.natAbs by rw [hD]; exact digB_val _ (by omega) _, HZ.out] at HOF
      have HDl : As (∀ x ∈ D, x < 4294967296) := ⟨by rw [hD]; exact digB_lt _ (by omega) _⟩
      obtain ⟨s, hs⟩ : ∃ s, s = y + z := ⟨_, rfl⟩
      rw [← hs] at HOF ⊢
      clear hD hs HZ hle hne
      go_enter Tryd.func49, Tryd.ntmps49
      go_wp2_with (first
        | ((with_reducible refine g_dst 2 ?_); go_must (refine ev_box 2 rfl (cs := [.bool n1, .slice A l.length c]) (by rfl) ?_); intro g2 w2 hb2 B2 hg2)
        | ((with_reducible refine g_dst 3 ?_); go_must (refine ev_box 3 rfl (cs := [.bool n2, .slice A2 m.length c2]) (by rfl) ?_); intro g3 w3 hb3 B3 hg3; have hne23 : g2 ≠ g3 := Nat.ne_of_lt (Nat.lt_of_lt_of_le B2.lt hg3); replace B2 := B2.below hb3; replace hg3 := Nat.le_trans hb2.size hg3; replace hb3 := bthen hb2 hb3)
        | ((with_reducible refine g_dst 4 ?_); go_must (refine ev_alloc 4 rfl infoNum (cs := [.bool false, .slice none 0 0]) rfl ?_); intro g4 w4 hb4 B4 hg4; have hne24 : g2 ≠ g4 := Nat.ne_of_lt (Nat.lt_of_lt_of_le B2.lt hg4); have hne34 : g3 ≠ g4 := Nat.ne_of_lt (Nat.lt_of_lt_of_le B3.lt hg4); replace B2 := B2.below hb4; replace B3 := B3.below hb4; replace hg4 := Nat.le_trans hb3.size hg4; replace hb4 := bthen hb3 hb4; have C2 := B2.cells; have C3 := B3.cells; have l2 := B2.lt; have l3 := B3.lt; have l4 := B4.lt)
        | (go_at_call 52; (with_reducible refine (HC1.out _ hb4).mono ?_); rintro e w5 ⟨v5, rfl, ht5, hb5⟩; obtain ⟨m5, rfl, ho5, h15⟩ := told_one ht5; clear ht5 h15; rw [← HL.out] at ho5; rw [← Ha1.out]; obtain ⟨A5, c5, rfl, h51, h52⟩ := ho5.form; replace B2 := B2.below hb5; replace B3 := B3.below hb5; replace B4 := B4.below hb5; clear C2 C3; replace hb5 := bthen hb4 hb5)
        | ((with_reducible refine g_store 2 ?_); go_must (refine ev_store rfl rfl B2 (news := [.bool a1, .slice A5 L.length c5]) (by rfl) infoNum (by simp) (by simp [Value.oneCell']) ?_); intro w6 ho6 B26; simp only [List.take_zero, List.nil_append, List.length_cons, List.length_nil, List.drop_succ_cons, List.drop_zero, List.append_nil, List.cons_append] at B26; have B36 := B3.only ho6 (Ne.symm hne23); have B46 := B4.only ho6 (Ne.symm hne24); have hb6 := hb5.trans (ho6.below hg2); have C2 := B26.cells; have C3 := B36.cells; have hoL := ow_only ho5 ho6 l2 (Nat.le_refl _); have l62 := B26.lt; have l63 := B36.lt; have l64 := B46.lt)
        | (go_at_call 52; (with_reducible refine (HC2.out _ hb6).mono ?_); rintro e w7 ⟨v7, rfl, ht7, hb7⟩; obtain ⟨m7, rfl, ho7, h17⟩ := told_one ht7; clear ht7 h17; rw [← HM.out] at ho7; rw [← Ha2.out]; obtain ⟨A7, c7, rfl, h71, h72⟩ := ho7.form; have B27 := B26.below hb7; have B37 := B36.below hb7; have B47 := B46.below hb7; clear C2 C3; have hoL7 := hoL.below hb7; replace hb7 := bthen hb6 hb7)
        | ((with_reducible refine g_store 3 ?_); go_must (refine ev_store rfl rfl B37 (news := [.bool a2, .slice A7 M.length c7]) (by rfl) infoNum (by simp) (by simp [Value.oneCell']) ?_); intro w8 ho8 B38; simp only [List.take_zero, List.nil_append, List.length_cons, List.length_nil, List.drop_succ_cons, List.drop_zero, List.append_nil, List.cons_append] at B38; have B28 := B27.only ho8 hne23; have B48 := B47.only ho8 (Ne.symm hne34); have hb8 := hb7.trans (ho8.below hg3); have C2 := B28.cells; have C3 := B38.cells; have hoM := ow_only ho7 ho8 l63 (Nat.le_refl _); have hoL8 := ow_only hoL7 ho8 l3 (Nat.le_refl _); have hlL : Lim w8 A5 c5 L := ⟨hoL8.rd lenU, HLl.out, h51, hoL8.none, hyl⟩; have hlM : Lim w8 A7 c7 M := ⟨hoM.rd lenU, HMl.out, h71, hoM.none, hzl⟩; have l8 := B48.lt; clear hoL8 hoM hoL hoL7 ho5 ho7)
        | (go_at_call 72; (with_reducible refine (HSUB.out _ _ _ _ _ hlL hlM).mono ?_); rintro e w9 ⟨v9, rfl, ⟨hq, _⟩, hb9⟩; obtain rfl := hq Hlt.out; clear C2 C3; have C2 := (B28.below hb9).cells; have C3 := (B38.below hb9).cells; have B49 := B48.below hb9)
        | (go_at_call 72; (with_reducible refine (HSUB2.out _ _ _ _ _ (hlL.below hb9) (hlM.below hb9)).mono ?_); rintro e w12 ⟨v12, rfl, ⟨_, hq⟩, hb12⟩; obtain ⟨q, rfl, ho12⟩ := hq (Nat.le_of_lt Hlt.out); obtain ⟨A9, c9, rfl, h91, h92⟩ := ho12.form; have hl9 : Lim w12 A9 c9 D := ⟨ho12.rd lenU, HDl.out, h91, ho12.none, hDl⟩; have hb912 := bthen hb9 hb12; clear ho12 C2 C3; have C3 := (B38.below hb912).cells; have B412 := B48.below hb912)
        | (go_at_call 54; (with_reducible refine (HOF.out _ _ _ hl9).mono ?_); rintro e w10 ⟨v10, rfl, ht10, hb10⟩; obtain ⟨m10, rfl, ho10, h110⟩ := told_one ht10; have ho10' := ho10.lower hb912.size; have B410 := B412.below hb10; replace hb10 := bthen hb912 hb10; clear C3)
        | ((with_reducible refine g_store 4 ?_); go_must (refine ev_store rfl rfl B410 (news := [.bool (decide (s < 0)), m10]) (by rfl) infoNum (by simp) h110 ?_); intro w11 ho11 B11; simp only [List.take_zero, List.nil_append, List.length_cons, List.length_nil, List.drop_succ_cons, List.drop_zero, List.append_nil, List.cons_append] at B11))
      refine bodyPost_ret (results_cell_row rfl _ _ g4 26 #[.bool (decide (s < 0)), m10] (0, 0) _ rfl B11.h Tryd.underlying26 rfl (by kernel_rfl)) rfl ?_
      exact ⟨_, rfl, ⟨m10, rfl, ow_only ho10' ho11 l8 hb8.size⟩, (bthen hb8 hb10).trans (ho11.below hg4)⟩
end Go.Proofs.YtigoofeodbbbhaaDoor
