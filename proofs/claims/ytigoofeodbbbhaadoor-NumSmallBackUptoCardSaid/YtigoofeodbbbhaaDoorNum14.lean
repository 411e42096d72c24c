/- num.Small, tandemref02.Small. -/
import Derived.Test.YtigoofeodbbbhaaDoorNum13
namespace Go.Proofs.YtigoofeodbbbhaaDoor
open Go.RowKit Go.Proofs.YtigoofeodbbbhaaDoorL Go.Proofs.YtigoofeodbbbhaaDoorM
set_option linter.unusedVariables false
set_option linter.unusedSimpArgs false
/-- is it told as an int64? -/
def smB (z : Int) : Bool := decide (-2305843009213693952 ≤ z ∧ z < 2305843009213693952)
def smV (z : Int) : Int := if smB z then z else 0
theorem i64_shift_or (r x : Nat) (hr : r < 1073741824) (hx : x < 4294967296) : bits .or .i64 ((r : Int) * 4294967296) (x : Int) = ((r * 4294967296 + x : Nat) : Int) := by
  have e1 : ((r : Int) * 4294967296) = ((r * 4294967296 : Nat) : Int) := by
    rw [Int.natCast_mul]; rfl
  have h0 := Nat.shiftLeft_add_eq_or_of_lt (i := 32) (b := x) (by simpa using hx) r
  rw [Nat.shiftLeft_eq] at h0
  rw [e1]
  show IntKind.i64.wrap ((BitVec.ofInt 64 ((r * 4294967296 : Nat) : Int) ||| BitVec.ofInt 64 (x : Int)).toNat : Int) = _
  rw [BitVec.toNat_or, ofInt_u64 _ (by omega), ofInt_u64 x (by omega), show (4294967296 : Nat) = 2 ^ 32 from rfl, ← h0]
  exact IntWalk.i64_in _ (by omega)
theorem take2_val (l : List Nat) (h : valB 4294967296 l < 4294967296 ^ 2) : valB 4294967296 (l.take 2) = valB 4294967296 l := by
  by_cases hl : l.length ≤ 2
  · rw [List.take_of_length_le hl]
  · have h1 := valB_split 4294967296 l 2
    rw [List.length_take, Nat.min_eq_left (by omega)] at h1
    have h2 : valB 4294967296 (l.drop 2) = 0 := by
      rcases Nat.eq_zero_or_pos (valB 4294967296 (l.drop 2)) with h0 | h0
      · exact h0
      · have : 4294967296 ^ 2 * 1 ≤ 4294967296 ^ 2 * valB 4294967296 (l.drop 2) := Nat.mul_le_mul_left _ h0
        omega
    rw [h2] at h1; omega
theorem drop_val_le (l : List Nat) : ∀ k, valB 4294967296 (l.drop k) ≤ valB 4294967296 l
  | 0 => by simp
  | k + 1 => by
    refine Nat.le_trans ?_ (drop_val_le l k)
    by_cases h : k < l.length
    · rw [drop_cons_of_lt l k h, valB_cons]; omega
    · rw [List.drop_eq_nil_of_le (by omega), List.drop_eq_nil_of_le (by omega)]; exact Nat.le_refl _
set_option maxRecDepth 8000 in
set_option maxHeartbeats 2000000 in
theorem numSmall_any (l : List Nat) (nb : Bool) (A : Option Addr) (c : Nat) (w : World) (h : Lim w A c l) :
    Calls Tryd.prog 25 #[.agg #[.bool nb, .slice A l.length c]] w (Gives w fun v w' => v = .tuple #[.int .i64 (smV (sval nb (valB 4294967296 l))), .bool (smB (sval nb (valB 4294967296 l)))]) := by
  have HB := As.mk (fun w1 (hb : Below w.heap.size w w1) => sbits_any l A c w1 (h.below hb))
  obtain ⟨V, hV⟩ : ∃ V, V = valB 4294967296 l := ⟨_, rfl⟩
  rw [← hV]
  simp only [← hV] at HB
  obtain ⟨bn, hbn⟩ : ∃ bn, bn = bitN V := ⟨_, rfl⟩
  simp only [← hbn] at HB
  by_cases hbig : 4611686018427387904 ≤ V
  · have hb62 : 62 < bn := by rw [hbn]; exact digB_len_ge 2 (by omega) 62 V hbig
    have z1 : decide ((62 : Int) < (bn : Int)) = true := by simp; omega
    have z2 : decide (62 < bn) = true := by simp; omega
    have HR : As (smV (sval nb V) = 0 ∧ smB (sval nb V) = false) := ⟨by
      have : smB (sval nb V) = false := by rw [smB, decide_eq_false_iff_not]; cases nb <;> simp only [sval] <;> omega
      exact ⟨by rw [smV, this]; rfl, this⟩⟩
    clear hbig hb62 hbn hV
    go_enter Tryd.func25, Tryd.ntmps25
    go_wp2_with (first
      | ((with_reducible refine g_dst 1 ?_); go_must (refine ev_box 1 rfl (cs := [.bool nb, .slice A l.length c]) (by rfl) ?_); intro g1 w1 hb1 B1 hg1; have C1 := B1.cells)
      | (go_at_call 47; (with_reducible refine (numOf_any _ _ _ _ _).mono ?_); rintro e w2 ⟨v2, rfl, rfl, hb2⟩; clear C1; replace hb2 := bthen hb1 hb2)
      | ((with_reducible refine g_dst 4 ?_); go_must (refine ev_alloc 4 rfl infoNm (cs := [.slice none 0 0, .bool false]) rfl ?_); intro g4 w4 hb4 B4 hg4; replace hg4 := Nat.le_trans hb2.size hg4; replace hb4 := bthen hb2 hb4)
      | ((with_reducible refine g_store 4 ?_); go_must (refine ev_store rfl rfl B4 (news := [.slice A l.length c, .bool nb]) (by rfl) infoNm (by simp) (by simp [Value.oneCell']) ?_); intro w5 ho5 B5; simp only [List.take_zero, List.nil_append, List.length_cons, List.length_nil, List.drop_succ_cons, List.drop_zero, List.append_nil, List.cons_append] at B5; have hb5 := hb4.trans (ho5.below hg4); have C5 := B5.cells)
      | (go_at_call 56; (with_reducible refine (HB.out _ hb5).mono ?_); rintro e w6 ⟨v6, rfl, rfl, hb6⟩; replace hb6 := bthen hb5 hb6))
    go_ret2
    exact ⟨_, rfl, by rw [HR.out.1, HR.out.2]; rfl, hb6⟩
  · have hb62 : bn ≤ 62 := by rw [hbn]; exact digB_len_lt 2 (by omega) 62 V (by omega)
    have z1 : decide ((62 : Int) < (bn : Int)) = false := by simp; omega
    have z2 : decide (62 < bn) = false := by simp; omega
    have hVb : V < 4611686018427387904 := by omega
    obtain ⟨D, hD⟩ : ∃ D, D = l.take 2 := ⟨_, rfl⟩
    have hDV : valB 4294967296 D = V := by rw [hD, hV]; exact take2_val l (by omega)
    have hDl : D.length = min 2 l.length := by rw [hD, List.length_take]
    have HDr := As.mk (fun k => Nat.lt_of_le_of_lt (drop_val_le D k) (show valB 4294967296 D < 4611686018427387904 by omega))
    have HDlt : As (∀ x ∈ D, x < 4294967296) := ⟨fun x hx => h.lt x (List.mem_of_mem_take (hD ▸ hx))⟩
    have HDrd := As.mk (fun w1 (hb : Below w.heap.size w w1) => show Rd encU 1 w1 A D by rw [hD]; exact (h.rd.below hb).take 2)
    have hm1 : min (2 : Int) (l.length : Int) = (D.length : Int) := by omega
    have hm2 : min (l.length : Int) (2 : Int) = (D.length : Int) := by omega
    have HDle : As (D.length ≤ l.length ∧ D.length ≤ 2) := ⟨by omega, by omega⟩
    have HDV := As.mk hDV
    have hcap := h.cap
    have hDle := HDle.out
    have HNN : As (nb = nb) := ⟨rfl⟩
    clear hbig hb62 hbn hV hD hDV hDl
    go_enter Tryd.func25, Tryd.ntmps25
    go_wp2_with (first
      | ((with_reducible refine g_dst 1 ?_); go_must (refine ev_box 1 rfl (cs := [.bool nb, .slice A l.length c]) (by rfl) ?_); intro g1 w1 hb1 B1 hg1; have C1 := B1.cells)
      | (go_at_call 47; (with_reducible refine (numOf_any _ _ _ _ _).mono ?_); rintro e w2 ⟨v2, rfl, rfl, hb2⟩; replace B1 := B1.below hb2; clear C1; replace hb2 := bthen hb1 hb2)
      | ((with_reducible refine g_dst 4 ?_); go_must (refine ev_alloc 4 rfl infoNm (cs := [.slice none 0 0, .bool false]) rfl ?_); intro g4 w4 hb4 B4 hg4; have hne : g1 ≠ g4 := Nat.ne_of_lt (Nat.lt_of_lt_of_le B1.lt hg4); replace B1 := B1.below hb4; replace hg4 := Nat.le_trans hb2.size hg4; replace hb4 := bthen hb2 hb4)
      | ((with_reducible refine g_store 4 ?_); go_must (refine ev_store rfl rfl B4 (news := [.slice A l.length c, .bool nb]) (by rfl) infoNm (by simp) (by simp [Value.oneCell']) ?_); intro w5 ho5 B5; simp only [List.take_zero, List.nil_append, List.length_cons, List.length_nil, List.drop_succ_cons, List.drop_zero, List.append_nil, List.cons_append] at B5; replace B1 := B1.only ho5 hne; have hb5 := hb4.trans (ho5.below hg4); have C5 := B5.cells)
      | (go_at_call 56; (with_reducible refine (HB.out _ hb5).mono ?_); rintro e w6 ⟨v6, rfl, rfl, hb6⟩; replace B1 := B1.below hb6; replace B5 := B5.below hb6; clear C5; have C5 := B5.cells; have C1 := B1.cells; replace hb6 := bthen hb5 hb6))
    go_loopw [5, 6] (fun v u wr => ∃ k r : Nat, k ≤ D.length ∧ r < 4611686018427387904 ∧ v = .int .i64 (r : Int) ∧ u = .int .i64 ((k : Int) - 1) ∧ As (r = valB 4294967296 (D.drop k)) ∧ As (wr = w6)) (fun v u _ => (intOf u + 1).toNat)
    case atStart => exact ⟨D.length, 0, Nat.le_refl _, by omega, rfl, by go_num, ⟨by rw [List.drop_length]; rfl⟩, ⟨rfl⟩⟩
    case round =>
      obtain ⟨k, r, hk, hr, rfl, rfl, hR, hw⟩ := hrel
      obtain rfl := hw.out
      cases k with
      | zero =>
        have hRV : r = V := by rw [hR.out, List.drop_zero, HDV.out]
        subst hRV
        clear hR hm1 hm2
        cases nb with
        | true =>
          by_cases hq : r ≤ 2305843009213693952
          · have HR : As (smV (sval true r) = -(r : Int) ∧ smB (sval true r) = true) := ⟨by
              have : smB (sval true r) = true := by rw [smB, decide_eq_true_iff]; simp only [sval, if_true]; omega
              exact ⟨by rw [smV, this]; rfl, this⟩⟩
            have y1 : decide (-(r : Int) < -2305843009213693952) = false := by rw [decide_eq_false_iff_not]; omega
            have y2 : decide ((2305843009213693951 : Int) < -(r : Int)) = false := by rw [decide_eq_false_iff_not]; omega
            go_wp2
            go_ret2
            exact ⟨_, rfl, by rw [HR.out.1, HR.out.2]; rfl, hb6⟩
          · have HR : As (smV (sval true r) = 0 ∧ smB (sval true r) = false) := ⟨by
              have : smB (sval true r) = false := by rw [smB, decide_eq_false_iff_not]; simp only [sval, if_true]; omega
              exact ⟨by rw [smV, this]; rfl, this⟩⟩
            have y1 : decide (-(r : Int) < -2305843009213693952) = true := by rw [decide_eq_true_iff]; omega
            go_wp2
            go_ret2
            exact ⟨_, rfl, by rw [HR.out.1, HR.out.2]; rfl, hb6⟩
        | false =>
          by_cases hq : r < 2305843009213693952
          · have HR : As (smV (sval false r) = (r : Int) ∧ smB (sval false r) = true) := ⟨by
              have : smB (sval false r) = true := by rw [smB, decide_eq_true_iff]; simp only [sval]; refine ⟨?_, ?_⟩ <;> simp <;> omega
              exact ⟨by rw [smV, this]; rfl, this⟩⟩
            have y1 : decide ((r : Int) < -2305843009213693952) = false := by rw [decide_eq_false_iff_not]; omega
            have y2 : decide ((2305843009213693951 : Int) < (r : Int)) = false := by rw [decide_eq_false_iff_not]; omega
            go_wp2
            go_ret2
            exact ⟨_, rfl, by rw [HR.out.1, HR.out.2]; rfl, hb6⟩
          · have HR : As (smV (sval false r) = 0 ∧ smB (sval false r) = false) := ⟨by
              have : smB (sval false r) = false := by
                rw [smB, decide_eq_false_iff_not]
                show ¬ (-2305843009213693952 ≤ (r : Int) ∧ (r : Int) < 2305843009213693952)
                omega
              exact ⟨by rw [smV, this]; rfl, this⟩⟩
            have y1 : decide ((r : Int) < -2305843009213693952) = false := by rw [decide_eq_false_iff_not]; omega
            have y2 : decide ((2305843009213693951 : Int) < (r : Int)) = true := by rw [decide_eq_true_iff]; omega
            go_wp2
            go_ret2
            exact ⟨_, rfl, by rw [HR.out.1, HR.out.2]; rfl, hb6⟩
      | succ m =>
        have hrd := HDrd.out _ hb6
        obtain ⟨b, off, rfl⟩ := hrd.get (ne_nil_of_lt (i := m) (by omega))
        have hcell := Rd.u hrd m (by omega)
        have hx := HDlt.out _ (List.getElem_mem (show m < D.length by omega))
        have hdr := drop_cons_of_lt D m (by omega)
        have hlt := HDr.out m
        obtain ⟨x, hxe⟩ : ∃ x, x = D[m] := ⟨_, rfl⟩
        rw [← hxe] at hcell hx hdr
        rw [hdr, valB_cons, ← hR.out] at hlt
        have hr30 : r < 1073741824 := by omega
        have hor := i64_shift_or r x hr30 hx
        obtain ⟨v, hv⟩ : ∃ v, v = r * 4294967296 + x := ⟨_, rfl⟩
        rw [← hv] at hor
        have hvb : v < 4611686018427387904 := by omega
        have HR' : As (v = valB 4294967296 (D.drop m)) := ⟨by rw [hdr, valB_cons, ← hR.out, hv]; omega⟩
        have ew : IntKind.i64.wrap ((r : Int) * 4294967296) = (r : Int) * 4294967296 := IntWalk.i64_in _ (by omega)
        have hml : m < l.length := by omega
        have hmc : m < c := by omega
        clear hxe hv hdr hlt hR
        go_wp2
        go_roundw
        case rel => exact ⟨m, v, by omega, hvb, by go_num, by go_num, HR', by first | exact ⟨rfl⟩ | exact ⟨trivial⟩⟩
        case measure => simp [intOf]
theorem u64_shift_add (r x : Nat) (hr : r < 4294967296) (hx : x < 4294967296) : (r : Int) * 4294967296 + (x : Int) = ((r * 4294967296 + x : Nat) : Int) := by simp
set_option maxRecDepth 8000 in
set_option maxHeartbeats 2000000 in
theorem rSmall_any (l : List Nat) (nb : Bool) (A : Option Addr) (c : Nat) (w : World) (h : Lim w A c l) :
    Calls Tryd.prog 26 #[.agg #[.bool nb, .slice A l.length c]] w (Gives w fun v w' => v = .tuple #[.int .i64 (smV (sval nb (valB 4294967296 l))), .bool (smB (sval nb (valB 4294967296 l)))]) := by
  have HC := As.mk (fun w1 (hb : Below w.heap.size w w1) => canonT_any l nb A c w1 (h.below hb))
  have hzl := Nat.le_trans (Sm.of nb l h.lt).len h.max
  obtain ⟨z, hz⟩ : ∃ z, z = sval nb (valB 4294967296 l) := ⟨_, rfl⟩
  rw [← hz] at HC hzl ⊢
  obtain ⟨zb, hzb⟩ : ∃ zb, zb = decide (z < 0) := ⟨_, rfl⟩
  obtain ⟨D, hD⟩ : ∃ D, D = digB 4294967296 z.natAbs := ⟨_, rfl⟩
  rw [← hD] at hzl
  obtain ⟨V, hV⟩ : ∃ V, V = z.natAbs := ⟨_, rfl⟩
  have hDV : valB 4294967296 D = V := by rw [hD, hV]; exact digB_val _ (by omega) _
  have HDlt : As (∀ x ∈ D, x < 4294967296) := ⟨by rw [hD]; exact digB_lt _ (by omega) _⟩
  have hsv : sval zb V = z := by rw [hzb, hV]; exact sval_of z
  have HDe := As.mk hD
  have Hzb := As.mk hzb
  have Hsv := As.mk hsv
  have HDV := As.mk hDV
  have S4 : True := trivial
  by_cases h2 : 2 < D.length
  · have hbig : 4294967296 ^ 2 ≤ V := by
      refine Nat.le_of_not_lt (fun hlt => ?_)
      have := digB_len_lt 4294967296 (by omega) 2 V hlt
      rw [hV, ← hD] at this
      omega
    have HR : As (smV z = 0 ∧ smB z = false) := ⟨by
      have : smB z = false := by rw [smB, decide_eq_false_iff_not]; omega
      exact ⟨by rw [smV, this]; rfl, this⟩⟩
    have z1 : decide ((2 : Int) < (D.length : Int)) = true := by rw [decide_eq_true_iff]; omega
    have z2 : decide (2 < D.length) = true := decide_eq_true h2
    clear hz hzb hD hV hDV hsv hbig S4
    go_enter Tryd.func26, Tryd.ntmps26
    go_wp2_with (first
      | ((with_reducible refine g_dst 1 ?_); go_must (refine ev_box 1 rfl (cs := [.bool nb, .slice A l.length c]) (by rfl) ?_); intro g1 w1 hb1 B1 hg1; have C1 := B1.cells)
      | (go_at_call 52; (with_reducible refine (HC.out _ hb1).mono ?_); rintro e w2 ⟨v2, rfl, ht2, hb2⟩; obtain ⟨A2, c2, E2, rfl, o2, HE2, h21⟩ := told_sl ht2; clear ht2; obtain rfl : E2 = D := (by rw [HE2.out, HDe.out]); rw [← Hzb.out]; replace B1 := B1.below hb2; clear C1; replace hb2 := bthen hb1 hb2)
      | ((with_reducible refine g_store 1 ?_); go_must (refine ev_store rfl rfl B1 (news := [.bool zb, .slice A2 E2.length c2]) (by rfl) infoNum (by simp) (by simp [Value.oneCell']) ?_); intro w3 ho3 B3; simp only [List.take_zero, List.nil_append, List.length_cons, List.length_nil, List.drop_succ_cons, List.drop_zero, List.append_nil, List.cons_append] at B3; have C3 := B3.cells; have hb3 := hb2.trans (ho3.below hg1)))
    go_ret2
    exact ⟨_, rfl, by rw [HR.out.1, HR.out.2]; rfl, hb3⟩
  · have hV2 : V < 18446744073709551616 := by
      have h3 := valB_lt 4294967296 (by omega) D HDlt.out
      have h4 : 4294967296 ^ D.length ≤ 4294967296 ^ 2 := Nat.pow_le_pow_right (by omega) (by omega)
      rw [hDV] at h3
      have : (4294967296 : Nat) ^ 2 = 18446744073709551616 := by decide
      omega
    have z1 : decide ((2 : Int) < (D.length : Int)) = false := by rw [decide_eq_false_iff_not]; omega
    have z2 : decide (2 < D.length) = false := decide_eq_false h2
    have HDr := As.mk (fun k => Nat.lt_of_le_of_lt (drop_val_le D k) (show valB 4294967296 D < 18446744073709551616 by omega))
    have hD2 : D.length ≤ 2 := by omega
    clear hz hzb hD hV hDV hsv h2 S4
    go_enter Tryd.func26, Tryd.ntmps26
    go_wp2_with (first
      | ((with_reducible refine g_dst 1 ?_); go_must (refine ev_box 1 rfl (cs := [.bool nb, .slice A l.length c]) (by rfl) ?_); intro g1 w1 hb1 B1 hg1; have C1 := B1.cells)
      | (go_at_call 52; (with_reducible refine (HC.out _ hb1).mono ?_); rintro e w2 ⟨v2, rfl, ht2, hb2⟩; obtain ⟨A2, c2, E2, rfl, o2, HE2, h21⟩ := told_sl ht2; clear ht2; obtain rfl : E2 = D := (by rw [HE2.out, HDe.out]); rw [← Hzb.out]; have l1 := B1.lt; replace B1 := B1.below hb2; clear C1; have hb12 := hb2; replace hb2 := bthen hb1 hb2)
      | ((with_reducible refine g_store 1 ?_); go_must (refine ev_store rfl rfl B1 (news := [.bool zb, .slice A2 E2.length c2]) (by rfl) infoNum (by simp) (by simp [Value.oneCell']) ?_); intro w3 ho3 B3; simp only [List.take_zero, List.nil_append, List.length_cons, List.length_nil, List.drop_succ_cons, List.drop_zero, List.append_nil, List.cons_append] at B3; have C3 := B3.cells; have hb3 := hb2.trans (ho3.below hg1); have hr3 := (ow_only o2 ho3 l1 (Nat.le_refl _)).rd lenU))
    go_loopw [4, 5] (fun v u wr => ∃ k r : Nat, k ≤ E2.length ∧ r < 18446744073709551616 ∧ v = .int .u64 (r : Int) ∧ u = .int .i64 ((k : Int) - 1) ∧ As (r = valB 4294967296 (E2.drop k)) ∧ As (wr = w3)) (fun v u _ => (intOf u + 1).toNat)
    case atStart => exact ⟨E2.length, 0, Nat.le_refl _, by omega, rfl, by go_num, ⟨by rw [List.drop_length]; rfl⟩, ⟨rfl⟩⟩
    case round =>
      obtain ⟨k, r, hk, hr, rfl, rfl, hR, hw⟩ := hrel
      obtain rfl := hw.out
      cases k with
      | zero =>
        have hRV : r = V := by rw [hR.out, List.drop_zero, HDV.out]
        subst hRV
        have hsv := Hsv.out
        clear hR
        cases zb with
        | true =>
          by_cases hq : r ≤ 2305843009213693952
          · have HR : As (smV z = -(r : Int) ∧ smB z = true) := ⟨by
              have hz : z = -(r : Int) := by rw [← hsv]; rfl
              have : smB z = true := by rw [smB, decide_eq_true_iff]; omega
              exact ⟨by rw [smV, this, hz]; rfl, this⟩⟩
            have y1 : decide ((r : Int) ≤ 2305843009213693952) = true := by rw [decide_eq_true_iff]; omega
            have y2 : decide (r ≤ 2305843009213693952) = true := decide_eq_true hq
            clear hsv
            go_wp2
            go_ret2
            exact ⟨_, rfl, by rw [HR.out.1, HR.out.2]; rfl, hb3⟩
          · have HR : As (smV z = 0 ∧ smB z = false) := ⟨by
              have hz : z = -(r : Int) := by rw [← hsv]; rfl
              have : smB z = false := by rw [smB, decide_eq_false_iff_not]; omega
              exact ⟨by rw [smV, this]; rfl, this⟩⟩
            have y1 : decide ((r : Int) ≤ 2305843009213693952) = false := by rw [decide_eq_false_iff_not]; omega
            have y2 : decide (r ≤ 2305843009213693952) = false := decide_eq_false hq
            clear hsv
            go_wp2
            go_ret2
            exact ⟨_, rfl, by rw [HR.out.1, HR.out.2]; rfl, hb3⟩
        | false =>
          by_cases hq : r < 2305843009213693952
          · have HR : As (smV z = (r : Int) ∧ smB z = true) := ⟨by
              have hz : z = (r : Int) := by rw [← hsv]; rfl
              have : smB z = true := by rw [smB, decide_eq_true_iff]; omega
              exact ⟨by rw [smV, this, hz]; rfl, this⟩⟩
            have y1 : decide ((2305843009213693952 : Int) ≤ (r : Int)) = false := by rw [decide_eq_false_iff_not]; omega
            have y2 : decide (2305843009213693952 ≤ r) = false := by rw [decide_eq_false_iff_not]; omega
            clear hsv
            go_wp2
            go_ret2
            exact ⟨_, rfl, by rw [HR.out.1, HR.out.2]; rfl, hb3⟩
          · have HR : As (smV z = 0 ∧ smB z = false) := ⟨by
              have hz : z = (r : Int) := by rw [← hsv]; rfl
              have : smB z = false := by rw [smB, decide_eq_false_iff_not]; omega
              exact ⟨by rw [smV, this]; rfl, this⟩⟩
            have y1 : decide ((2305843009213693952 : Int) ≤ (r : Int)) = true := by rw [decide_eq_true_iff]; omega
            have y2 : decide (2305843009213693952 ≤ r) = true := by rw [decide_eq_true_iff]; omega
            clear hsv
            go_wp2
            go_ret2
            exact ⟨_, rfl, by rw [HR.out.1, HR.out.2]; rfl, hb3⟩
      | succ m =>
        obtain ⟨b, off, rfl⟩ := hr3.get (ne_nil_of_lt (i := m) (by omega))
        have hcell := Rd.u hr3 m (by omega)
        have hx := HDlt.out _ (List.getElem_mem (show m < E2.length by omega))
        have hdr := drop_cons_of_lt E2 m (by omega)
        have hlt := HDr.out m
        obtain ⟨x, hxe⟩ : ∃ x, x = E2[m] := ⟨_, rfl⟩
        rw [← hxe] at hcell hx hdr
        rw [hdr, valB_cons, ← hR.out] at hlt
        have hr30 : r < 4294967296 := by omega
        obtain ⟨v, hv⟩ : ∃ v, v = r * 4294967296 + x := ⟨_, rfl⟩
        have e0 : (r : Int) * 4294967296 + (x : Int) = (v : Int) := by rw [hv]; simp
        have hvb : v < 18446744073709551616 := by omega
        have HR' : As (v = valB 4294967296 (E2.drop m)) := ⟨by rw [hdr, valB_cons, ← hR.out, hv]; omega⟩
        have hmc : m < c2 := by omega
        have hml : m < E2.length := by omega
        clear hxe hv hdr hlt hR
        go_wp2
        go_roundw
        case rel => exact ⟨m, v, by omega, hvb, by go_num, by go_num, HR', by first | exact ⟨rfl⟩ | exact ⟨trivial⟩⟩
        case measure => simp [intOf]
end Go.Proofs.YtigoofeodbbbhaaDoor
