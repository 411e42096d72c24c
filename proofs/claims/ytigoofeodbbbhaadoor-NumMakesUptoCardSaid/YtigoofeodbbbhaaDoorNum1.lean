/- nat.Bits; package num's size, number, Text. -/
import Derived.Test.YtigoofeodbbbhaaDoorNat3
import Derived.Test.YtigoofeodbbbhaaDoorMath7
namespace Go.Proofs.YtigoofeodbbbhaaDoor
open Go.RowKit Go.Proofs.YtigoofeodbbbhaaDoorL Go.Proofs.YtigoofeodbbbhaaDoorM
set_option linter.unusedVariables false
set_option linter.unusedSimpArgs false
set_option maxHeartbeats 400000 in
theorem bits_any (l : List Nat) (n : Nat) (hn : l.length = n) (A : Option Addr) (c : Nat) (w : World) (hr : Rd encU 1 w A l) (hl : ∀ x ∈ l, x < 4294967296) (hc : n ≤ c) (hm : n ≤ 281474976710656) :
    Calls Tryd.prog 62 #[.slice A n c] w fun e w' => e = .returned (.int .i64 ((bitN (valB 4294967296 l) : Nat) : Int)) ∧ w = w' := by
  subst hn
  obtain ⟨V, hV⟩ : ∃ V, V = valB 4294967296 l := ⟨_, rfl⟩
  rw [← hV]
  obtain ⟨L, hL⟩ : ∃ L, L = digB 4294967296 V := ⟨_, rfl⟩
  have htr : As (trimL l = L) := ⟨by rw [hL, hV]; exact trimL_dig 4294967296 (by omega) l hl⟩
  have hLe : L.length ≤ l.length := by rw [← htr.out]; exact trimL_le l
  have hrL : Rd encU 1 w A L := by have := Rd.trim hr; rwa [htr.out] at this
  have htrim := trim_any l A c w hr hc (by omega)
  rw [htr.out] at htrim
  have Htrim := As.mk htrim
  by_cases h0 : L.length = 0
  · have hb0 : As (bitN V = 0) := ⟨by rw [bitN_eq_zero, ← digB_eq_nil 4294967296 V (by omega), ← hL]; exact List.eq_nil_of_length_eq_zero h0⟩
    have hz : ((L.length : Int) == 0) = true := by simp; exact List.eq_nil_of_length_eq_zero h0
    clear hL hV h0 htrim
    go_enter Tryd.func62, Tryd.ntmps62
    go_wp2_with (go_at_call 73; (with_reducible refine Htrim.out.mono ?_); rintro e w1 ⟨rfl, rfl⟩)
    go_ret
    exact ⟨by rw [hb0.out]; rfl, rfl⟩
  · have hne : L ≠ [] := fun h => h0 (by rw [h]; rfl)
    have hz : ((L.length : Int) == 0) = false := by simp; exact hne
    obtain ⟨m, hm1⟩ : ∃ m, L.length = m + 1 := ⟨L.length - 1, by omega⟩
    obtain ⟨b, off, rfl⟩ := hr.get (ne_nil_of_lt (i := m) (by omega))
    have hcell := Rd.u hrL m (by omega)
    obtain ⟨x, hx⟩ : ∃ x, x = L[m] := ⟨_, rfl⟩
    rw [← hx] at hcell
    have hx2 : x < 4294967296 := by rw [hx]; have := List.getElem_mem (show m < L.length by omega); exact (hL ▸ digB_lt 4294967296 (by omega) V) _ this
    have hbits : As (bitN V = 32 * m + bitN x) := ⟨by
      have hk := bitN_limbs 32 V (by omega) (by rw [show (2 : Nat) ^ 32 = 4294967296 from rfl, ← hL]; exact hne)
      simp only [show (2 : Nat) ^ 32 = 4294967296 from rfl, ← hL] at hk
      rw [hk, hm1, Nat.add_sub_cancel, List.getLast_eq_getElem, hx]
      simp only [hm1, Nat.add_sub_cancel]⟩
    have hlen32 := Tryd.bits_Len32 (x : Int) w (by omega) (by omega)
    rw [Int.toNat_natCast, bitLen_bitN x (by omega)] at hlen32
    have hbx : bitN x ≤ 32 := digB_len_lt 2 (by omega) 32 x (by omega)
    have Hlen := As.mk hlen32
    have Hm := As.mk hm1
    have hml : m < 281474976710656 := by omega
    have em : ((L.length : Int) - 1) = (m : Int) := by omega
    have hmL : m < L.length := by omega
    have hmc : m < c := by omega
    clear hx hL hV h0 htrim hlen32 hm1 hne
    go_enter Tryd.func62, Tryd.ntmps62
    go_wp2_with (first
      | (go_at_call 73; (with_reducible refine Htrim.out.mono ?_); rintro e w1 ⟨rfl, rfl⟩)
      | (go_at_call 88; (with_reducible refine Hlen.out.mono ?_); rintro e w1 ⟨rfl, rfl⟩))
    go_ret
    exact ⟨by rw [hbits.out]; go_num, rfl⟩
/-- what of a list is asked: it reads as l, its numbers are limbs -/
structure Lim (w : World) (A : Option Addr) (c : Nat) (l : List Nat) : Prop where
  rd : Rd encU 1 w A l
  lt : ∀ x ∈ l, x < 4294967296
  cap : l.length ≤ c
  none : A = none → c = 0
  max : l.length ≤ 274877906944
theorem Lim.below {w w1 : World} {A : Option Addr} {c : Nat} {l : List Nat} (h : Lim w A c l) (hb : Below w.heap.size w w1) : Lim w1 A c l := ⟨h.rd.below hb, h.lt, h.cap, h.none, h.max⟩
set_option maxHeartbeats 400000 in
theorem sbits_any (l : List Nat) (A : Option Addr) (c : Nat) (w : World) (h : Lim w A c l) :
    Calls Tryd.prog 56 #[.agg #[.slice A l.length c]] w (Gives w fun v w' => v = .int .i64 ((bitN (valB 4294967296 l) : Nat) : Int)) := by
  go_enter Tryd.func56, Tryd.ntmps56
  go_wp2_with (first
    | ((with_reducible refine g_dst 1 ?_); go_must (refine ev_box 1 rfl (cs := [.slice A l.length c]) (by rfl) ?_); intro g w1 hb1 B1 hg1; have C1 := B1.cells)
    | (go_at_call 62; (with_reducible refine (bits_any l _ rfl _ _ _ (h.below hb1).rd h.lt h.cap (Nat.le_trans h.max (by omega))).mono ?_); rintro e w2 ⟨rfl, rfl⟩))
  go_ret
  exact ⟨_, rfl, rfl, hb1⟩
set_option maxHeartbeats 400000 in
theorem szero_any (l : List Nat) (A : Option Addr) (c : Nat) (w : World) (h : Lim w A c l) :
    Calls Tryd.prog 55 #[.agg #[.slice A l.length c]] w (Gives w fun v w' => v = .bool (decide (valB 4294967296 l = 0))) := by
  have hz : As (((bitN (valB 4294967296 l) : Int) == 0) = decide (valB 4294967296 l = 0)) := ⟨by
    rw [Bool.eq_iff_iff]; simp [bitN_eq_zero]⟩
  go_enter Tryd.func55, Tryd.ntmps55
  go_wp2_with (first
    | ((with_reducible refine g_dst 1 ?_); go_must (refine ev_box 1 rfl (cs := [.slice A l.length c]) (by rfl) ?_); intro g w1 hb1 B1 hg1; have C1 := B1.cells)
    | (go_at_call 56; (with_reducible refine (sbits_any l _ _ _ (h.below hb1)).mono ?_); rintro e w2 ⟨v2, rfl, rfl, hb2⟩))
  go_ret
  exact ⟨_, rfl, by rw [← hz.out]; rfl, bthen hb1 hb2⟩
theorem infoNumber : (Tryd.prog.info? 52).map (fun i => (i.zero, i.size, i.bytes)) = some (some (.agg #[.slice none 0 0, .bool false]), 2, 32) := by kernel_rfl
set_option maxHeartbeats 400000 in
theorem numOf_any (neg : Bool) (A : Option Addr) (n c : Nat) (w : World) :
    Calls Tryd.prog 47 #[.agg #[.bool neg, .slice A n c]] w (Gives w fun v w' => v = .agg #[.slice A n c, .bool neg]) := by
  go_enter Tryd.func47, Tryd.ntmps47
  go_wp2_with (first
    | ((with_reducible refine g_dst 1 ?_); go_must (refine ev_box 1 rfl (cs := [.bool neg, .slice A n c]) (by rfl) ?_); intro g w1 hb1 B1 hg1; have C1 := B1.cells)
    | ((with_reducible refine g_dst 2 ?_); go_must (refine ev_alloc 2 rfl infoNumber (cs := [.slice none 0 0, .bool false]) rfl ?_); intro g2 w2 hb2 B2 hg2; replace B1 := B1.below hb2; clear C1; have C1 := B1.cells)
    | ((with_reducible refine g_store 2 ?_); go_must (refine ev_store rfl rfl B2 (news := [.slice A n c, .bool neg]) (by rfl) infoNumber (by simp) (by simp [Value.oneCell']) ?_); intro w3 ho3 B3; simp only [List.take_zero, List.nil_append, List.length_cons, List.length_nil, List.drop_succ_cons, List.drop_zero, List.append_nil, List.cons_append] at B3; have C3 := B3.cells))
  refine bodyPost_ret (results_cell_row rfl _ _ g2 52 #[.slice A n c, .bool neg] (0, 0) _ rfl B3.h Tryd.underlying52 rfl (by kernel_rfl)) rfl ?_
  exact ⟨_, rfl, rfl, (bthen hb1 hb2).trans (ho3.below (Nat.le_trans hb1.size hg2))⟩
/-- the sign as a number -/
def sgn (neg : Bool) (v : Nat) : Int := if v = 0 then 0 else if neg then -1 else 1
set_option maxHeartbeats 400000 in
theorem sign_any (l : List Nat) (neg : Bool) (A : Option Addr) (c : Nat) (w : World) (h : Lim w A c l) :
    Calls Tryd.prog 57 #[.agg #[.slice A l.length c, .bool neg]] w (Gives w fun v w' => v = .int .i64 (sgn neg (valB 4294967296 l))) := by
  have hzero := fun w (h : Lim w A c l) => szero_any l A c w h
  by_cases hv : valB 4294967296 l = 0
  · have hs : As (sgn neg (valB 4294967296 l) = 0) := ⟨by rw [sgn, if_pos hv]⟩
    simp only [hv, decide_true] at hzero
    have Hz := As.mk hzero
    clear hzero hv
    go_enter Tryd.func57, Tryd.ntmps57
    go_wp2_with (first
      | ((with_reducible refine g_dst 1 ?_); go_must (refine ev_box 1 rfl (cs := [.slice A l.length c, .bool neg]) (by rfl) ?_); intro g w1 hb1 B1 hg1; have C1 := B1.cells)
      | (go_at_call 55; (with_reducible refine (Hz.out _ (h.below hb1)).mono ?_); rintro e w2 ⟨v2, rfl, rfl, hb2⟩))
    go_ret
    exact ⟨_, rfl, by rw [hs.out]; rfl, bthen hb1 hb2⟩
  · simp only [decide_eq_false hv] at hzero
    have Hz := As.mk hzero
    cases neg with
    | true =>
      have hs : As (sgn true (valB 4294967296 l) = -1) := ⟨by rw [sgn, if_neg hv]; rfl⟩
      clear hzero hv
      go_enter Tryd.func57, Tryd.ntmps57
      go_wp2_with (first
        | ((with_reducible refine g_dst 1 ?_); go_must (refine ev_box 1 rfl (cs := [.slice A l.length c, .bool true]) (by rfl) ?_); intro g w1 hb1 B1 hg1; have C1 := B1.cells)
        | (go_at_call 55; (with_reducible refine (Hz.out _ (h.below hb1)).mono ?_); rintro e w2 ⟨v2, rfl, rfl, hb2⟩; replace B1 := B1.below hb2; clear C1; have C1 := B1.cells))
      go_ret
      exact ⟨_, rfl, by rw [hs.out]; rfl, bthen hb1 hb2⟩
    | false =>
      have hs : As (sgn false (valB 4294967296 l) = 1) := ⟨by rw [sgn, if_neg hv]; rfl⟩
      clear hzero hv
      go_enter Tryd.func57, Tryd.ntmps57
      go_wp2_with (first
        | ((with_reducible refine g_dst 1 ?_); go_must (refine ev_box 1 rfl (cs := [.slice A l.length c, .bool false]) (by rfl) ?_); intro g w1 hb1 B1 hg1; have C1 := B1.cells)
        | (go_at_call 55; (with_reducible refine (Hz.out _ (h.below hb1)).mono ?_); rintro e w2 ⟨v2, rfl, rfl, hb2⟩; replace B1 := B1.below hb2; clear C1; have C1 := B1.cells))
      go_ret
      exact ⟨_, rfl, by rw [hs.out]; rfl, bthen hb1 hb2⟩
/-- the text of a number with its sign -/
def numT (neg : Bool) (v : Nat) : List UInt8 := if neg = true ∧ v ≠ 0 then 45 :: Lib.decDigits v else Lib.decDigits v
theorem run_add_lists {P : Program} (w : World) (x y : List UInt8) (h : x.length + y.length ≤ 9223372036854775807) : (Op.stringOp .add ⟨x.toArray⟩ ⟨y.toArray⟩).run P w = .ok (.string ⟨(x ++ y).toArray⟩) w := by
  rw [run_string_add_sum w _ _ (by simp [ByteArray.size]; omega), ByteArray.mk_append_mk]
theorem dec_len (l : List Nat) (h : ∀ x ∈ l, x < 4294967296) (hm : l.length ≤ 274877906944) : (Lib.decDigits (valB 4294967296 l)).length ≤ 4947802324992 := by
  rcases Nat.eq_zero_or_pos (valB 4294967296 l) with h0 | h0
  · rw [h0, Lib.decDigits_one (by omega)]; simp
  · rw [← joinL_dec _ h0]
    refine Nat.le_trans (joinL_len _ (fun x hx => ?_)) ?_
    · obtain ⟨r, hr, rfl⟩ := List.mem_map.1 hx
      exact dec_len9 r (digB_lt 1000000000 (by omega) _ r hr)
    · rw [List.length_map]
      have := dig9_len l h
      omega
set_option maxHeartbeats 400000 in
theorem numText_any (l : List Nat) (neg : Bool) (A : Option Addr) (c : Nat) (w : World) (htab : Tab w) (h : Lim w A c l) :
    Calls Tryd.prog 43 #[.agg #[.bool neg, .slice A l.length c]] w (Gives w fun v w' => v = .string ⟨(numT neg (valB 4294967296 l)).toArray⟩) := by
  obtain ⟨V, hV⟩ : ∃ V, V = valB 4294967296 l := ⟨_, rfl⟩
  have hdl := dec_len l h.lt h.max
  have hsign := fun w h => sign_any l neg A c w h
  have htext := fun w ht (h : Lim w A c l) => nText_any l l.length rfl A c w ht h.rd h.lt h.cap h.none h.max
  simp only [← hV] at hdl hsign htext ⊢
  obtain ⟨T, hT⟩ : ∃ T, T = Lib.decDigits V := ⟨_, rfl⟩
  rw [← hT] at hdl
  simp only [← hT] at htext
  have HS := As.mk hsign
  have HX := As.mk htext
  have HTab := As.mk htab
  have ha : ∀ w : World, (Op.stringOp .add ⟨#[45]⟩ ⟨T.toArray⟩).run Tryd.prog w = .ok (.string ⟨(45 :: T).toArray⟩) w := fun w => run_add_lists w [45] T (by simp; omega)
  by_cases hc : neg = true ∧ V ≠ 0
  · have hn : As (numT neg V = 45 :: T) := ⟨by rw [numT, if_pos hc, hT]⟩
    have hsg : sgn neg V = -1 := by rw [sgn, if_neg hc.2, if_pos hc.1]
    clear hT hV htext hsign htab hc
    go_enter Tryd.func43, Tryd.ntmps43
    go_wp2_with (first
      | ((with_reducible refine g_dst 1 ?_); go_must (refine ev_box 1 rfl (cs := [.bool neg, .slice A l.length c]) (by rfl) ?_); intro g w1 hb1 B1 hg1; have C1 := B1.cells)
      | (go_at_call 47; (with_reducible refine (numOf_any _ _ _ _ _).mono ?_); rintro e w2 ⟨v2, rfl, rfl, hb2⟩; replace B1 := B1.below hb2; clear C1; have C1 := B1.cells; replace hb2 := bthen hb1 hb2)
      | (go_at_call 57; (with_reducible refine (HS.out _ (h.below hb2)).mono ?_); rintro e w3 ⟨v3, rfl, rfl, hb3⟩; replace B1 := B1.below hb3; clear C1; have C1 := B1.cells; replace hb3 := bthen hb2 hb3)
      | (go_at_call 65; (with_reducible refine (HX.out _ (HTab.out.below hb3) (h.below hb3)).mono ?_); rintro e w4 ⟨v4, rfl, rfl, hb4⟩))
    go_ret
    exact ⟨_, rfl, by rw [hn.out]; rfl, bthen hb3 hb4⟩
  · have hn : As (numT neg V = T) := ⟨by rw [numT, if_neg hc, hT]⟩
    have hsg : (decide (sgn neg V < 0)) = false := by
      rw [decide_eq_false_iff_not, sgn]
      by_cases h0 : V = 0
      · rw [if_pos h0]; omega
      · rw [if_neg h0, if_neg (fun h => hc ⟨h, h0⟩)]; omega
    clear hT hV htext hsign htab hc
    go_enter Tryd.func43, Tryd.ntmps43
    go_wp2_with (first
      | ((with_reducible refine g_dst 1 ?_); go_must (refine ev_box 1 rfl (cs := [.bool neg, .slice A l.length c]) (by rfl) ?_); intro g w1 hb1 B1 hg1; have C1 := B1.cells)
      | (go_at_call 47; (with_reducible refine (numOf_any _ _ _ _ _).mono ?_); rintro e w2 ⟨v2, rfl, rfl, hb2⟩; replace B1 := B1.below hb2; clear C1; have C1 := B1.cells; replace hb2 := bthen hb1 hb2)
      | (go_at_call 57; (with_reducible refine (HS.out _ (h.below hb2)).mono ?_); rintro e w3 ⟨v3, rfl, rfl, hb3⟩; replace B1 := B1.below hb3; clear C1; have C1 := B1.cells; replace hb3 := bthen hb2 hb3)
      | (go_at_call 65; (with_reducible refine (HX.out _ (HTab.out.below hb3) (h.below hb3)).mono ?_); rintro e w4 ⟨v4, rfl, rfl, hb4⟩))
    go_ret
    exact ⟨_, rfl, by rw [hn.out]; rfl, bthen hb3 hb4⟩
end Go.Proofs.YtigoofeodbbbhaaDoor
