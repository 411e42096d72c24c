/- tandemlaw02.awake; NumSums. -/
import Derived.Test.YtigoofeodbbbhaaDoorNum8
import Derived.Test.YtigoofeodbbbhaaDoorNum9
namespace Go.Proofs.YtigoofeodbbbhaaDoor
open Go.RowKit Go.Proofs.YtigoofeodbbbhaaDoorL Go.Proofs.YtigoofeodbbbhaaDoorM
set_option linter.unusedVariables false
set_option linter.unusedSimpArgs false
theorem int_len {z : Int} (h : z.natAbs ≤ 9223372036854775808) : (digB 4294967296 z.natAbs).length ≤ 2 := digB_len_lt _ (by omega) 2 _ (by omega)
theorem lim_int {base : Nat} {w : World} {A : Option Addr} {c : Nat} {E : List Nat} {z : Int} (o : Ow encU 1 62 base w (.slice A E.length c) E) (hE : E = digB 4294967296 z.natAbs) (hc : E.length ≤ c) (h : z.natAbs ≤ 9223372036854775808) : Lim w A c E :=
  lim_sl o hE hc (by rw [hE]; exact Nat.le_trans (int_len h) (by omega))
theorem textZ {base : Nat} {w : World} {A : Option Addr} {c : Nat} {E : List Nat} {z : Int} (T : List UInt8) (htab : Tab w) (o : Ow encU 1 62 base w (.slice A E.length c) E) (hE : E = digB 4294967296 z.natAbs) (hc : E.length ≤ c) (h : z.natAbs ≤ 9223372036854775808) {b : Bool} (hT : numT b z.natAbs = T) :
    Calls Tryd.prog 43 #[.agg #[.bool b, .slice A E.length c]] w (Gives w fun v w' => v = .string ⟨T.toArray⟩) := by
  have := numText_any E b A c w htab (lim_int o hE hc h)
  rw [hE, digB_val _ (by omega), hT, ← hE] at this
  exact this
theorem textM4 : numT true (-4 : Int).natAbs = [45, 52] := by
  rw [numT, if_pos (by decide), show (-4 : Int).natAbs = 4 from rfl, Lib.decDigits_one (by omega)]; rfl
theorem text1 : numT false (1 : Int).natAbs = [49] := by
  rw [numT, if_neg (by decide), show (1 : Int).natAbs = 1 from rfl, Lib.decDigits_one (by omega)]; rfl
theorem text5 : numT false (5 : Int).natAbs = [53] := by
  rw [numT, if_neg (by decide), show (5 : Int).natAbs = 5 from rfl, Lib.decDigits_one (by omega)]; rfl
/-- the quotient of -7 and 2 -/
theorem floor72 {w : World} {A A2 : Option Addr} {c c2 : Nat} {E F : List Nat} (h : Lim w A c E) (h2 : Lim w A2 c2 F) (hE : E = digB 4294967296 (-7 : Int).natAbs) (hF : F = digB 4294967296 (2 : Int).natAbs) :
    Calls Tryd.prog 23 #[.agg #[.bool true, .slice A E.length c], .agg #[.bool false, .slice A2 F.length c2]] w (Gives w fun v w' => ∃ q r, v = .tuple #[q, r, .bool true] ∧ Told w.heap.size w' q (-4) ∧ Told w.heap.size w' r 1) := by
  have v1 : valB 4294967296 E = 7 := by rw [hE, digB_val _ (by omega)]; rfl
  have v2 : valB 4294967296 F = 2 := by rw [hF, digB_val _ (by omega)]; rfl
  have l1 : E.length ≤ 2 := by rw [hE]; exact int_len (by decide)
  have l2 : F.length ≤ 2 := by rw [hF]; exact int_len (by decide)
  have := floor_any E F true false A A2 c c2 w h h2 (by omega) (by omega) (by omega) (fun w1 hb => natDiv1_any E F A A2 c c2 w1 (h.below hb) (h2.below hb) (by omega) (by omega) (by omega))
  rw [v1, v2] at this
  exact this
set_option maxRecDepth 8000 in
set_option maxHeartbeats 2000000 in
theorem awake02_any (w : World) (htab : Tab w) : Calls Tryd.prog 19 #[] w (Gives w fun v _ => v = .bool true) := by
  have HT := As.mk htab
  clear htab
  go_enter Tryd.func19, Tryd.ntmps19
  go_wp2_with (first
    | (go_at_call 27; (with_reducible refine (numInt_any (-7) _ (by omega) (by omega)).mono ?_); rintro e w1 ⟨v1, rfl, ht1, hb1⟩; obtain ⟨A1, c1, E1, rfl, o1, HE1, h11⟩ := told_sl ht1; clear ht1)
    | (go_at_call 27; (with_reducible refine (numInt_any 2 _ (by omega) (by omega)).mono ?_); rintro e w2 ⟨v2, rfl, ht2, hb2⟩; replace hb1 := bthen hb1 hb2; obtain ⟨A2, c2, E2, rfl, o2, HE2, h21⟩ := told_sl ht2; clear ht2; have hl1 := lim_int (o1.below hb2) HE1.out h11 (by decide); have hl2 := lim_int o2 HE2.out h21 (by decide); clear o1 o2 hb2)
    | (go_at_call 23; (with_reducible refine (floor72 hl1 hl2 HE1.out HE2.out).mono ?_); rintro e w3 ⟨v3, rfl, ⟨q3, r3, rfl, htq, htr⟩, hb3⟩; obtain ⟨A3, c3, E3, rfl, o3, HE3, h31⟩ := told_sl htq; obtain ⟨A4, c4, E4, rfl, o4, HE4, h41⟩ := told_sl htr; clear htq htr hl1 hl2; replace hb3 := bthen hb1 hb3)
    | ((with_reducible refine g_dst 1 ?_); go_must (refine ev_alloc 1 rfl infoNum (cs := [.bool false, .slice none 0 0]) rfl ?_); intro g1 w4 hq4 B1 hg1)
    | ((with_reducible refine g_dst 2 ?_); go_must (refine ev_alloc 2 rfl infoNum (cs := [.bool false, .slice none 0 0]) rfl ?_); intro g2 w5 hb5 B2 hg2; have hne : g1 ≠ g2 := Nat.ne_of_lt (Nat.lt_of_lt_of_le B1.lt hg2); replace B1 := B1.below hb5; replace hg2 := Nat.le_trans hq4.size hg2; have hq5 := bthen hq4 hb5; clear hb5)
    | ((with_reducible refine g_store 1 ?_); go_must (refine ev_store rfl rfl B1 (news := [.bool true, .slice A3 E3.length c3]) (by rfl) infoNum (by simp) (by simp [Value.oneCell']) ?_); intro w6 ho6 B16; simp only [List.take_zero, List.nil_append, List.length_cons, List.length_nil, List.drop_succ_cons, List.drop_zero, List.append_nil, List.cons_append] at B16; replace B2 := B2.only ho6 (Ne.symm hne); have hq6 := hq5.trans (ho6.below hg1))
    | ((with_reducible refine g_store 2 ?_); go_must (refine ev_store rfl rfl B2 (news := [.bool false, .slice A4 E4.length c4]) (by rfl) infoNum (by simp) (by simp [Value.oneCell']) ?_); intro w7 ho7 B27; simp only [List.take_zero, List.nil_append, List.length_cons, List.length_nil, List.drop_succ_cons, List.drop_zero, List.append_nil, List.cons_append] at B27; replace B16 := B16.only ho7 hne; have hq7 := hq6.trans (ho7.below hg2); replace o3 := o3.below hq7; replace o4 := o4.below hq7; have hb7 := bthen hb3 hq7; have C1 := B16.cells; have C2 := B27.cells; clear hq4 hq5 hq6 B1 B2)
    | (go_at_call 43; (with_reducible refine (textZ [45, 52] (HT.out.below hb7) o3 HE3.out h31 (by decide) textM4).mono ?_); rintro e w8 ⟨v8, rfl, rfl, hb8⟩; replace o4 := o4.below hb8; replace B27 := B27.below hb8; clear C1 C2 o3; have C2 := B27.cells; replace hb8 := bthen hb7 hb8)
    | (go_at_call 43; (with_reducible refine (textZ [49] (HT.out.below hb8) o4 HE4.out h41 (by decide) text1).mono ?_); rintro e w9 ⟨v9, rfl, rfl, hb9⟩; clear C2 o4; replace hb9 := bthen hb8 hb9)
    | (go_at_call 27; (with_reducible refine (numInt_any 2 _ (by omega) (by omega)).mono ?_); rintro e w10 ⟨v10, rfl, ht10, hb10⟩; obtain ⟨A10, c10, E10, rfl, o10, HE10, h101⟩ := told_sl ht10; replace hb10 := bthen hb9 hb10; clear ht10)
    | (go_at_call 27; (with_reducible refine (numInt_any 3 _ (by omega) (by omega)).mono ?_); rintro e w11 ⟨v11, rfl, ht11, hb11⟩; obtain ⟨A11, c11, E11, rfl, o11, HE11, h111⟩ := told_sl ht11; replace o10 := o10.below hb11; have hl10 := lim_int o10 HE10.out h101 (by decide); have hl11 := lim_int o11 HE11.out h111 (by decide); replace hb11 := bthen hb10 hb11; clear ht11 o10 o11)
    | ((with_reducible refine g_dst 25 ?_); go_must (refine ev_lit (v := fun g => .slice (some ⟨g, 0, none⟩) 2 2) 25 rfl (cs := [.bool false, .slice A10 E10.length c10, .bool false, .slice A11 E11.length c11]) (t := 26) (by go_simp; try rfl) ?_); intro g12 w12 hb12 B12 hg12; replace hl10 := hl10.below hb12; replace hl11 := hl11.below hb12; replace hb12 := bthen hb11 hb12; have hr12 := B12.rd (l := [⟨false, A10, c10, E10⟩, ⟨false, A11, c11, E11⟩]) lenN rfl; have Hll := As.mk (two_limN (x := ⟨false, A10, c10, E10⟩) (y := ⟨false, A11, c11, E11⟩) hl10 hl11); have Hl2 := As.mk (two_len (x := ⟨false, A10, c10, E10⟩) (y := ⟨false, A11, c11, E11⟩) (K := 2) (by rw [HE10.out]; exact int_len (by decide)) (by rw [HE11.out]; exact int_len (by decide))))
    | (go_at_call 16; (with_reducible refine (numAddAll_any [⟨false, A10, c10, E10⟩, ⟨false, A11, c11, E11⟩] 2 rfl _ 2 w12 hr12 (Nat.le_refl _) Hll.out 2 Hl2.out (by omega) (by omega)).mono ?_); rintro e w13 ⟨v13, rfl, ht13, hb13⟩; rw [show sumZ (List.map zN [⟨false, A10, c10, E10⟩, ⟨false, A11, c11, E11⟩]) = 5 by (simp only [List.map_cons, List.map_nil, sumZ]; rw [zN_told (b := false) (z := 2) (by decide) HE10.out, zN_told (b := false) (z := 3) (by decide) HE11.out]; try rfl)] at ht13; obtain ⟨A13, c13, E13, rfl, o13, HE13, h131⟩ := told_sl ht13; replace hb13 := bthen hb12 hb13; clear ht13)
    | (go_at_call 43; (with_reducible refine (textZ [53] (HT.out.below hb13) o13 HE13.out h131 (by decide) text5).mono ?_); rintro e w14 ⟨v14, rfl, rfl, hb14⟩; replace hb14 := bthen hb13 hb14))
  go_ret
  exact ⟨_, rfl, rfl, hb14⟩
set_option maxRecDepth 8000 in
set_option maxHeartbeats 1000000 in
theorem numSums_any (L : List LN) (A : Option Addr) (c : Nat) (w : World) (htab : Tab w) (hr : Rd encN 2 w A L) (hc : L.length ≤ c) (hg : ∀ x ∈ L, LimN w x) (K : Nat) (hK : ∀ x ∈ L, x.mag.length ≤ K) (hK2 : K + 1 < 274877906944) (hm : L.length < 4294967296) :
    Calls Tryd.prog 3 #[.slice A L.length c] w (Gives w fun v _ => v = .bool true) := by
  have HA := As.mk (all_any L L.length rfl A c w hr hc hg (by omega))
  have HR := As.mk (fun w1 (hb : Below w.heap.size w w1) => rAddAll_any L L.length rfl A c w1 (hr.below hb) hc (fun x hx => (hg x hx).below hb) K hK hK2 hm)
  have hsm := (sums_sm L w hg K hK hm L.length).len
  rw [List.take_of_length_le (by simp)] at hsm
  obtain ⟨s, hs⟩ : ∃ s, s = sumZ (L.map zN) := ⟨_, rfl⟩
  rw [← hs] at hsm HR
  have Hs := As.mk hs
  have HSM := As.mk hsm
  have HK := As.mk hK
  have HT := As.mk htab
  clear htab hg hK hsm hs
  go_enter Tryd.func3, Tryd.ntmps3
  go_wp2_with (first
    | (go_at_call 17; (with_reducible refine HA.out.mono ?_); rintro e w1 ⟨v1, rfl, ⟨m, ho1, hcp⟩, hb1⟩; have Hlen := As.mk hcp.len; have Hcp := As.mk hcp; clear hcp; obtain ⟨A1, c1, rfl, h11, h12⟩ := ho1.form; have hr1 := ho1.rd lenN)
    | (go_at_call 16; (with_reducible refine (numAddAll_any m m.length rfl A1 c1 w1 hr1 h11 Hcp.out.lim K (Hcp.out.lens K HK.out) (by omega) (by rw [Hlen.out]; omega)).mono ?_); rintro e w2 ⟨v2, rfl, ht2, hb2⟩; rw [Hcp.out.zs, ← Hs.out] at ht2; have Ht2 := As.mk ht2; obtain ⟨A2, c2, E2, rfl, o2, HE2, h21⟩ := told_sl ht2; replace hb2 := bthen hb1 hb2; clear ht2)
    | (go_at_call 18; (with_reducible refine (HR.out _ hb2).mono ?_); rintro e w3 ⟨v3, rfl, ht3, hb3⟩; have Ht23 := As.mk (Ht2.out.below hb3); have Ht3 := As.mk ht3; obtain ⟨A3, c3, E3, rfl, o3, HE3, h31⟩ := told_sl ht3; replace hb3 := bthen hb2 hb3; clear ht3)
    | (go_at_call 15; (with_reducible refine (same_any s (Nat.le_trans HSM.out (by omega)) _ _ _ _ _ Ht23.out Ht3.out).mono ?_); rintro e w4 ⟨v4, rfl, rfl, hb4⟩; replace hb4 := bthen hb3 hb4)
    | (go_at_call 19; (with_reducible refine (awake02_any _ (HT.out.below hb4)).mono ?_); rintro e w5 ⟨v5, rfl, rfl, hb5⟩; replace hb5 := bthen hb4 hb5))
  go_ret
  exact ⟨_, rfl, rfl, hb5⟩
end Go.Proofs.YtigoofeodbbbhaaDoor
