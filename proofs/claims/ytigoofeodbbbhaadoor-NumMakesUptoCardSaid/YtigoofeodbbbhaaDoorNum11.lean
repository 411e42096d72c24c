/- num.Mul, tandemref02.Mul over lists; NumProducts. -/
import Derived.Test.YtigoofeodbbbhaaDoorNum10
namespace Go.Proofs.YtigoofeodbbbhaaDoor
open Go.RowKit Go.Proofs.YtigoofeodbbbhaaDoorL Go.Proofs.YtigoofeodbbbhaaDoorM
set_option linter.unusedVariables false
set_option linter.unusedSimpArgs false
def mlens (L : List LN) : Nat := lens (L.map LN.mag)
theorem prods_sm : ∀ (L : List LN) (w : World), (∀ x ∈ L, LimN w x) → (prodZ (L.map zN)).natAbs ≤ 4294967296 ^ mlens L
  | [], w, _ => by simp [prodZ, mlens, lens]
  | x :: L, w, h => by
    have h1 := prods_sm L w (fun y hy => h y (List.mem_cons_of_mem _ hy))
    have h2 := Sm.of x.neg x.mag (h x (List.mem_cons_self ..)).lt
    unfold Sm at h2
    simp only [mlens] at h1
    rw [List.map_cons, prodZ, mlens, List.map_cons, lens, Int.natAbs_mul, Nat.pow_add]
    exact Nat.mul_le_mul (Nat.le_of_lt h2) h1
theorem prods_take (L : List LN) (w : World) (hg : ∀ x ∈ L, LimN w x) (k : Nat) : (digB 4294967296 (prodZ ((L.map zN).take k)).natAbs).length ≤ mlens L + 1 := by
  refine digB_len_lt _ (by omega) _ _ ?_
  rw [← List.map_take]
  have h1 := prods_sm (L.take k) w (fun x hx => hg x (List.mem_of_mem_take hx))
  have h2 : mlens (L.take k) ≤ mlens L := by rw [mlens, mlens, List.map_take]; exact lens_take _ _
  have h3 : (4294967296 : Nat) ^ mlens (L.take k) ≤ 4294967296 ^ mlens L := Nat.pow_le_pow_right (by omega) h2
  have h4 : 0 < (4294967296 : Nat) ^ mlens L := Nat.pow_pos (by omega)
  rw [Nat.pow_succ]; omega
theorem mlens_mem {x : LN} {L : List LN} (h : x ∈ L) : x.mag.length ≤ mlens L := lens_mem (List.mem_map_of_mem (f := LN.mag) h)
set_option maxRecDepth 8000 in
set_option maxHeartbeats 2000000 in
theorem numMulAll_any (L : List LN) (n : Nat) (hn : L.length = n) (A : Option Addr) (c : Nat) (w : World) (hr : Rd encN 2 w A L) (hc : n ≤ c) (hg : ∀ x ∈ L, LimN w x) (hK : mlens L ≤ 1073741824) (hm : n < 4294967296) :
    Calls Tryd.prog 35 #[.slice A n c] w (Gives w fun v w' => Told w.heap.size w' v (prodZ (L.map zN))) := by
  subst hn
  have HSM := As.mk (fun k => Nat.le_trans (prods_take L w hg k) (show mlens L + 1 ≤ 1073741825 by omega))
  have HK := As.mk (fun (x : LN) (hx : x ∈ L) => Nat.le_trans (mlens_mem hx) hK)
  have HG := As.mk hg
  obtain ⟨s, hs⟩ : ∃ s, s = prodZ (L.map zN) := ⟨_, rfl⟩
  rw [← hs]
  have Hs := As.mk hs
  clear hg hK hs
  go_enter Tryd.func35, Tryd.ntmps35
  go_wp2_with (first
    | ((with_reducible refine g_dst 2 ?_); go_must (refine ev_alloc 2 rfl infoNum (cs := [.bool false, .slice none 0 0]) rfl ?_); intro g2 w2 hb2 B2 hg2)
    | (go_at_call 27; (with_reducible refine (numInt_any 1 _ (by omega) (by omega)).mono ?_); rintro e w21 ⟨v21, rfl, ht21, hb21⟩; obtain ⟨A0, c0, E0, rfl, o0, HE0, h01⟩ := told_sl ht21; clear ht21; replace B2 := B2.below hb21; have hb22 := bthen hb2 hb21)
    | (go_at_call 47; (with_reducible refine (numOf_any _ A0 E0.length c0 _).mono ?_); rintro e w23 ⟨v23, rfl, rfl, hb23⟩; replace o0 := o0.below hb23; replace B2 := B2.below hb23; have hb24 := bthen hb22 hb23)
    | ((with_reducible refine g_dst 3 ?_); go_must (refine ev_alloc 3 rfl infoNm (cs := [.slice none 0 0, .bool false]) rfl ?_); intro g3 w3 hb3 B3 hg3; have hlt23 : g2 < g3 := Nat.lt_of_lt_of_le B2.lt hg3; have hne : g2 ≠ g3 := Nat.ne_of_lt hlt23; replace B2 := B2.below hb3; have hq3 := hb3)
    | ((with_reducible refine g_store 3 ?_); go_must (refine ev_store rfl rfl B3 (news := [.slice A0 E0.length c0, .bool (decide ((1 : Int) < 0))]) (by rfl) infoNm (by simp) (by simp [Value.oneCell']) ?_); intro w4 ho4 B4; simp only [List.take_zero, List.nil_append, List.length_cons, List.length_nil, List.drop_succ_cons, List.drop_zero, List.append_nil, List.cons_append] at B4; replace B2 := B2.only ho4 hne; have hq4 := hq3.trans (ho4.below hg3); have hl0 : Lim w4 A0 c0 E0 := lim_int (o0.below hq4) HE0.out h01 (by decide); replace hg3 := Nat.le_trans hb24.size hg3; have hb4 := bthen hb24 hq4))
  go_loopw [10, 5] (fun v _ wr => ∃ (k : Nat) (A1 : Option Addr) (c1 : Nat) (D : List Nat) (nb : Bool), k ≤ L.length ∧ D.length ≤ 1073741826 ∧ v = .int .i64 (k : Int) ∧ As (sval nb (valB 4294967296 D) = prodZ ((L.map zN).take k)) ∧ Below w.heap.size w wr ∧ Blk wr g2 [.bool false, .slice none 0 0] 26 ∧ Blk wr g3 [.slice A1 D.length c1, .bool nb] 52 ∧ Lim wr A1 c1 D) (fun v _ _ => L.length - (intOf v).toNat)
  case atStart => exact ⟨0, A0, c0, E0, decide ((1 : Int) < 0), by omega, by rw [HE0.out]; exact Nat.le_trans (int_len (by decide)) (by omega), rfl, ⟨by rw [HE0.out, digB_val _ (by omega), sval_of]; simp [prodZ]⟩, hb4, B2, B4, hl0⟩
  case round =>
    clear B2 B3 B4 hb2 hb3 hb4 hq3 hq4 hl0 o0 hb22 hb24 hb21 hb23
    obtain ⟨k, A1, c1, D, nb, hk, hDl, rfl, hDz, hb, B2, B3, hlD⟩ := hrel
    by_cases h : k < L.length
    · obtain ⟨b, off, rfl⟩ := hr.get (ne_nil_of_lt h)
      have hcl := Rd.n (hr.below hb) k h
      have hlx := (HG.out _ (List.getElem_mem h)).below hb
      have hxl := HK.out _ (List.getElem_mem h)
      have hsum := prodZ_take_succ (L.map zN) k (by simpa using h)
      rw [List.getElem_map] at hsum
      have hsm := HSM.out (k + 1)
      obtain ⟨x, hx⟩ : ∃ x, x = L[k] := ⟨_, rfl⟩
      rw [← hx] at hcl hlx hsum hxl
      obtain ⟨xn, xA, xc, xm⟩ := x
      simp only at hcl hxl
      obtain ⟨cl0, cl1⟩ := hcl
      replace hlx : Lim wr xA xc xm := hlx
      have Hsum : As (prodZ ((L.map zN).take (k + 1)) = prodZ ((L.map zN).take k) * sval xn (valB 4294967296 xm)) := ⟨hsum⟩
      have Hsm := As.mk hsm
      clear hsum hsm hx
      go_wp2_with (first
        | ((with_reducible refine g_dst 5 ?_); go_must (refine ev_alloc 5 rfl infoNum (cs := [.bool false, .slice none 0 0]) rfl ?_); intro g5 w4 hb4 B5 hg5; have hne35 : g3 ≠ g5 := Nat.ne_of_lt (Nat.lt_of_lt_of_le B3.lt hg5); have hne25 : g2 ≠ g5 := Nat.ne_of_lt (Nat.lt_of_lt_of_le B2.lt hg5); replace B2 := B2.below hb4; replace B3 := B3.below hb4)
        | ((with_reducible refine g_store 5 ?_); go_must (refine ev_store rfl rfl B5 (news := [.bool xn, .slice xA xm.length xc]) (by rfl) infoNum (by simp) (by simp [Value.oneCell']) ?_); intro w5 ho5 B5'; simp only [List.take_zero, List.nil_append, List.length_cons, List.length_nil, List.drop_succ_cons, List.drop_zero, List.append_nil, List.cons_append] at B5'; replace B2 := B2.only ho5 hne25; replace B3 := B3.only ho5 hne35; have hb5 : Below wr.heap.size wr w5 := hb4.trans (ho5.below hg5); clear B5))
      have hd := (Below.refl w5.heap.size w5).drew
      have C3 := (B3.below hd).cells
      have C5 := (B5'.below hd).cells
      have l3 := B3.lt
      have l5 := hb.size
      refine wp_gen2 (fun Q7 hQ7 => ?_)
      go_region_with (first
        | (go_at_call 47; (with_reducible refine (numOf_any _ _ _ _ _).mono ?_); rintro e w6 ⟨v6, rfl, rfl, hb6⟩; replace hb6 := bthen hd hb6; have C36 := (B3.below hb6).cells)
        | (go_at_call 58; (with_reducible refine (numMul_any D xm nb xn A1 xA c1 xc w6 (hlD.below (bthen hb5 hb6)) (hlx.below (bthen hb5 hb6)) (by omega)).mono ?_); rintro e w7 ⟨v7, rfl, ⟨m7, nb7, N7, rfl, ho7, hz7⟩, hb7⟩; replace ho7 := ho7.lower hb6.size; replace hb7 := bthen hb6 hb7; have B37 := B3.below hb7; have C37 := B37.cells; have F37 := B37.free; have hv7 := As.mk (digB_val 4294967296 (by omega) N7); have hdl7 := As.mk (digB_lt 4294967296 (by omega) N7); have hsv7 := As.mk (show (digB 4294967296 (sval nb7 N7).natAbs).length = (digB 4294967296 N7).length from by rw [sval_abs]); generalize digB 4294967296 N7 = D7 at ho7 hv7 hdl7 hsv7; obtain ⟨A7, c7, rfl, h71, h72⟩ := ho7.form))
      all_goals
        obtain ⟨ho8, B8⟩ := set2_gen B37 (.slice A7 D7.length c7) (.bool nb7)
        generalize (w7.setCell ⟨g3, 0, none⟩ (.slice A7 D7.length c7)).setCell ⟨g3, 1, none⟩ (.bool nb7) = w8 at ho8 B8 ⊢
        replace hQ7 := hQ7
        refine NoPanic.normal ?_
        obtain ⟨rfl⟩ := hQ7
        have hzz : sval nb7 N7 = prodZ ((L.map zN).take (k + 1)) := by rw [Hsum.out, hz7, hDz.out]
        have hlen7 : D7.length ≤ 1073741825 := by
          have h1 := Hsm.out
          rw [← hzz, hsv7.out] at h1
          omega
        have Hzz : As (sval nb7 (valB 4294967296 D7) = prodZ ((L.map zN).take (k + 1))) := ⟨by rw [hv7.out]; exact hzz⟩
        have hbf : Below w.heap.size w w8 := (bthen hb (bthen hb5 hb7)).trans (ho8.below hg3)
        have B28 := (B2.below hb7).only ho8 hne
        have ho78 : Ow encU 1 62 w5.heap.size w8 (.slice A7 D7.length c7) D7 := ow_only ho7 ho8 l3 (Nat.le_refl _)
        have hl78 : Lim w8 A7 c7 D7 := ⟨ho78.rd lenU, hdl7.out, h71, ho78.none, by omega⟩
        clear hzz hz7 C3 C5
        go_wp2
        go_roundw
        case rel => exact ⟨k + 1, A7, c7, D7, nb7, by omega, by omega, by go_num, Hzz, hbf, B28, B8, hl78⟩
        case measure => simp [intOf]; omega
    · have ht : (L.map zN).take k = L.map zN := List.take_of_length_le (by simp; omega)
      have HZ : As (sval nb (valB 4294967296 D) = s) := ⟨by rw [Hs.out]; exact ht ▸ hDz.out⟩
      have C3 := B3.cells
      have HT := As.mk (told_any D nb A1 c1 wr hlD)
      rw [HZ.out] at HT
      have l2 := B2.lt
      clear ht HZ
      go_wp2_with (first
        | (go_at_call 48; (with_reducible refine HT.out.mono ?_); rintro e w4 ⟨v4, rfl, ht4, hb4⟩; obtain ⟨m, rfl, ho4, h14⟩ := told_one ht4; have B24 := B2.below hb4)
        | ((with_reducible refine g_store 2 ?_); go_must (refine ev_store rfl rfl B24 (news := [.bool (decide (s < 0)), m]) (by rfl) infoNum (by simp) h14 ?_); intro w5 ho5 B5; simp only [List.take_zero, List.nil_append, List.length_cons, List.length_nil, List.drop_succ_cons, List.drop_zero, List.append_nil, List.cons_append] at B5))
      refine bodyPost_ret (results_cell_row rfl _ _ g2 26 #[.bool (decide (s < 0)), m] (0, 0) _ rfl B5.h Tryd.underlying26 rfl (by kernel_rfl)) rfl ?_
      exact ⟨_, rfl, ⟨m, rfl, ow_only ho4 ho5 l2 hb.size⟩, (bthen hb hb4).trans (ho5.below hg2)⟩
/-- REF MUL -/
theorem CopyN.mlens {base : Nat} {w : World} {m l : List LN} (h : CopyN base w m l) : mlens m = mlens l := by
  have : m.map LN.mag = l.map LN.mag := by
    apply List.ext_getElem
    · simp [h.len]
    · intro i h1 h2
      simp only [List.length_map] at h1 h2
      simp only [List.getElem_map, (h.same i h1 h2).2]
  rw [Go.Proofs.YtigoofeodbbbhaaDoor.mlens, this]; rfl
theorem mul_told {nb xb : Bool} {P X : Int} {D E : List Nat} (hn : nb = decide (P < 0)) (hx : xb = decide (X < 0)) (hD : D = digB 4294967296 P.natAbs) (hE : E = digB 4294967296 X.natAbs) : sval (nb != xb) (valB 4294967296 D * valB 4294967296 E) = P * X := by
  rw [sval_mul, hD, hE, digB_val _ (by omega), digB_val _ (by omega), hn, hx, sval_of, sval_of]
set_option maxRecDepth 8000 in
set_option maxHeartbeats 4000000 in
theorem rMulAll_any (L : List LN) (n : Nat) (hn : L.length = n) (A : Option Addr) (c : Nat) (w : World) (hr : Rd encN 2 w A L) (hc : n ≤ c) (hg : ∀ x ∈ L, LimN w x) (hK : mlens L ≤ 1073741824) (hm : n < 4294967296) :
    Calls Tryd.prog 36 #[.slice A n c] w (Gives w fun v w' => Told w.heap.size w' v (prodZ (L.map zN))) := by
  subst hn
  have HSM := As.mk (fun k => Nat.le_trans (prods_take L w hg k) (show mlens L + 1 ≤ 1073741826 by omega))
  have HK := As.mk (fun (x : LN) (hx : x ∈ L) => Nat.le_trans (mlens_mem hx) hK)
  have HG := As.mk hg
  obtain ⟨s, hs⟩ : ∃ s, s = prodZ (L.map zN) := ⟨_, rfl⟩
  rw [← hs]
  have Hs := As.mk hs
  clear hg hK hs
  go_enter Tryd.func36, Tryd.ntmps36
  go_wp2_with (first
    | ((with_reducible refine g_dst 2 ?_); go_must (refine ev_alloc 2 rfl infoNum (cs := [.bool false, .slice none 0 0]) rfl ?_); intro g2 w2 hb2 B2 hg2; have l2w := B2.lt)
    | (go_at_call 28; (with_reducible refine (rInt_any 1 _ (by omega) (by omega)).mono ?_); rintro e w21 ⟨v21, rfl, ht21, hb21⟩; obtain ⟨A0, c0, E0, rfl, o0, HE0, h01⟩ := told_sl ht21; clear ht21; replace B2 := B2.below hb21; have hb22 := bthen hb2 hb21)
    | ((with_reducible refine g_dst 3 ?_); go_must (refine ev_alloc 3 rfl infoNum (cs := [.bool false, .slice none 0 0]) rfl ?_); intro g3 w3 hb3 B3 hg3; have hlt23 : g2 < g3 := Nat.lt_of_lt_of_le B2.lt hg3; have hne : g2 ≠ g3 := Nat.ne_of_lt hlt23; replace B2 := B2.below hb3; have hq3 := hb3)
    | ((with_reducible refine g_store 3 ?_); go_must (refine ev_store rfl rfl B3 (news := [.bool (decide ((1 : Int) < 0)), .slice A0 E0.length c0]) (by rfl) infoNum (by simp) (by simp [Value.oneCell']) ?_); intro w4 ho4 B4; simp only [List.take_zero, List.nil_append, List.length_cons, List.length_nil, List.drop_succ_cons, List.drop_zero, List.append_nil, List.cons_append] at B4; replace B2 := B2.only ho4 hne; have hq4 := hq3.trans (ho4.below hg3); have hl0 : Lim w4 A0 c0 E0 := lim_int (o0.below hq4) HE0.out h01 (by decide); have o04 := o0.below hq4; have h2g := Nat.le_trans hb21.size hg3; replace hg3 := Nat.le_trans hb22.size hg3; have hb4 := bthen hb22 hq4))
  have l2g : g2 < w2.heap.size := l2w
  go_loopw [4, 5] (fun v _ wr => ∃ (k : Nat) (A1 : Option Addr) (c1 : Nat) (D : List Nat) (nb : Bool), k ≤ L.length ∧ D.length ≤ 1073741826 ∧ v = .int .i64 (k : Int) ∧ As (D = digB 4294967296 (prodZ ((L.map zN).take k)).natAbs) ∧ As (nb = decide (prodZ ((L.map zN).take k) < 0)) ∧ Below w.heap.size w wr ∧ Blk wr g2 [.bool false, .slice none 0 0] 26 ∧ Blk wr g3 [.bool nb, .slice A1 D.length c1] 26 ∧ Lim wr A1 c1 D ∧ Ow encU 1 62 w2.heap.size wr (.slice A1 D.length c1) D) (fun v _ _ => L.length - (intOf v).toNat)
  case atStart => exact ⟨0, A0, c0, E0, decide ((1 : Int) < 0), by omega, by rw [HE0.out]; exact Nat.le_trans (int_len (by decide)) (by omega), rfl, ⟨by rw [HE0.out]; simp [prodZ]⟩, ⟨by simp [prodZ]⟩, hb4, B2, B4, hl0, o04⟩
  case round =>
    have h22 : w2.heap.size ≤ g3 := h2g
    clear B2 B3 B4 hb2 hb3 hb4 hq3 hq4 hl0 o0 o04 hb22 hb21
    obtain ⟨k, A1, c1, D, nb, hk, hDl, rfl, hD, hnb, hb, B2, B3, hlD, oD⟩ := hrel
    by_cases h : k < L.length
    · obtain ⟨b, off, rfl⟩ := hr.get (ne_nil_of_lt h)
      have hcl := Rd.n (hr.below hb) k h
      have hlx := (HG.out _ (List.getElem_mem h)).below hb
      have hxl := HK.out _ (List.getElem_mem h)
      have hsum := prodZ_take_succ (L.map zN) k (by simpa using h)
      rw [List.getElem_map] at hsum
      have hsm := HSM.out (k + 1)
      obtain ⟨x, hx⟩ : ∃ x, x = L[k] := ⟨_, rfl⟩
      rw [← hx] at hcl hlx hsum hxl
      obtain ⟨xn, xA, xc, xm⟩ := x
      simp only at hcl hxl
      obtain ⟨cl0, cl1⟩ := hcl
      replace hlx : Lim wr xA xc xm := hlx
      have hXl : (digB 4294967296 (sval xn (valB 4294967296 xm)).natAbs).length ≤ 1073741824 := Nat.le_trans (Sm.of xn xm hlx.lt).len hxl
      have hcan := canonT_any xm xn xA xc wr hlx
      obtain ⟨X, hX⟩ : ∃ X, X = sval xn (valB 4294967296 xm) := ⟨_, rfl⟩
      have hsum2 : prodZ ((L.map zN).take (k + 1)) = prodZ ((L.map zN).take k) * X := by rw [hX]; exact hsum
      rw [← hX] at hcan hXl
      obtain ⟨P, hP⟩ : ∃ P, P = prodZ ((L.map zN).take k) := ⟨_, rfl⟩
      rw [← hP] at hD hnb hsum2
      obtain ⟨Z, hZ⟩ : ∃ Z, Z = P * X := ⟨_, rfl⟩
      rw [← hZ] at hsum2
      rw [hsum2] at hsm
      have HZ : As (Z = prodZ ((L.map zN).take (k + 1))) := ⟨hsum2.symm⟩
      have hZl : (digB 4294967296 Z.natAbs).length ≤ 1073741826 := hsm
      have HPX := As.mk hZ
      have HCAN := As.mk hcan
      obtain ⟨xb, hxb⟩ : ∃ xb, xb = decide (X < 0) := ⟨_, rfl⟩
      obtain ⟨nx, hnx⟩ : ∃ nx, nx = (nb != xb) := ⟨_, rfl⟩
      have e1 : (nb != xb) = nx := hnx.symm
      have e2 : (!(nb == xb)) = nx := by rw [hnx]; rfl
      have e3 : (!decide (nb = xb)) = nx := by rw [hnx]; cases nb <;> cases xb <;> rfl
      have Hxb := As.mk hxb
      obtain ⟨F, hF⟩ : ∃ F, F = digB 4294967296 Z.natAbs := ⟨_, rfl⟩
      have hFl : F.length ≤ 274877906944 := by rw [hF]; omega
      have HF : As (∀ x ∈ F, x < 4294967296) := ⟨by rw [hF]; exact digB_lt _ (by omega) _⟩
      have HVZ : As (valB 4294967296 F = Z.natAbs) := ⟨by rw [hF]; exact digB_val _ (by omega) _⟩
      obtain ⟨E, hE⟩ : ∃ E, E = digB 4294967296 X.natAbs := ⟨_, rfl⟩
      have hEl : E.length ≤ 1073741824 := by rw [hE]; exact hXl
      have hmt := mul_told hnb.out hxb hD.out hE
      rw [← hnx, ← hZ] at hmt
      have hvv : valB 4294967296 D * valB 4294967296 E = Z.natAbs := by rw [← hmt, sval_abs]
      have HOF := As.mk (fun (W : World) A6 c6 (h6 : Lim W A6 c6 F) => ofT_any F F.length rfl nx A6 c6 W h6)
      rw [HVZ.out, show sval nx Z.natAbs = Z by rw [← hvv]; exact hmt] at HOF
      have HM := As.mk (fun (W : World) (A1 A5 : Option Addr) c1 c5 g (r : Rd encS 1 W (some ⟨g, 0, none⟩) [⟨A1, c1, D⟩, ⟨A5, c5, E⟩]) (h1 : Lim W A1 c1 D) (h5 : Lim W A5 c5 E) => rMul_any [⟨A1, c1, D⟩, ⟨A5, c5, E⟩] 2 rfl (some ⟨g, 0, none⟩) 2 W r (fun s hs => by
        simp only [List.mem_cons, List.not_mem_nil, or_false] at hs
        rcases hs with rfl | rfl
        · exact ⟨h1.rd, h1.lt, h1.cap, h1.max, h1.none⟩
        · exact ⟨h5.rd, h5.lt, h5.cap, h5.max, h5.none⟩) (Nat.le_refl _) (by omega) (by simp only [List.map_cons, List.map_nil, lens]; omega))
      simp only [List.map_cons, List.map_nil, prodV, Nat.mul_one] at HM
      rw [hvv, ← hF] at HM
      have HE := As.mk hE
      have hkc : k < c := by omega
      clear hsum hsum2 hsm hx hcan hX hP hZ hxb hnx hF hE hmt hvv hXl hlx
      go_wp2_with (first
        | (go_at_call 52; (with_reducible refine HCAN.out.mono ?_); rintro e w41 ⟨v41, rfl, ht41, hb41⟩; obtain ⟨A5, c5, E5, rfl, o5, HE5, h51⟩ := told_sl ht41; clear ht41; obtain rfl : E5 = E := (by rw [HE5.out, HE.out]); rw [← Hxb.out]; replace B2 := B2.below hb41; replace B3 := B3.below hb41; replace hlD := hlD.below hb41; have hbz1 := bthen hb hb41)
        | ((with_reducible refine g_dst 5 ?_); go_must (refine ev_alloc 5 rfl infoNum (cs := [.bool false, .slice none 0 0]) rfl ?_); intro g5 w42 hb42 B5 hg5; have hne35 : g3 ≠ g5 := Nat.ne_of_lt (Nat.lt_of_lt_of_le B3.lt hg5); have hne25 : g2 ≠ g5 := Nat.ne_of_lt (Nat.lt_of_lt_of_le B2.lt hg5))
        | ((with_reducible refine g_store 5 ?_); go_must (refine ev_store rfl rfl B5 (news := [.bool xb, .slice A5 E5.length c5]) (by rfl) infoNum (by simp) (by simp [Value.oneCell']) ?_); intro wz ho5 B5'; simp only [List.take_zero, List.nil_append, List.length_cons, List.length_nil, List.drop_succ_cons, List.drop_zero, List.append_nil, List.cons_append] at B5'; have hbz2 : Below w41.heap.size w41 wz := hb42.trans (ho5.below hg5); replace B2 := B2.below hbz2; replace B3 := B3.below hbz2; replace hlD := hlD.below hbz2; have hlE : Lim wz A5 c5 E5 := ⟨(o5.below hbz2).rd lenU, by rw [HE5.out]; exact digB_lt _ (by omega) _, h51, o5.none, by omega⟩; have hbz := bthen hbz1 hbz2; clear B5 o5))
      have B5 := B5'
      clear B5'
      have hcur := (Below.refl wz.heap.size wz).drew
      have l3 := B3.lt
      replace B2 := B2.below hcur
      replace B3 := B3.below hcur
      replace B5 := B5.below hcur
      replace hlD := hlD.below hcur
      replace hlE := hlE.below hcur
      have C3 := B3.cells
      refine wp_gen2 (fun Q7 hQ7 => ?_)
      refine wp_region_held_drew (S := fun W => Blk W g5 [.bool xb, .slice A5 E5.length c5] 26) (by kernel_rfl) B5 (fun hHeld => ?_)
      clear hHeld
      refine wpAnyH_take (i := 0) (oi := _) (v := .pointer (some ⟨g3, 0, none⟩)) rfl (by kernel_rfl) (by kernel_rfl) (by kernel_rfl) (fun _ _ _ h => h) (Or.inl ⟨by rfl, fun W hSw => by go_simp⟩) B5 ?_
      (try simp only [Act.put, List.setIfInBounds_toArray, List.set_cons_zero, List.set_cons_succ])
      refine wpAnyH_take (i := 2) (oi := _) (v := .pointer (some ⟨g5, 0, none⟩)) rfl (by kernel_rfl) (by kernel_rfl) (by kernel_rfl) (fun _ _ _ h => h) (Or.inl ⟨by rfl, fun W hSw => by go_simp⟩) B5 ?_
      (try simp only [Act.put, List.setIfInBounds_toArray, List.set_cons_zero, List.set_cons_succ])
      refine wpAnyH_take (i := 3) (oi := _) (v := .bool xb) rfl (by kernel_rfl) (by kernel_rfl) (by kernel_rfl) (fun _ _ _ h => h) (Or.inl ⟨by rfl, fun W hSw => by (have C5 := Blk.cells hSw; clear C3; go_simp)⟩) B5 ?_
      (try simp only [Act.put, List.setIfInBounds_toArray, List.set_cons_zero, List.set_cons_succ])
      refine wpAnyH_take (i := 5) (oi := _) (v := .pointer (some ⟨g3, 1, none⟩)) rfl (by kernel_rfl) (by kernel_rfl) (by kernel_rfl) (fun _ _ _ h => h) (Or.inl ⟨by rfl, fun W hSw => by go_simp⟩) B5 ?_
      (try simp only [Act.put, List.setIfInBounds_toArray, List.set_cons_zero, List.set_cons_succ])
      refine wpAnyH_take (i := 7) (oi := _) (v := .pointer (some ⟨g5, 1, none⟩)) rfl (by kernel_rfl) (by kernel_rfl) (by kernel_rfl) (fun _ _ _ h => h) (Or.inl ⟨by rfl, fun W hSw => by go_simp⟩) B5 ?_
      (try simp only [Act.put, List.setIfInBounds_toArray, List.set_cons_zero, List.set_cons_succ])
      refine wpAnyH_take (i := 8) (oi := _) (v := .slice A5 E5.length c5) rfl (by kernel_rfl) (by kernel_rfl) (by kernel_rfl) (fun _ _ _ h => h) (Or.inl ⟨by rfl, fun W hSw => by (have C5 := Blk.cells hSw; clear C3; go_simp)⟩) B5 ?_
      (try simp only [Act.put, List.setIfInBounds_toArray, List.set_cons_zero, List.set_cons_succ])
      refine wpAnyH_ready (rs := [1, 6]) (by kernel_rfl) (by simp) ?_
      refine AllReadyH.cons (o := _) rfl (fun K hK => ?_) ?_
      · go_simp
        refine hK.out _ _ B5 (fun hHeld => ?_)
        clear hK K hHeld
        (try simp only [Act.put, List.setIfInBounds_toArray, List.set_cons_zero, List.set_cons_succ])
        refine wpAnyH_take (i := 4) (oi := _) (v := .bool nx) rfl (by kernel_rfl) (by kernel_rfl) (by kernel_rfl) (fun _ _ _ h => h) (Or.inl ⟨by rfl, fun W hSw => by go_simp⟩) B5 ?_
        (try simp only [Act.put, List.setIfInBounds_toArray, List.set_cons_zero, List.set_cons_succ])
        refine wpAnyH_ready (rs := [6]) (by kernel_rfl) (by simp) ?_
        refine AllReadyH.cons (o := _) rfl (fun K hK => ?_) ?_
        · go_simp
          refine hK.out _ _ B5 (fun hHeld => ?_)
          clear hK K hHeld
          (try simp only [Act.put, List.setIfInBounds_toArray, List.set_cons_zero, List.set_cons_succ])
          refine wpAnyH_ready (rs := [9]) (by kernel_rfl) (by simp) ?_
          refine AllReadyH.cons (o := _) rfl (fun K hK => ?_) ?_
          · refine st_lit (v := fun g => .slice (some ⟨g, 0, none⟩) 2 2) 27 rfl (cs := [valS ⟨A1, c1, D⟩, valS ⟨A5, c5, E5⟩]) (t := 24) (by go_simp; rfl) ?_; intro g27 w6 hbn B27 hg27; replace B2 := B2.below hbn; replace B3 := B3.below hbn; replace B5 := B5.below hbn; clear C3; have C3 := B3.cells; replace hlD := hlD.below hbn; replace hlE := hlE.below hbn; replace hcur := bthen hcur hbn
            refine hK.out _ _ B5 (fun hHeld => ?_)
            clear hK K hHeld
            (try simp only [Act.put, List.setIfInBounds_toArray, List.set_cons_zero, List.set_cons_succ])
            refine wpAnyH_ready (rs := [10]) (by kernel_rfl) (by simp) ?_
            refine AllReadyH.cons (o := _) rfl (fun K hK => ?_) ?_
            · go_simp; refine (HM.out _ _ _ _ _ _ (B27.rdm (l := [⟨A1, c1, D⟩, ⟨A5, c5, E5⟩]) encS_one) hlD hlE).mono ?_; rintro e w6 ⟨v6, rfl, o6, hbn⟩; replace B2 := B2.below hbn; replace B3 := B3.below hbn; replace B5 := B5.below hbn; clear C3; have C3 := B3.cells; obtain ⟨A6, c6, rfl, h61, h62⟩ := o6.form; have hl6 : Lim w6 A6 c6 F := ⟨o6.rd lenU, HF.out, h61, o6.none, hFl⟩; clear o6 B27; replace hcur := bthen hcur hbn; go_wp2_with fail
              refine hK.out _ _ B5 (fun hHeld => ?_)
              clear hK K hHeld
              (try simp only [Act.put, List.setIfInBounds_toArray, List.set_cons_zero, List.set_cons_succ])
              refine wpAnyH_ready (rs := [11]) (by kernel_rfl) (by simp) ?_
              refine AllReadyH.cons (o := _) rfl (fun K hK => ?_) ?_
              · go_simp; refine (HOF.out _ _ _ hl6).mono ?_; rintro e w6 ⟨v6, rfl, ht6, hbn⟩; replace B2 := B2.below hbn; replace B3 := B3.below hbn; replace B5 := B5.below hbn; clear C3; have C3 := B3.cells; obtain ⟨A7, c7, E7, rfl, o7, HE7, h71⟩ := told_sl ht6; clear ht6 hl6; replace o7 := o7.lower hcur.size; replace hcur := bthen hcur hbn; go_wp2_with fail
                refine hK.out _ _ B5 (fun hHeld => ?_)
                clear hK K hHeld
                (try simp only [Act.put, List.setIfInBounds_toArray, List.set_cons_zero, List.set_cons_succ])
                refine wpAnyH_ready (rs := [12]) (by kernel_rfl) (by simp) ?_
                refine AllReadyH.cons (o := _) rfl (fun K hK => ?_) ?_
                · refine st_store rfl rfl B3 (news := [.bool (decide (Z < 0)), .slice A7 E7.length c7]) (by rfl) infoNum (by simp) (by simp [Value.oneCell']) ?_; intro w7 hon B8; simp only [List.take_zero, List.nil_append, List.length_cons, List.length_nil, List.drop_succ_cons, List.drop_zero, List.append_nil, List.cons_append] at B8; replace B5 := B5.only hon (Ne.symm hne35); replace B2 := B2.only hon hne; replace o7 := ow_only o7 hon l3 (Nat.le_refl _)
                  refine hK.out _ _ B5 (fun hHeld => ?_)
                  clear hK K hHeld
                  (try simp only [Act.put, List.setIfInBounds_toArray, List.set_cons_zero, List.set_cons_succ])
                  refine wpAnyH_done (by kernel_rfl) ?_ _
                  refine NoPanic.normal ?_
                  obtain ⟨rfl⟩ := hQ7
                  (go_wp2_with fail)
                  refine ⟨⟨k + 1, A7, c7, E7, decide (Z < 0), by omega, by rw [HE7.out]; exact hZl, by go_num, ⟨by rw [HE7.out, HZ.out]⟩, ⟨by rw [HZ.out]⟩, (bthen hbz hcur).trans (hon.below hg3), B2, B8, ⟨o7.rd lenU, by rw [HE7.out]; exact digB_lt _ (by omega) _, h71, o7.none, by rw [HE7.out]; exact Nat.le_trans hZl (by omega)⟩, o7.lower (by omega)⟩, by simp [intOf]; omega⟩
                exact AllReadyH.nil
              exact AllReadyH.nil
            exact AllReadyH.nil
          exact AllReadyH.nil
        exact AllReadyH.nil
      refine AllReadyH.cons (o := _) rfl (fun K hK => ?_) ?_
      · go_simp
        refine hK.out _ _ B5 (fun hHeld => ?_)
        clear hK K hHeld
        (try simp only [Act.put, List.setIfInBounds_toArray, List.set_cons_zero, List.set_cons_succ])
        refine wpAnyH_ready (rs := [1, 9]) (by kernel_rfl) (by simp) ?_
        refine AllReadyH.cons (o := _) rfl (fun K hK => ?_) ?_
        · go_simp
          refine hK.out _ _ B5 (fun hHeld => ?_)
          clear hK K hHeld
          (try simp only [Act.put, List.setIfInBounds_toArray, List.set_cons_zero, List.set_cons_succ])
          refine wpAnyH_take (i := 4) (oi := _) (v := .bool nx) rfl (by kernel_rfl) (by kernel_rfl) (by kernel_rfl) (fun _ _ _ h => h) (Or.inl ⟨by rfl, fun W hSw => by go_simp⟩) B5 ?_
          (try simp only [Act.put, List.setIfInBounds_toArray, List.set_cons_zero, List.set_cons_succ])
          refine wpAnyH_ready (rs := [9]) (by kernel_rfl) (by simp) ?_
          refine AllReadyH.cons (o := _) rfl (fun K hK => ?_) ?_
          · refine st_lit (v := fun g => .slice (some ⟨g, 0, none⟩) 2 2) 27 rfl (cs := [valS ⟨A1, c1, D⟩, valS ⟨A5, c5, E5⟩]) (t := 24) (by go_simp; rfl) ?_; intro g27 w6 hbn B27 hg27; replace B2 := B2.below hbn; replace B3 := B3.below hbn; replace B5 := B5.below hbn; clear C3; have C3 := B3.cells; replace hlD := hlD.below hbn; replace hlE := hlE.below hbn; replace hcur := bthen hcur hbn
            refine hK.out _ _ B5 (fun hHeld => ?_)
            clear hK K hHeld
            (try simp only [Act.put, List.setIfInBounds_toArray, List.set_cons_zero, List.set_cons_succ])
            refine wpAnyH_ready (rs := [10]) (by kernel_rfl) (by simp) ?_
            refine AllReadyH.cons (o := _) rfl (fun K hK => ?_) ?_
            · go_simp; refine (HM.out _ _ _ _ _ _ (B27.rdm (l := [⟨A1, c1, D⟩, ⟨A5, c5, E5⟩]) encS_one) hlD hlE).mono ?_; rintro e w6 ⟨v6, rfl, o6, hbn⟩; replace B2 := B2.below hbn; replace B3 := B3.below hbn; replace B5 := B5.below hbn; clear C3; have C3 := B3.cells; obtain ⟨A6, c6, rfl, h61, h62⟩ := o6.form; have hl6 : Lim w6 A6 c6 F := ⟨o6.rd lenU, HF.out, h61, o6.none, hFl⟩; clear o6 B27; replace hcur := bthen hcur hbn; go_wp2_with fail
              refine hK.out _ _ B5 (fun hHeld => ?_)
              clear hK K hHeld
              (try simp only [Act.put, List.setIfInBounds_toArray, List.set_cons_zero, List.set_cons_succ])
              refine wpAnyH_ready (rs := [11]) (by kernel_rfl) (by simp) ?_
              refine AllReadyH.cons (o := _) rfl (fun K hK => ?_) ?_
              · go_simp; refine (HOF.out _ _ _ hl6).mono ?_; rintro e w6 ⟨v6, rfl, ht6, hbn⟩; replace B2 := B2.below hbn; replace B3 := B3.below hbn; replace B5 := B5.below hbn; clear C3; have C3 := B3.cells; obtain ⟨A7, c7, E7, rfl, o7, HE7, h71⟩ := told_sl ht6; clear ht6 hl6; replace o7 := o7.lower hcur.size; replace hcur := bthen hcur hbn; go_wp2_with fail
                refine hK.out _ _ B5 (fun hHeld => ?_)
                clear hK K hHeld
                (try simp only [Act.put, List.setIfInBounds_toArray, List.set_cons_zero, List.set_cons_succ])
                refine wpAnyH_ready (rs := [12]) (by kernel_rfl) (by simp) ?_
                refine AllReadyH.cons (o := _) rfl (fun K hK => ?_) ?_
                · refine st_store rfl rfl B3 (news := [.bool (decide (Z < 0)), .slice A7 E7.length c7]) (by rfl) infoNum (by simp) (by simp [Value.oneCell']) ?_; intro w7 hon B8; simp only [List.take_zero, List.nil_append, List.length_cons, List.length_nil, List.drop_succ_cons, List.drop_zero, List.append_nil, List.cons_append] at B8; replace B5 := B5.only hon (Ne.symm hne35); replace B2 := B2.only hon hne; replace o7 := ow_only o7 hon l3 (Nat.le_refl _)
                  refine hK.out _ _ B5 (fun hHeld => ?_)
                  clear hK K hHeld
                  (try simp only [Act.put, List.setIfInBounds_toArray, List.set_cons_zero, List.set_cons_succ])
                  refine wpAnyH_done (by kernel_rfl) ?_ _
                  refine NoPanic.normal ?_
                  obtain ⟨rfl⟩ := hQ7
                  (go_wp2_with fail)
                  refine ⟨⟨k + 1, A7, c7, E7, decide (Z < 0), by omega, by rw [HE7.out]; exact hZl, by go_num, ⟨by rw [HE7.out, HZ.out]⟩, ⟨by rw [HZ.out]⟩, (bthen hbz hcur).trans (hon.below hg3), B2, B8, ⟨o7.rd lenU, by rw [HE7.out]; exact digB_lt _ (by omega) _, h71, o7.none, by rw [HE7.out]; exact Nat.le_trans hZl (by omega)⟩, o7.lower (by omega)⟩, by simp [intOf]; omega⟩
                exact AllReadyH.nil
              exact AllReadyH.nil
            exact AllReadyH.nil
          exact AllReadyH.nil
        refine AllReadyH.cons (o := _) rfl (fun K hK => ?_) ?_
        · refine st_lit (v := fun g => .slice (some ⟨g, 0, none⟩) 2 2) 27 rfl (cs := [valS ⟨A1, c1, D⟩, valS ⟨A5, c5, E5⟩]) (t := 24) (by go_simp; rfl) ?_; intro g27 w6 hbn B27 hg27; replace B2 := B2.below hbn; replace B3 := B3.below hbn; replace B5 := B5.below hbn; clear C3; have C3 := B3.cells; replace hlD := hlD.below hbn; replace hlE := hlE.below hbn; replace hcur := bthen hcur hbn
          refine hK.out _ _ B5 (fun hHeld => ?_)
          clear hK K hHeld
          (try simp only [Act.put, List.setIfInBounds_toArray, List.set_cons_zero, List.set_cons_succ])
          refine wpAnyH_ready (rs := [1, 10]) (by kernel_rfl) (by simp) ?_
          refine AllReadyH.cons (o := _) rfl (fun K hK => ?_) ?_
          · go_simp
            refine hK.out _ _ B5 (fun hHeld => ?_)
            clear hK K hHeld
            (try simp only [Act.put, List.setIfInBounds_toArray, List.set_cons_zero, List.set_cons_succ])
            refine wpAnyH_take (i := 4) (oi := _) (v := .bool nx) rfl (by kernel_rfl) (by kernel_rfl) (by kernel_rfl) (fun _ _ _ h => h) (Or.inl ⟨by rfl, fun W hSw => by go_simp⟩) B5 ?_
            (try simp only [Act.put, List.setIfInBounds_toArray, List.set_cons_zero, List.set_cons_succ])
            refine wpAnyH_ready (rs := [10]) (by kernel_rfl) (by simp) ?_
            refine AllReadyH.cons (o := _) rfl (fun K hK => ?_) ?_
            · go_simp; refine (HM.out _ _ _ _ _ _ (B27.rdm (l := [⟨A1, c1, D⟩, ⟨A5, c5, E5⟩]) encS_one) hlD hlE).mono ?_; rintro e w6 ⟨v6, rfl, o6, hbn⟩; replace B2 := B2.below hbn; replace B3 := B3.below hbn; replace B5 := B5.below hbn; clear C3; have C3 := B3.cells; obtain ⟨A6, c6, rfl, h61, h62⟩ := o6.form; have hl6 : Lim w6 A6 c6 F := ⟨o6.rd lenU, HF.out, h61, o6.none, hFl⟩; clear o6 B27; replace hcur := bthen hcur hbn; go_wp2_with fail
              refine hK.out _ _ B5 (fun hHeld => ?_)
              clear hK K hHeld
              (try simp only [Act.put, List.setIfInBounds_toArray, List.set_cons_zero, List.set_cons_succ])
              refine wpAnyH_ready (rs := [11]) (by kernel_rfl) (by simp) ?_
              refine AllReadyH.cons (o := _) rfl (fun K hK => ?_) ?_
              · go_simp; refine (HOF.out _ _ _ hl6).mono ?_; rintro e w6 ⟨v6, rfl, ht6, hbn⟩; replace B2 := B2.below hbn; replace B3 := B3.below hbn; replace B5 := B5.below hbn; clear C3; have C3 := B3.cells; obtain ⟨A7, c7, E7, rfl, o7, HE7, h71⟩ := told_sl ht6; clear ht6 hl6; replace o7 := o7.lower hcur.size; replace hcur := bthen hcur hbn; go_wp2_with fail
                refine hK.out _ _ B5 (fun hHeld => ?_)
                clear hK K hHeld
                (try simp only [Act.put, List.setIfInBounds_toArray, List.set_cons_zero, List.set_cons_succ])
                refine wpAnyH_ready (rs := [12]) (by kernel_rfl) (by simp) ?_
                refine AllReadyH.cons (o := _) rfl (fun K hK => ?_) ?_
                · refine st_store rfl rfl B3 (news := [.bool (decide (Z < 0)), .slice A7 E7.length c7]) (by rfl) infoNum (by simp) (by simp [Value.oneCell']) ?_; intro w7 hon B8; simp only [List.take_zero, List.nil_append, List.length_cons, List.length_nil, List.drop_succ_cons, List.drop_zero, List.append_nil, List.cons_append] at B8; replace B5 := B5.only hon (Ne.symm hne35); replace B2 := B2.only hon hne; replace o7 := ow_only o7 hon l3 (Nat.le_refl _)
                  refine hK.out _ _ B5 (fun hHeld => ?_)
                  clear hK K hHeld
                  (try simp only [Act.put, List.setIfInBounds_toArray, List.set_cons_zero, List.set_cons_succ])
                  refine wpAnyH_done (by kernel_rfl) ?_ _
                  refine NoPanic.normal ?_
                  obtain ⟨rfl⟩ := hQ7
                  (go_wp2_with fail)
                  refine ⟨⟨k + 1, A7, c7, E7, decide (Z < 0), by omega, by rw [HE7.out]; exact hZl, by go_num, ⟨by rw [HE7.out, HZ.out]⟩, ⟨by rw [HZ.out]⟩, (bthen hbz hcur).trans (hon.below hg3), B2, B8, ⟨o7.rd lenU, by rw [HE7.out]; exact digB_lt _ (by omega) _, h71, o7.none, by rw [HE7.out]; exact Nat.le_trans hZl (by omega)⟩, o7.lower (by omega)⟩, by simp [intOf]; omega⟩
                exact AllReadyH.nil
              exact AllReadyH.nil
            exact AllReadyH.nil
          refine AllReadyH.cons (o := _) rfl (fun K hK => ?_) ?_
          · go_simp; refine (HM.out _ _ _ _ _ _ (B27.rdm (l := [⟨A1, c1, D⟩, ⟨A5, c5, E5⟩]) encS_one) hlD hlE).mono ?_; rintro e w6 ⟨v6, rfl, o6, hbn⟩; replace B2 := B2.below hbn; replace B3 := B3.below hbn; replace B5 := B5.below hbn; clear C3; have C3 := B3.cells; obtain ⟨A6, c6, rfl, h61, h62⟩ := o6.form; have hl6 : Lim w6 A6 c6 F := ⟨o6.rd lenU, HF.out, h61, o6.none, hFl⟩; clear o6 B27; replace hcur := bthen hcur hbn; go_wp2_with fail
            refine hK.out _ _ B5 (fun hHeld => ?_)
            clear hK K hHeld
            (try simp only [Act.put, List.setIfInBounds_toArray, List.set_cons_zero, List.set_cons_succ])
            refine wpAnyH_ready (rs := [1]) (by kernel_rfl) (by simp) ?_
            refine AllReadyH.cons (o := _) rfl (fun K hK => ?_) ?_
            · go_simp
              refine hK.out _ _ B5 (fun hHeld => ?_)
              clear hK K hHeld
              (try simp only [Act.put, List.setIfInBounds_toArray, List.set_cons_zero, List.set_cons_succ])
              refine wpAnyH_take (i := 4) (oi := _) (v := .bool nx) rfl (by kernel_rfl) (by kernel_rfl) (by kernel_rfl) (fun _ _ _ h => h) (Or.inl ⟨by rfl, fun W hSw => by go_simp⟩) B5 ?_
              (try simp only [Act.put, List.setIfInBounds_toArray, List.set_cons_zero, List.set_cons_succ])
              refine wpAnyH_ready (rs := [11]) (by kernel_rfl) (by simp) ?_
              refine AllReadyH.cons (o := _) rfl (fun K hK => ?_) ?_
              · go_simp; refine (HOF.out _ _ _ hl6).mono ?_; rintro e w6 ⟨v6, rfl, ht6, hbn⟩; replace B2 := B2.below hbn; replace B3 := B3.below hbn; replace B5 := B5.below hbn; clear C3; have C3 := B3.cells; obtain ⟨A7, c7, E7, rfl, o7, HE7, h71⟩ := told_sl ht6; clear ht6 hl6; replace o7 := o7.lower hcur.size; replace hcur := bthen hcur hbn; go_wp2_with fail
                refine hK.out _ _ B5 (fun hHeld => ?_)
                clear hK K hHeld
                (try simp only [Act.put, List.setIfInBounds_toArray, List.set_cons_zero, List.set_cons_succ])
                refine wpAnyH_ready (rs := [12]) (by kernel_rfl) (by simp) ?_
                refine AllReadyH.cons (o := _) rfl (fun K hK => ?_) ?_
                · refine st_store rfl rfl B3 (news := [.bool (decide (Z < 0)), .slice A7 E7.length c7]) (by rfl) infoNum (by simp) (by simp [Value.oneCell']) ?_; intro w7 hon B8; simp only [List.take_zero, List.nil_append, List.length_cons, List.length_nil, List.drop_succ_cons, List.drop_zero, List.append_nil, List.cons_append] at B8; replace B5 := B5.only hon (Ne.symm hne35); replace B2 := B2.only hon hne; replace o7 := ow_only o7 hon l3 (Nat.le_refl _)
                  refine hK.out _ _ B5 (fun hHeld => ?_)
                  clear hK K hHeld
                  (try simp only [Act.put, List.setIfInBounds_toArray, List.set_cons_zero, List.set_cons_succ])
                  refine wpAnyH_done (by kernel_rfl) ?_ _
                  refine NoPanic.normal ?_
                  obtain ⟨rfl⟩ := hQ7
                  (go_wp2_with fail)
                  refine ⟨⟨k + 1, A7, c7, E7, decide (Z < 0), by omega, by rw [HE7.out]; exact hZl, by go_num, ⟨by rw [HE7.out, HZ.out]⟩, ⟨by rw [HZ.out]⟩, (bthen hbz hcur).trans (hon.below hg3), B2, B8, ⟨o7.rd lenU, by rw [HE7.out]; exact digB_lt _ (by omega) _, h71, o7.none, by rw [HE7.out]; exact Nat.le_trans hZl (by omega)⟩, o7.lower (by omega)⟩, by simp [intOf]; omega⟩
                exact AllReadyH.nil
              exact AllReadyH.nil
            exact AllReadyH.nil
          exact AllReadyH.nil
        exact AllReadyH.nil
      exact AllReadyH.nil
    · have ht : (L.map zN).take k = L.map zN := List.take_of_length_le (by simp; omega)
      have HD : As (D = digB 4294967296 s.natAbs) := ⟨by rw [Hs.out]; exact ht ▸ hD.out⟩
      have HN : As (nb = decide (s < 0)) := ⟨by rw [Hs.out]; exact ht ▸ hnb.out⟩
      have C3 := B3.cells
      clear ht
      go_wp2_with ((with_reducible refine g_store 2 ?_); go_must (refine ev_store rfl rfl B2 (news := [.bool nb, .slice A1 D.length c1]) (by rfl) infoNum (by simp) (by simp [Value.oneCell']) ?_); intro w5 ho5 B5; simp only [List.take_zero, List.nil_append, List.length_cons, List.length_nil, List.drop_succ_cons, List.drop_zero, List.append_nil, List.cons_append] at B5)
      refine bodyPost_ret (results_cell_row rfl _ _ g2 26 #[.bool nb, .slice A1 D.length c1] (0, 0) _ rfl B5.h Tryd.underlying26 rfl (by kernel_rfl)) rfl ?_
      refine ⟨_, rfl, ⟨.slice A1 D.length c1, by rw [HN.out], ?_⟩, hb.trans (ho5.below hg2)⟩
      rw [← HD.out]
      exact ow_only oD ho5 l2g (by omega)
set_option maxRecDepth 8000 in
set_option maxHeartbeats 1000000 in
theorem numProducts_any (L : List LN) (A : Option Addr) (c : Nat) (w : World) (htab : Tab w) (hr : Rd encN 2 w A L) (hc : L.length ≤ c) (hg : ∀ x ∈ L, LimN w x) (hK : lens (L.map LN.mag) ≤ 1073741824) (hm : L.length < 4294967296) :
    Calls Tryd.prog 7 #[.slice A L.length c] w (Gives w fun v _ => v = .bool true) := by
  have HA := As.mk (all_any L L.length rfl A c w hr hc hg (by omega))
  have HR := As.mk (fun w1 (hb : Below w.heap.size w w1) => rMulAll_any L L.length rfl A c w1 (hr.below hb) hc (fun x hx => (hg x hx).below hb) hK hm)
  have hsm := prods_take L w hg L.length
  rw [List.take_of_length_le (by simp)] at hsm
  have hsm2 : (digB 4294967296 (prodZ (L.map zN)).natAbs).length ≤ 274877906944 := by have : mlens L ≤ 1073741824 := hK; omega
  obtain ⟨s, hs⟩ : ∃ s, s = prodZ (L.map zN) := ⟨_, rfl⟩
  rw [← hs] at hsm2 HR
  have Hs := As.mk hs
  have HSM := As.mk hsm2
  have HK := As.mk hK
  have HT := As.mk htab
  clear htab hg hK hsm hsm2 hs
  go_enter Tryd.func7, Tryd.ntmps7
  go_wp2_with (first
    | (go_at_call 17; (with_reducible refine HA.out.mono ?_); rintro e w1 ⟨v1, rfl, ⟨m, ho1, hcp⟩, hb1⟩; have Hlen := As.mk hcp.len; have Hcp := As.mk hcp; clear hcp; obtain ⟨A1, c1, rfl, h11, h12⟩ := ho1.form; have hr1 := ho1.rd lenN; have HK2 := As.mk (show Go.Proofs.YtigoofeodbbbhaaDoor.mlens m ≤ 1073741824 by rw [Hcp.out.mlens]; exact HK.out))
    | (go_at_call 35; (with_reducible refine (numMulAll_any m m.length rfl A1 c1 w1 hr1 h11 Hcp.out.lim HK2.out (by rw [Hlen.out]; omega)).mono ?_); rintro e w2 ⟨v2, rfl, ht2, hb2⟩; rw [Hcp.out.zs, ← Hs.out] at ht2; have Ht2 := As.mk ht2; obtain ⟨A2, c2, E2, rfl, o2, HE2, h21⟩ := told_sl ht2; replace hb2 := bthen hb1 hb2; clear ht2)
    | (go_at_call 36; (with_reducible refine (HR.out _ hb2).mono ?_); rintro e w3 ⟨v3, rfl, ht3, hb3⟩; have Ht23 := As.mk (Ht2.out.below hb3); have Ht3 := As.mk ht3; obtain ⟨A3, c3, E3, rfl, o3, HE3, h31⟩ := told_sl ht3; replace hb3 := bthen hb2 hb3; clear ht3)
    | (go_at_call 15; (with_reducible refine (same_any s HSM.out _ _ _ _ _ Ht23.out Ht3.out).mono ?_); rintro e w4 ⟨v4, rfl, rfl, hb4⟩; replace hb4 := bthen hb3 hb4)
    | (go_at_call 19; (with_reducible refine (awake02_any _ (HT.out.below hb4)).mono ?_); rintro e w5 ⟨v5, rfl, rfl, hb5⟩; replace hb5 := bthen hb4 hb5))
  go_ret
  exact ⟨_, rfl, rfl, hb5⟩
end Go.Proofs.YtigoofeodbbbhaaDoor
