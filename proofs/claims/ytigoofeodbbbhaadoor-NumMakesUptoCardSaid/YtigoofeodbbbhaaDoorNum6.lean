/- Lists of numbers: num.Add, tandemref02.Add. -/
import Derived.Test.YtigoofeodbbbhaaDoorNum5
import Derived.Deep.RegionWith
namespace Go.Proofs.YtigoofeodbbbhaaDoor
open Go.RowKit Go.Proofs.YtigoofeodbbbhaaDoorL Go.Proofs.YtigoofeodbbbhaaDoorM
set_option linter.unusedVariables false
set_option linter.unusedSimpArgs false
/-- a number in memory -/
structure LN where
  neg : Bool
  A : Option Addr
  c : Nat
  mag : List Nat
def encN (x : LN) : List Value := [.bool x.neg, .slice x.A x.mag.length x.c]
theorem lenN : ∀ x, (encN x).length = 2 := fun _ => rfl
theorem oneN : ∀ x, ∀ u ∈ encN x, u.oneCell' = true := fun x => by simp [encN, Value.oneCell']
def zN (x : LN) : Int := sval x.neg (valB 4294967296 x.mag)
def LimN (w : World) (x : LN) : Prop := Lim w x.A x.c x.mag
theorem LimN.below {w w1 : World} {x : LN} (h : LimN w x) (hb : Below w.heap.size w w1) : LimN w1 x := Lim.below h hb
theorem sums_sm (L : List LN) (w : World) (hg : ∀ x ∈ L, LimN w x) (K : Nat) (hK : ∀ x ∈ L, x.mag.length ≤ K) (hm : L.length < 4294967296) (k : Nat) : Sm (K + 1) (sumZ ((L.map zN).take k)) := by
  have h1 := sumZ_abs (4294967296 ^ K) ((L.map zN).take k) (fun z hz => by
    obtain ⟨x, hx, rfl⟩ := List.mem_map.1 (List.mem_of_mem_take hz)
    exact (Sm.of x.neg x.mag (hg x hx).lt).mono (hK x hx))
  unfold Sm
  have h2 : ((L.map zN).take k).length ≤ L.length := by rw [List.length_take, List.length_map]; omega
  have h3 : ((L.map zN).take k).length * 4294967296 ^ K ≤ L.length * 4294967296 ^ K := Nat.mul_le_mul_right _ h2
  have hp : 0 < (4294967296 : Nat) ^ K := Nat.pow_pos (by omega)
  have h4 : L.length * 4294967296 ^ K < 4294967296 * 4294967296 ^ K := Nat.mul_lt_mul_of_pos_right hm hp
  rw [Nat.pow_succ, Nat.mul_comm (4294967296 ^ K)]
  omega
theorem Rd.n {w : World} {b off : Nat} {l : List LN} (f : Rd encN 2 w (some ⟨b, off, none⟩) l) (i : Nat) (hi : i < l.length) : w.cell? ⟨b, off + i * 2, none⟩ = some (.bool l[i].neg) ∧ w.cell? ⟨b, off + i * 2 + 1, none⟩ = some (.slice l[i].A l[i].mag.length l[i].c) :=
  ⟨by simpa using f.cell i hi 0 _ rfl, by simpa using f.cell i hi 1 _ rfl⟩
set_option maxRecDepth 8000 in
set_option maxHeartbeats 1000000 in
theorem numAddAll_any (L : List LN) (n : Nat) (hn : L.length = n) (A : Option Addr) (c : Nat) (w : World) (hr : Rd encN 2 w A L) (hc : n ≤ c) (hg : ∀ x ∈ L, LimN w x) (K : Nat) (hK : ∀ x ∈ L, x.mag.length ≤ K) (hK2 : K + 1 ≤ 274877906944) (hm : n < 4294967296) :
    Calls Tryd.prog 16 #[.slice A n c] w (Gives w fun v w' => Told w.heap.size w' v (sumZ (L.map zN))) := by
  subst hn
  have HSM := As.mk (sums_sm L w hg K hK hm)
  have HG := As.mk hg
  obtain ⟨s, hs⟩ : ∃ s, s = sumZ (L.map zN) := ⟨_, rfl⟩
  rw [← hs]
  have Hs := As.mk hs
  clear hg hK hs
  go_enter Tryd.func16, Tryd.ntmps16
  go_wp2_with (first
    | ((with_reducible refine g_dst 2 ?_); go_must (refine ev_alloc 2 rfl infoNum (cs := [.bool false, .slice none 0 0]) rfl ?_); intro g2 w2 hb2 B2 hg2)
    | ((with_reducible refine g_dst 3 ?_); go_must (refine ev_alloc 3 rfl infoNm (cs := [.slice none 0 0, .bool false]) rfl ?_); intro g3 w3 hb3 B3 hg3; have hne : g2 ≠ g3 := Nat.ne_of_lt (Nat.lt_of_lt_of_le B2.lt hg3); replace B2 := B2.below hb3; replace hg3 := Nat.le_trans hb2.size hg3; replace hb3 := bthen hb2 hb3)
    | ((with_reducible refine g_store 3 ?_); go_must (refine ev_store rfl rfl B3 (news := [.slice none 0 0, .bool false]) (by rfl) infoNm (by simp) (by simp [Value.oneCell']) ?_); intro w4 ho4 B4; simp only [List.take_zero, List.nil_append, List.length_cons, List.length_nil, List.drop_succ_cons, List.drop_zero, List.append_nil, List.cons_append] at B4; replace B2 := B2.only ho4 hne; have hb4 := hb3.trans (ho4.below hg3)))
  go_loopw [9, 5] (fun v _ wr => ∃ (k : Nat) (A1 : Option Addr) (c1 : Nat) (D : List Nat) (nb : Bool), k ≤ L.length ∧ D.length ≤ 274877906944 ∧ D.length ≤ c1 ∧ v = .int .i64 (k : Int) ∧ As (∀ x ∈ D, x < 4294967296) ∧ As (sval nb (valB 4294967296 D) = sumZ ((L.map zN).take k)) ∧ Below w.heap.size w wr ∧ Blk wr g2 [.bool false, .slice none 0 0] 26 ∧ Blk wr g3 [.slice A1 D.length c1, .bool nb] 52 ∧ Ow encU 1 62 (g3 + 1) wr (.slice A1 D.length c1) D) (fun v _ _ => L.length - (intOf v).toNat)
  case atStart => exact ⟨0, none, 0, [], false, by omega, by simp, Nat.le_refl _, rfl, ⟨fun x hx => (nomatch hx)⟩, ⟨by simp [sumZ, valB, sval]⟩, hb4, B2, B4, Ow.nil _ _ _ _ _⟩
  case round =>
    clear B2 B3 B4 hb2 hb3 hb4
    obtain ⟨k, A1, c1, D, nb, hk, hDl, hDc, rfl, hDd, hDz, hb, B2, B3, ho⟩ := hrel
    have hlD : Lim wr A1 c1 D := ⟨ho.rd lenU, hDd.out, hDc, ho.none, hDl⟩
    by_cases h : k < L.length
    · obtain ⟨b, off, rfl⟩ := hr.get (ne_nil_of_lt h)
      have hcl := Rd.n (hr.below hb) k h
      have hlx := (HG.out _ (List.getElem_mem h)).below hb
      have hsum := sumZ_take_succ (L.map zN) k (by simpa using h)
      rw [List.getElem_map] at hsum
      have hsm := HSM.out (k + 1)
      obtain ⟨x, hx⟩ : ∃ x, x = L[k] := ⟨_, rfl⟩
      rw [← hx] at hcl hlx hsum
      obtain ⟨xn, xA, xc, xm⟩ := x
      simp only at hcl
      obtain ⟨cl0, cl1⟩ := hcl
      replace hlx : Lim wr xA xc xm := hlx
      have Hsum : As (sumZ ((L.map zN).take (k + 1)) = sumZ ((L.map zN).take k) + sval xn (valB 4294967296 xm)) := ⟨hsum⟩
      have Hsm := As.mk hsm
      clear hsum hsm hx ho
      go_wp2_with (first
        | ((with_reducible refine g_dst 5 ?_); go_must (refine ev_alloc 5 rfl infoNum (cs := [.bool false, .slice none 0 0]) rfl ?_); intro g5 w4 hb4 B5 hg5; have hne35 : g3 ≠ g5 := Nat.ne_of_lt (Nat.lt_of_lt_of_le B3.lt hg5); have hne25 : g2 ≠ g5 := Nat.ne_of_lt (Nat.lt_of_lt_of_le B2.lt hg5); replace B2 := B2.below hb4; replace B3 := B3.below hb4)
        | ((with_reducible refine g_store 5 ?_); go_must (refine ev_store rfl rfl B5 (news := [.bool xn, .slice xA xm.length xc]) (by rfl) infoNum (by simp) (by simp [Value.oneCell']) ?_); intro w5 ho5 B5'; simp only [List.take_zero, List.nil_append, List.length_cons, List.length_nil, List.drop_succ_cons, List.drop_zero, List.append_nil, List.cons_append] at B5'; replace B2 := B2.only ho5 hne25; replace B3 := B3.only ho5 hne35; have hb5 : Below wr.heap.size wr w5 := hb4.trans (ho5.below hg5); clear B5))
      have hd := (Below.refl w5.heap.size w5).drew
      have C3 := (B3.below hd).cells
      have C5 := (B5'.below hd).cells
      have l3 := B3.lt
      have l5 := hb.size
      refine wp_gen2 (fun Q7 hQ7 => ?_)
      go_region_with (first
        | (go_at_call 47; (with_reducible refine (numOf_any _ _ _ _ _).mono ?_); rintro e w6 ⟨v6, rfl, rfl, hb6⟩; replace hb6 := bthen hd hb6; have C36 := (B3.below hb6).cells)
        | (go_at_call 46; (with_reducible refine (numAdd_any D xm nb xn A1 xA c1 xc w6 (hlD.below (bthen hb5 hb6)) (hlx.below (bthen hb5 hb6))).mono ?_); rintro e w7 ⟨v7, rfl, ⟨m7, nb7, N7, rfl, ho7, hz7⟩, hb7⟩; replace ho7 := ho7.lower hb6.size; replace hb7 := bthen hb6 hb7; have B37 := B3.below hb7; have C37 := B37.cells; have F37 := B37.free; have hv7 := As.mk (digB_val 4294967296 (by omega) N7); have hdl7 := As.mk (digB_lt 4294967296 (by omega) N7); have hsv7 := As.mk (show (digB 4294967296 (sval nb7 N7).natAbs).length = (digB 4294967296 N7).length from by rw [sval_abs]); generalize digB 4294967296 N7 = D7 at ho7 hv7 hdl7 hsv7; obtain ⟨A7, c7, rfl, h71, h72⟩ := ho7.form))
      all_goals
        obtain ⟨ho8, B8⟩ := set2_gen B37 (.slice A7 D7.length c7) (.bool nb7)
        generalize (w7.setCell ⟨g3, 0, none⟩ (.slice A7 D7.length c7)).setCell ⟨g3, 1, none⟩ (.bool nb7) = w8 at ho8 B8 ⊢
        replace hQ7 := hQ7
        refine NoPanic.normal ?_
        obtain ⟨rfl⟩ := hQ7
        have hzz : sval nb7 N7 = sumZ ((L.map zN).take (k + 1)) := by rw [Hsum.out, hz7, hDz.out]
        have hlen7 : D7.length ≤ 274877906944 := by
          have h1 := Hsm.out.len
          rw [← hzz, hsv7.out] at h1
          omega
        have Hzz : As (sval nb7 (valB 4294967296 D7) = sumZ ((L.map zN).take (k + 1))) := ⟨by rw [hv7.out]; exact hzz⟩
        have hbf : Below w.heap.size w w8 := (bthen hb (bthen hb5 hb7)).trans (ho8.below hg3)
        have B28 := (B2.below hb7).only ho8 hne
        have ho78 : Ow encU 1 62 (g3 + 1) w8 (.slice A7 D7.length c7) D7 := ow_only ho7 ho8 l3 l3
        clear hzz hz7 C3 C5
        go_wp2
        go_roundw
        case rel => exact ⟨k + 1, A7, c7, D7, nb7, by omega, hlen7, h71, by go_num, hdl7, Hzz, hbf, B28, B8, ho78⟩
        case measure => simp [intOf]; omega
    · have ht : (L.map zN).take k = L.map zN := List.take_of_length_le (by simp; omega)
      have HZ : As (sval nb (valB 4294967296 D) = s) := ⟨by rw [Hs.out]; exact ht ▸ hDz.out⟩
      have C3 := B3.cells
      have HT := As.mk (told_any D nb A1 c1 wr hlD)
      rw [HZ.out] at HT
      have l2 := B2.lt
      clear ht HZ
      go_wp2_with (first
        | (go_at_call 48; (with_reducible refine HT.out.mono ?_); rintro e w4 ⟨v4, rfl, ht4, hb4⟩; obtain ⟨m, rfl, ho4, h14⟩ := told_one ht4; have B24 := B2.below hb4)
        | ((with_reducible refine g_store 2 ?_); go_must (refine ev_store rfl rfl B24 (news := [.bool (decide (s < 0)), m]) (by rfl) infoNum (by simp) h14 ?_); intro w5 ho5 B5; simp only [List.take_zero, List.nil_append, List.length_cons, List.length_nil, List.drop_succ_cons, List.drop_zero, List.append_nil, List.cons_append] at B5))
      refine bodyPost_ret (results_cell_row rfl _ _ g2 26 #[.bool (decide (s < 0)), m] (0, 0) _ rfl B5.h Tryd.underlying26 rfl (by kernel_rfl)) rfl ?_
      exact ⟨_, rfl, ⟨m, rfl, ow_only ho4 ho5 l2 hb.size⟩, (bthen hb hb4).trans (ho5.below hg2)⟩
set_option maxRecDepth 8000 in
set_option maxHeartbeats 1000000 in
theorem rAddAll_any (L : List LN) (n : Nat) (hn : L.length = n) (A : Option Addr) (c : Nat) (w : World) (hr : Rd encN 2 w A L) (hc : n ≤ c) (hg : ∀ x ∈ L, LimN w x) (K : Nat) (hK : ∀ x ∈ L, x.mag.length ≤ K) (hK2 : K + 1 < 274877906944) (hm : n < 4294967296) :
    Calls Tryd.prog 18 #[.slice A n c] w (Gives w fun v w' => Told w.heap.size w' v (sumZ (L.map zN))) := by
  subst hn
  have HSM := As.mk (sums_sm L w hg K hK hm)
  have HK := As.mk hK
  have HG := As.mk hg
  obtain ⟨s, hs⟩ : ∃ s, s = sumZ (L.map zN) := ⟨_, rfl⟩
  rw [← hs]
  have Hs := As.mk hs
  clear hg hK hs
  go_enter Tryd.func18, Tryd.ntmps18
  go_wp2_with (first
    | ((with_reducible refine g_dst 2 ?_); go_must (refine ev_alloc 2 rfl infoNum (cs := [.bool false, .slice none 0 0]) rfl ?_); intro g2 w2 hb2 B2 hg2)
    | ((with_reducible refine g_dst 3 ?_); go_must (refine ev_alloc 3 rfl infoNum (cs := [.bool false, .slice none 0 0]) rfl ?_); intro g3 w3 hb3 B3 hg3; have hlt23 : g2 < g3 := Nat.lt_of_lt_of_le B2.lt hg3; have hne : g2 ≠ g3 := Nat.ne_of_lt (Nat.lt_of_lt_of_le B2.lt hg3); replace B2 := B2.below hb3; replace hg3 := Nat.le_trans hb2.size hg3; replace hb3 := bthen hb2 hb3))
  go_loopw [4] (fun v wr => ∃ (k : Nat) (A1 : Option Addr) (c1 : Nat) (D : List Nat) (nb : Bool), k ≤ L.length ∧ D.length < 274877906944 ∧ D.length ≤ c1 ∧ v = .int .i64 (k : Int) ∧ As (D = digB 4294967296 (sumZ ((L.map zN).take k)).natAbs) ∧ As (nb = decide (sumZ ((L.map zN).take k) < 0)) ∧ Below w.heap.size w wr ∧ Blk wr g2 [.bool false, .slice none 0 0] 26 ∧ Blk wr g3 [.bool nb, .slice A1 D.length c1] 26 ∧ Ow encU 1 62 (g3 + 1) wr (.slice A1 D.length c1) D) (fun v _ => L.length - (intOf v).toNat)
  case atStart => exact ⟨0, none, 0, [], false, by omega, by simp, Nat.le_refl _, rfl, ⟨by simp [sumZ, digB_zero]⟩, ⟨by simp [sumZ]⟩, hb3, B2, B3, Ow.nil _ _ _ _ _⟩
  case round =>
    clear B2 B3 hb2 hb3
    obtain ⟨k, A1, c1, D, nb, hk, hDl, hDc, rfl, hD, hnb, hb, B2, B3, ho⟩ := hrel
    have hDd : As (∀ x ∈ D, x < 4294967296) := ⟨by rw [hD.out]; exact digB_lt _ (by omega) _⟩
    have hlD : Lim wr A1 c1 D := ⟨ho.rd lenU, hDd.out, hDc, ho.none, Nat.le_of_lt hDl⟩
    by_cases h : k < L.length
    · obtain ⟨b, off, rfl⟩ := hr.get (ne_nil_of_lt h)
      have hlx := (HG.out _ (List.getElem_mem h)).below hb
      have hxl := HK.out _ (List.getElem_mem h)
      have hsum := sumZ_take_succ (L.map zN) k (by simpa using h)
      rw [List.getElem_map] at hsum
      have hsm := As.mk (HSM.out (k + 1))
      obtain ⟨x, hx⟩ : ∃ x, x = L[k] := ⟨_, rfl⟩
      have hcl := fun W (hb : Below w.heap.size w W) => Rd.n (hr.below hb) k h
      simp only [← hx] at hcl
      rw [← hx] at hlx hsum hxl
      obtain ⟨xn, xA, xc, xm⟩ := x
      simp only at hcl hxl
      replace hlx : Lim wr xA xc xm := hlx
      have Hcl := As.mk hcl
      obtain ⟨S, hS⟩ : ∃ S, S = sumZ ((L.map zN).take (k + 1)) := ⟨_, rfl⟩
      have HS := As.mk hS
      have hplus := fun (W : World) (h1 : Lim W A1 c1 D) (h2 : Lim W xA xc xm) => plus_any D xm nb xn A1 xA c1 xc W h1 h2 hDl (by omega)
      rw [show sval nb (valB 4294967296 D) + sval xn (valB 4294967296 xm) = S by rw [hS, hsum, hD.out, hnb.out, digB_val _ (by omega), sval_of]; rfl] at hplus
      have HP := As.mk hplus
      have hkc : k < c := by omega
      clear hsum hx hcl hplus hS
      have hd := (Below.refl wr.heap.size wr).drew
      obtain ⟨cl0, cl1⟩ := Hcl.out _ (bthen hb hd)
      have C3 := (B3.below hd).cells
      have l3 := B3.lt
      go_wp2
      refine wp_gen2 (fun Q7 hQ7 => ?_)
      go_region_with (first
        | (go_at_call 49; (with_reducible refine (HP.out _ (hlD.below hd) (hlx.below hd)).mono ?_); rintro e w7 ⟨v7, rfl, ht7, hb7⟩; obtain ⟨A7, c7, E, rfl, ho7, HE, h71⟩ := told_sl ht7; replace ho7 := ho7.lower l3; replace hb7 := bthen hd hb7; have B37 := B3.below hb7; have C37 := B37.cells; have F37 := B37.free))
      all_goals
        obtain ⟨ho8, B8⟩ := set2_gen B37 (.bool (decide (S < 0))) (.slice A7 E.length c7)
        generalize (w7.setCell ⟨g3, 0, none⟩ (.bool (decide (S < 0)))).setCell ⟨g3, 1, none⟩ (.slice A7 E.length c7) = w8 at ho8 B8 ⊢
        replace hQ7 := hQ7
        refine NoPanic.normal ?_
        obtain ⟨rfl⟩ := hQ7
        have hlen7 : E.length < 274877906944 := by
          have h1 := hsm.out.len
          rw [← HS.out, ← HE.out] at h1
          omega
        have hbf : Below w.heap.size w w8 := (bthen hb hb7).trans (ho8.below hg3)
        have B28 := (B2.below hb7).only ho8 hne
        have ho78 : Ow encU 1 62 (g3 + 1) w8 (.slice A7 E.length c7) E := ow_only ho7 ho8 (Nat.lt_succ_self _) (Nat.le_refl _)
        obtain ⟨nb8, hnb8⟩ : ∃ nb8, nb8 = decide (S < 0) := ⟨_, rfl⟩
        rw [← hnb8] at B8
        have Hnb8 : As (nb8 = decide (sumZ ((L.map zN).take (k + 1)) < 0)) := ⟨by rw [hnb8, HS.out]⟩
        have HE8 : As (E = digB 4294967296 (sumZ ((L.map zN).take (k + 1))).natAbs) := ⟨by rw [HE.out, HS.out]⟩
        clear C3 hnb8
        go_wp2
        go_roundw
        case rel => exact ⟨k + 1, A7, c7, E, nb8, by omega, hlen7, h71, by go_num, HE8, Hnb8, hbf, B28, B8, ho78⟩
        case measure => simp [intOf]; omega
    · have ht : (L.map zN).take k = L.map zN := List.take_of_length_le (by simp; omega)
      have HD : As (D = digB 4294967296 s.natAbs) := ⟨by rw [Hs.out]; exact ht ▸ hD.out⟩
      have HN : As (nb = decide (s < 0)) := ⟨by rw [Hs.out]; exact ht ▸ hnb.out⟩
      have C3 := B3.cells
      have l2 := B2.lt
      have l3 := B3.lt
      clear ht
      go_wp2_with ((with_reducible refine g_store 2 ?_); go_must (refine ev_store rfl rfl B2 (news := [.bool nb, .slice A1 D.length c1]) (by rfl) infoNum (by simp) (by simp [Value.oneCell']) ?_); intro w5 ho5 B5; simp only [List.take_zero, List.nil_append, List.length_cons, List.length_nil, List.drop_succ_cons, List.drop_zero, List.append_nil, List.cons_append] at B5)
      refine bodyPost_ret (results_cell_row rfl _ _ g2 26 #[.bool nb, .slice A1 D.length c1] (0, 0) _ rfl B5.h Tryd.underlying26 rfl (by kernel_rfl)) rfl ?_
      refine ⟨_, rfl, ⟨.slice A1 D.length c1, by rw [HN.out], ?_⟩, hb.trans (ho5.below hg2)⟩
      rw [← HD.out]
      exact ow_only ho ho5 (by omega) (by omega)
end Go.Proofs.YtigoofeodbbbhaaDoor
