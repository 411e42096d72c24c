/- NumSmalls. -/
import Derived.Test.YtigoofeodbbbhaaDoorNum14
import Derived.Test.YtigoofeodbbbhaaDoorNum10
namespace Go.Proofs.YtigoofeodbbbhaaDoor
open Go.RowKit Go.Proofs.YtigoofeodbbbhaaDoorL Go.Proofs.YtigoofeodbbbhaaDoorM
set_option linter.unusedVariables false
set_option linter.unusedSimpArgs false
set_option maxRecDepth 16000 in
set_option maxHeartbeats 4000000 in
theorem numSmalls_any (v : Int) (x y : LN) (w : World) (htab : Tab w) (hv : -9223372036854775808 ≤ v ∧ v ≤ 9223372036854775807) (hx : LimN w x) (hy : LimN w y) (hxy : x.mag.length + y.mag.length ≤ 1073741824) :
    Calls Tryd.prog 5 #[.int .i64 v, .agg (encN x).toArray, .agg (encN y).toArray] w (Gives w fun r _ => r = .bool true) := by
  obtain ⟨n1, A, c, l⟩ := x
  obtain ⟨n2, A2, c2, m⟩ := y
  simp only [encN]
  replace hx : Lim w A c l := hx
  replace hy : Lim w A2 c2 m := hy
  replace hxy : l.length + m.length ≤ 1073741824 := hxy
  have Hx := As.mk hx
  have Hy := As.mk hy
  have HT := As.mk htab
  have hl : l.length ≤ 1073741824 := by omega
  have hm : m.length ≤ 1073741824 := by omega
  have HS1 := As.mk (fun W A c (h : Lim W A c l) => numSmall_any l n1 A c W h)
  have HS2 := As.mk (fun W A c (h : Lim W A c l) => rSmall_any l n1 A c W h)
  have HSub := As.mk (fun W A c A2 c2 (h : Lim W A c l) (h2 : Lim W A2 c2 m) => numSub_any l m n1 n2 A A2 c c2 W h h2 (by omega) (by omega))
  have HrSub := As.mk (fun W A c A2 c2 (h : Lim W A c l) (h2 : Lim W A2 c2 m) => rSub2_any l m n1 n2 A A2 c c2 W h h2 (by omega) (by omega))
  have HNeg := As.mk (fun W A c (h : Lim W A c l) => numNeg_any l n1 A c W h)
  have HrNeg := As.mk (fun W A c (h : Lim W A c l) => rNeg_any l n1 A c W h)
  have HCmp := As.mk (fun W A c A2 c2 (h : Lim W A c l) (h2 : Lim W A2 c2 m) => numCmp_any l m n1 n2 A A2 c c2 W h h2 (by omega) (by omega))
  have HrCmp := As.mk (fun W A c A2 c2 (h : Lim W A c l) (h2 : Lim W A2 c2 m) => rCmp2_any l m n1 n2 A A2 c c2 W h h2 (by omega) (by omega))
  have h1 := Sm.of n1 l hx.lt
  have h3 := (Sm.of n2 m hy.lt).neg
  have hd3 := ((h1.mono (Nat.le_max_left l.length m.length)).add (h3.mono (Nat.le_max_right l.length m.length))).len
  have hn3 := h1.neg.len
  obtain ⟨d, hd⟩ : ∃ d, d = sval n1 (valB 4294967296 l) - sval n2 (valB 4294967296 m) := ⟨_, rfl⟩
  rw [← Int.sub_eq_add_neg, ← hd] at hd3
  obtain ⟨ng, hng⟩ : ∃ ng, ng = - sval n1 (valB 4294967296 l) := ⟨_, rfl⟩
  rw [← hng] at hn3 HNeg HrNeg
  rw [← hd] at HSub HrSub
  obtain ⟨sv, hsv⟩ : ∃ sv, sv = smV (sval n1 (valB 4294967296 l)) := ⟨_, rfl⟩
  obtain ⟨sb, hsb⟩ : ∃ sb, sb = smB (sval n1 (valB 4294967296 l)) := ⟨_, rfl⟩
  rw [← hsv, ← hsb] at HS1 HS2
  obtain ⟨cz, hcz⟩ : ∃ cz, cz = cmpZ (sval n1 (valB 4294967296 l)) (sval n2 (valB 4294967296 m)) := ⟨_, rfl⟩
  rw [← hcz] at HCmp HrCmp
  have HD : As ((digB 4294967296 d.natAbs).length ≤ 274877906944) := ⟨by omega⟩
  have HNG : As ((digB 4294967296 ng.natAbs).length ≤ 274877906944) := ⟨by omega⟩
  have HV : As ((digB 4294967296 v.natAbs).length ≤ 274877906944) := ⟨Nat.le_trans (int_len (by omega)) (by omega)⟩
  have Hv := As.mk hv
  clear hx hy htab hxy h1 h3 hd3 hn3 hd hng hsv hsb hcz hv
  go_enter Tryd.func5, Tryd.ntmps5
  go_wp2_with (first
    | ((with_reducible refine g_dst 4 ?_); go_must (refine ev_box 4 rfl (cs := [.bool n1, .slice A l.length c]) (by rfl) ?_); intro g4 w4 hb4 B4 hg4)
    | ((with_reducible refine g_dst 5 ?_); go_must (refine ev_box 5 rfl (cs := [.bool n2, .slice A2 m.length c2]) (by rfl) ?_); intro g5 w5 hb5 B5 hg5; replace B4 := B4.below hb5; have C4 := B4.cells; replace hb5 := bthen hb4 hb5)
    | (go_at_call 21; (with_reducible refine (c_any l n1 A c _ (Hx.out.below hb5)).mono ?_); rintro e w6 ⟨v6, rfl, ⟨A6, c6, rfl, hl6, _, _⟩, hb6⟩; replace B4 := B4.below hb6; replace B5 := B5.below hb6; clear C4; have C4 := B4.cells; replace hb6 := bthen hb5 hb6)
    | (go_at_call 25; (with_reducible refine (HS1.out _ A6 c6 hl6).mono ?_); rintro e w7 ⟨v7, rfl, rfl, hb7⟩; replace B4 := B4.below hb7; replace B5 := B5.below hb7; clear C4; have C4 := B4.cells; replace hb7 := bthen hb6 hb7)
    | (go_at_call 26; (with_reducible refine (HS2.out _ A c (Hx.out.below hb7)).mono ?_); rintro e w8 ⟨v8, rfl, rfl, hb8⟩; replace B4 := B4.below hb8; replace B5 := B5.below hb8; clear C4; replace hb8 := bthen hb7 hb8))
  have hS : ∀ W, Below w8.heap.size w8 W → W.cell? ⟨g4, 0, none⟩ = some (.bool n1) ∧ W.cell? ⟨g4, 1, none⟩ = some (.slice A l.length c) ∧ W.cell? ⟨g5, 0, none⟩ = some (.bool n2) ∧ W.cell? ⟨g5, 1, none⟩ = some (.slice A2 m.length c2) := fun W hb => ⟨(B4.below hb).cells 0, (B4.below hb).cells 1, (B5.below hb).cells 0, (B5.below hb).cells 1⟩
  have hcur := (Below.refl w8.heap.size w8).drew
  have hS0 := hS _ hcur
  have HS := As.mk hS
  clear hS
  go_region_held3 (fun W => W.cell? ⟨g4, 0, none⟩ = some (.bool n1) ∧ W.cell? ⟨g4, 1, none⟩ = some (.slice A l.length c) ∧ W.cell? ⟨g5, 0, none⟩ = some (.bool n2) ∧ W.cell? ⟨g5, 1, none⟩ = some (.slice A2 m.length c2)) (first | assumption | (with_reducible exact HS.out _ hcur)) (first
    | (go_at_call 27; (with_reducible refine (numInt_any v _ Hv.out.1 Hv.out.2).mono ?_); rintro e wn ⟨vn, rfl, ht, hbn⟩; have Ht := As.mk ht; obtain ⟨An, cn, En, rfl, on, HEn, hn1⟩ := told_sl ht; replace hcur := bthen hcur hbn; clear ht)
    | (go_at_call 28; (with_reducible refine (rInt_any v _ Hv.out.1 Hv.out.2).mono ?_); rintro e wn ⟨vn, rfl, ht, hbn⟩; have Hu := As.mk (Ht.out.below hbn); have Hw := As.mk ht; obtain ⟨An, cn, En, rfl, on, HEn, hn1⟩ := told_sl ht; replace hcur := bthen hcur hbn; clear ht)
    | (go_at_call 15; (with_reducible refine (same_any v HV.out _ _ _ _ _ Hu.out Hw.out).mono ?_); rintro e wn ⟨vn, rfl, rfl, hbn⟩; replace hcur := bthen hcur hbn)
    | (go_at_call 21; (with_reducible refine (c_any l n1 A c _ (Hx.out.below (bthen hb8 hcur))).mono ?_); rintro e wn ⟨vn, rfl, ⟨Aa, ca, rfl, hla, _, _⟩, hbn⟩; replace hcur := bthen hcur hbn)
    | (go_at_call 21; (with_reducible refine (c_any m n2 A2 c2 _ (Hy.out.below (bthen hb8 hcur))).mono ?_); rintro e wn ⟨vn, rfl, ⟨Ab, cb, rfl, hlb, _, _⟩, hbn⟩; replace hla := hla.below hbn; replace hcur := bthen hcur hbn)
    | (go_at_call 29; (with_reducible refine (HSub.out _ Aa ca Ab cb hla hlb).mono ?_); rintro e wn ⟨vn, rfl, ht, hbn⟩; have Ht2 := As.mk ht; obtain ⟨An, cn, En, rfl, on, HEn, hn1⟩ := told_sl ht; replace hcur := bthen hcur hbn; clear ht)
    | (go_at_call 30; (with_reducible refine (HrSub.out _ A c A2 c2 (Hx.out.below (bthen hb8 hcur)) (Hy.out.below (bthen hb8 hcur))).mono ?_); rintro e wn ⟨vn, rfl, ht, hbn⟩; have Hu2 := As.mk (Ht2.out.below hbn); have Hw2 := As.mk ht; obtain ⟨An, cn, En, rfl, on, HEn, hn1⟩ := told_sl ht; replace hcur := bthen hcur hbn; clear ht)
    | (go_at_call 15; (with_reducible refine (same_any d HD.out _ _ _ _ _ Hu2.out Hw2.out).mono ?_); rintro e wn ⟨vn, rfl, rfl, hbn⟩; replace hcur := bthen hcur hbn)
    | (go_at_call 31; (with_reducible refine (HNeg.out _ Aa ca hla).mono ?_); rintro e wn ⟨vn, rfl, ht, hbn⟩; have Ht3 := As.mk ht; obtain ⟨An, cn, En, rfl, on, HEn, hn1⟩ := told_sl ht; replace hcur := bthen hcur hbn; clear ht)
    | (go_at_call 32; (with_reducible refine (HrNeg.out _ A c (Hx.out.below (bthen hb8 hcur))).mono ?_); rintro e wn ⟨vn, rfl, ht, hbn⟩; have Hu3 := As.mk (Ht3.out.below hbn); have Hw3 := As.mk ht; obtain ⟨An, cn, En, rfl, on, HEn, hn1⟩ := told_sl ht; replace hcur := bthen hcur hbn; clear ht)
    | (go_at_call 15; (with_reducible refine (same_any ng HNG.out _ _ _ _ _ Hu3.out Hw3.out).mono ?_); rintro e wn ⟨vn, rfl, rfl, hbn⟩; replace hcur := bthen hcur hbn)
    | (go_at_call 33; (with_reducible refine (HCmp.out _ Aa ca Ab cb hla hlb).mono ?_); rintro e wn ⟨vn, rfl, rfl, hbn⟩; replace hcur := bthen hcur hbn)
    | (go_at_call 34; (with_reducible refine (HrCmp.out _ A c A2 c2 (Hx.out.below (bthen hb8 hcur)) (Hy.out.below (bthen hb8 hcur))).mono ?_); rintro e wn ⟨vn, rfl, rfl, hbn⟩; replace hcur := bthen hcur hbn)
    | (go_at_call 19; (with_reducible refine (awake02_any _ (HT.out.below (bthen hb8 hcur))).mono ?_); rintro e wn ⟨vn, rfl, rfl, hbn⟩; replace hcur := bthen hcur hbn))
  go_wp2
  go_ret
  exact ⟨_, rfl, rfl, bthen hb8 hcur⟩
end Go.Proofs.YtigoofeodbbbhaaDoor
