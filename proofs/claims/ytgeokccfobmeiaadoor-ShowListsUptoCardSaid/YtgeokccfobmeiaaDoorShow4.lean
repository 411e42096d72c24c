/- A text as it is written: tandemref06.Text. -/
import Derived.Test.YtgeokccfobmeiaaDoorShow3
namespace Go.Proofs.YtgeokccfobmeiaaDoor
open Go.RowKit Go.Proofs.YtgeokccfobmeiaaDoorL Go.Proofs.YtgeokccfobmeiaaDoorM
set_option linter.unusedVariables false
set_option linter.unusedSimpArgs false
theorem strCells_enc (y : List UInt8) : Lib.strCells ⟨y.toArray⟩ = (y.map UInt8.toNat).flatMap encB := by
  rw [Lib.strCells]
  induction y with
  | nil => rfl
  | cons b y ih =>
    simp only [List.map_cons, List.flatMap_cons] at *
    rw [← ih]; rfl
/-- append(bytes, text...) -/
theorem ev_append_str {P : Program} {ops : Array Oper} {Q : Exit → Act → World → Prop} {a : Act} {rest : List Oper} (N : Tmp) {s x : Operand} {t u e ty : TypeId} {ps : String} {af : Array Edge} {base : Nat} {w : World} {v : Value} {l : List Nat}
    (ht : P.underlying t = some (.slice e)) (hu : P.underlying u = some .string) (hi : (P.info? e).map (fun i => (i.zero, i.size, i.bytes)) = some (some (.int .u8 0), 1, 1)) (hs : a.eval s = v) (f : Ow encB 1 e base w v l) {y : List UInt8} (hx : a.eval x = .string ⟨y.toArray⟩)
    (hb : l.length + y.length ≤ 140737488355328) (hbase : base ≤ w.heap.size)
    (h : ∀ v' w1, Ow encB 1 e base w1 v' (l ++ y.map UInt8.toNat) → w.grownBy w1 v.ownBlock → wpList P ops Q rest (a.put (some N) v') w1) :
    wpList P ops Q ({ dst := some N, op := .call { callee := .builtin .append, args := #[s, x], argTypes := #[t, u] }, type := ty, pos := ps, after := af, guard := none } :: rest) a w := by
  obtain ⟨i0, hi0, hz0, hz1, hz2⟩ := info_parts hi
  have hsz : (ByteArray.mk y.toArray).size = y.length := by simp [ByteArray.size]
  refine Lib.wpList_append_own_string (P := P) w rfl s x t u rfl base e i0 ht hu hi0 hz0 hz1 hz2 v l.length (l.flatMap encB) hs f.own ⟨y.toArray⟩ hx (by rw [hsz]; simp only [maxLen]; omega) (by rw [hsz]; exact hb) hbase ?_
  intro v' w' hown hg _
  refine h v' w' ⟨?_⟩ hg
  rw [hsz, strCells_enc, ← List.flatMap_append] at hown
  rw [List.length_append, List.length_map]
  exact hown
theorem sB_nat (L : List UInt8) : sB (L.map UInt8.toNat) = ⟨L.toArray⟩ := by
  simp [sB, strOfNums, List.map_map, Function.comp_def]
def natsB (l : List UInt8) : List Nat := 34 :: ((bytesN l).flatten.map UInt8.toNat)
theorem natsB_take_succ (l : List UInt8) (k : Nat) (hk : k < l.length) : natsB (l.take k) ++ (byteN l[k].toNat).map UInt8.toNat = natsB (l.take (k + 1)) := by
  rw [natsB, natsB, ← bytesN_take_succ l k hk]; simp
theorem natsB_len (l : List UInt8) : (natsB l).length ≤ 5 * l.length + 1 := by
  have := bytesN_len l
  simp only [natsB, List.length_cons, List.length_map]; omega
set_option maxRecDepth 100000 in
set_option maxHeartbeats 1000000 in
theorem rtext_any (l : List UInt8) (w : World) (hm : l.length ≤ 1099511627776) :
    Calls Tryd.prog 24 #[.string ⟨l.toArray⟩] w (Gives w fun v w' => v = .string ⟨(textL l).toArray⟩) := by
  go_enter Tryd.func24, Tryd.ntmps24
  go_wp2_with ((with_reducible refine g_dst 6 ?_); go_must (refine ev_lit (v := fun g => .slice (some ⟨g, 0, none⟩) 1 1) 6 rfl (cs := [valB8 34]) (t := 5) (by go_simp; rfl) ?_); intro g1 w1 hb1 B1 hg1)
  have ho1 := Blk.ow (l := [34]) (enc := encB) (f := valB8) (base := w.heap.size) B1 encB_one hg1 (by simp [maxLen]) 1 (by simp)
  go_loopw [3, 4, 5] (fun v u y wr => ∃ k : Nat, ∃ bs : List Nat, k ≤ l.length ∧ bs.length ≤ 5 * k + 1 ∧ u = .int .i64 (k : Int) ∧ As (bs = natsB (l.take k)) ∧ Below w.heap.size w wr ∧ Ow encB 1 5 w.heap.size wr v bs) (fun v u y _ => l.length - (intOf u).toNat)
  case atStart => exact ⟨0, [34], by omega, by simp, rfl, ⟨rfl⟩, hb1, ho1⟩
  case round =>
    obtain ⟨k, bs, hk, hbl, rfl, hbs, hb, ho⟩ := hrel
    have HB := As.mk (show ∀ n, n ≤ 10 → (bs.length + n) * 1 ≤ 140737488355328 from fun n hn => by omega)
    have HM := As.mk (show ∀ n, n ≤ 10 → bs.length + n ≤ maxLen from fun n hn => by simp only [maxLen]; omega)
    have Hbl := As.mk hbl
    clear hbl
    by_cases h : k < l.length
    · have hst := natsB_take_succ l k h
      have hnl := natsB_len (l.take (k + 1))
      rw [List.length_take, Nat.min_eq_left (by omega)] at hnl
      obtain ⟨x, hx⟩ : ∃ x, x = l[k].toNat := ⟨_, rfl⟩
      have hx2 : x < 256 := by rw [hx]; exact UInt8.toNat_lt _
      simp only [← hx] at hst
      rw [← hbs.out] at hst
      rw [← hst] at hnl
      have HX := As.mk hx
      have HST := As.mk hst
      have HNL := As.mk hnl
      have hget : ∀ h, (ByteArray.get (⟨l.toArray⟩ : ByteArray) k h).toNat = x := fun _ => hx.symm
      have hget2 : ∀ h, ((⟨l.toArray⟩ : ByteArray)[k]'h).toNat = x := fun _ => hx.symm
      clear hx hst hnl
      by_cases c1 : x = 34
      · have hN : As ((byteN x).map UInt8.toNat = [92, x]) := ⟨by rw [byteN, if_pos c1, c1]; rfl⟩
        have HST2 := HST.out
        have HNL2 := HNL.out
        rw [hN.out] at HST2 HNL2
        have HST3 := As.mk HST2
        have HNL3 := As.mk HNL2
        clear HST2 HNL2
        have b1 : ((x : Int) == 34) = true := by simp; omega
        clear c1
        go_wp2_with (first
          | ((with_reducible refine g_dst 29 ?_); go_must (refine ev_lit (v := fun g => .slice (some ⟨g, 0, none⟩) 2 2) 29 rfl (cs := [valB8 92, valB8 x]) (t := 5) (by go_simp; rfl) ?_); intro g2 w2 hb2 B2 hg2; replace ho := ho.below hb2; have hbw2 := bthen hb hb2; clear hb2)
          | ((with_reducible refine g_dst 30 ?_); go_must (refine ev_append 30 rfl Tryd.underlying38 infoB rfl (by decide) rfl ho rfl rfl (B2.rdm (l := [92, x]) encB_one) lenB oneB (fun h => by cases h) (HB.out _ (by omega)) (HM.out _ (by omega)) hbw2.size ?_); intro v3 w3 ho3 hg3; have hbw3 := ho.grown hbw2 hg3 (Nat.le_refl _) hbw2.size))
        go_roundw
        case rel => exact ⟨k + 1, bs ++ [92, x], by omega, HNL3.out, by go_num, ⟨HST3.out⟩, hbw3, ho3⟩
        case measure => simp [intOf]; omega
      by_cases c2 : x = 92
      · have hN : As ((byteN x).map UInt8.toNat = [92, x]) := ⟨by rw [byteN, if_neg c1, if_pos c2, c2]; rfl⟩
        have HST2 := HST.out
        have HNL2 := HNL.out
        rw [hN.out] at HST2 HNL2
        have HST3 := As.mk HST2
        have HNL3 := As.mk HNL2
        clear HST2 HNL2
        have b1 : ((x : Int) == 34) = false := by simp; omega
        have b2 : ((x : Int) == 92) = true := by simp; omega
        clear c1 c2
        go_wp2_with (first
          | ((with_reducible refine g_dst 29 ?_); go_must (refine ev_lit (v := fun g => .slice (some ⟨g, 0, none⟩) 2 2) 29 rfl (cs := [valB8 92, valB8 x]) (t := 5) (by go_simp; rfl) ?_); intro g2 w2 hb2 B2 hg2; replace ho := ho.below hb2; have hbw2 := bthen hb hb2; clear hb2)
          | ((with_reducible refine g_dst 30 ?_); go_must (refine ev_append 30 rfl Tryd.underlying38 infoB rfl (by decide) rfl ho rfl rfl (B2.rdm (l := [92, x]) encB_one) lenB oneB (fun h => by cases h) (HB.out _ (by omega)) (HM.out _ (by omega)) hbw2.size ?_); intro v3 w3 ho3 hg3; have hbw3 := ho.grown hbw2 hg3 (Nat.le_refl _) hbw2.size))
        go_roundw
        case rel => exact ⟨k + 1, bs ++ [92, x], by omega, HNL3.out, by go_num, ⟨HST3.out⟩, hbw3, ho3⟩
        case measure => simp [intOf]; omega
      have b1 : ((x : Int) == 34) = false := by simp; omega
      have b2 : ((x : Int) == 92) = false := by simp; omega
      by_cases c3 : x = 10
      · have hN : As ((byteN x).map UInt8.toNat = [92, 110]) := ⟨by rw [byteN, if_neg c1, if_neg c2, if_pos c3]; rfl⟩
        have HST2 := HST.out
        have HNL2 := HNL.out
        rw [hN.out] at HST2 HNL2
        have HST3 := As.mk HST2
        have HNL3 := As.mk HNL2
        clear HST2 HNL2
        have b3 : ((x : Int) == 10) = true := by simp; omega
        clear c1 c2 c3
        go_wp2_with (first
          | ((with_reducible refine g_dst 35 ?_); go_must (refine ev_lit (v := fun g => .slice (some ⟨g, 0, none⟩) 2 2) 35 rfl (cs := [valB8 92, valB8 110]) (t := 5) (by go_simp; rfl) ?_); intro g2 w2 hb2 B2 hg2; replace ho := ho.below hb2; have hbw2 := bthen hb hb2; clear hb2)
          | ((with_reducible refine g_dst 36 ?_); go_must (refine ev_append 36 rfl Tryd.underlying38 infoB rfl (by decide) rfl ho rfl rfl (B2.rdm (l := [92, 110]) encB_one) lenB oneB (fun h => by cases h) (HB.out _ (by omega)) (HM.out _ (by omega)) hbw2.size ?_); intro v3 w3 ho3 hg3; have hbw3 := ho.grown hbw2 hg3 (Nat.le_refl _) hbw2.size))
        go_roundw
        case rel => exact ⟨k + 1, bs ++ [92, 110], by omega, HNL3.out, by go_num, ⟨HST3.out⟩, hbw3, ho3⟩
        case measure => simp [intOf]; omega
      have b3 : ((x : Int) == 10) = false := by simp; omega
      by_cases c4 : x = 9
      · have hN : As ((byteN x).map UInt8.toNat = [92, 116]) := ⟨by rw [byteN, if_neg c1, if_neg c2, if_neg c3, if_pos c4]; rfl⟩
        have HST2 := HST.out
        have HNL2 := HNL.out
        rw [hN.out] at HST2 HNL2
        have HST3 := As.mk HST2
        have HNL3 := As.mk HNL2
        clear HST2 HNL2
        have b4 : ((x : Int) == 9) = true := by simp; omega
        clear c1 c2 c3 c4
        go_wp2_with (first
          | ((with_reducible refine g_dst 41 ?_); go_must (refine ev_lit (v := fun g => .slice (some ⟨g, 0, none⟩) 2 2) 41 rfl (cs := [valB8 92, valB8 116]) (t := 5) (by go_simp; rfl) ?_); intro g2 w2 hb2 B2 hg2; replace ho := ho.below hb2; have hbw2 := bthen hb hb2; clear hb2)
          | ((with_reducible refine g_dst 42 ?_); go_must (refine ev_append 42 rfl Tryd.underlying38 infoB rfl (by decide) rfl ho rfl rfl (B2.rdm (l := [92, 116]) encB_one) lenB oneB (fun h => by cases h) (HB.out _ (by omega)) (HM.out _ (by omega)) hbw2.size ?_); intro v3 w3 ho3 hg3; have hbw3 := ho.grown hbw2 hg3 (Nat.le_refl _) hbw2.size))
        go_roundw
        case rel => exact ⟨k + 1, bs ++ [92, 116], by omega, HNL3.out, by go_num, ⟨HST3.out⟩, hbw3, ho3⟩
        case measure => simp [intOf]; omega
      have b4 : ((x : Int) == 9) = false := by simp; omega
      by_cases c5 : x < 32
      · have hN : As ((byteN x).map UInt8.toNat = [92, 120] ++ ((hex2 (x : Int)).map UInt8.toNat ++ [59])) := ⟨by rw [byteN, if_neg c1, if_neg c2, if_neg c3, if_neg c4, if_pos (by omega)]; simp⟩
        have b5 : decide ((x : Int) < 32) = true := by simp; omega
        have hxl : (hex2 (x : Int)).length = 2 := rfl
        obtain ⟨y, hy⟩ : ∃ y, y = hex2 (x : Int) := ⟨_, rfl⟩
        rw [← hy] at hN hxl
        have Hy := As.mk hy
        clear hy c1 c2 c3 c4 c5
        have HST2 := HST.out
        have HNL2 := HNL.out
        rw [hN.out] at HST2 HNL2
        have HST3 := As.mk HST2
        have HNL3 := As.mk HNL2
        clear HST2 HNL2
        go_wp2_with (first
          | ((with_reducible refine g_dst 51 ?_); go_must (refine ev_lit (v := fun g => .slice (some ⟨g, 0, none⟩) 2 2) 51 rfl (cs := [valB8 92, valB8 120]) (t := 5) (by go_simp; rfl) ?_); intro g2 w2 hb2 B2 hg2; replace ho := ho.below hb2; have hbw2 := bthen hb hb2; clear hb2)
          | ((with_reducible refine g_dst 52 ?_); go_must (refine ev_append 52 rfl Tryd.underlying38 infoB rfl (by decide) rfl ho rfl rfl (B2.rdm (l := [92, 120]) encB_one) lenB oneB (fun h => by cases h) (HB.out _ (by omega)) (HM.out _ (by omega)) hbw2.size ?_); intro v3 w3 ho3 hg3; have hbw3 := ho.grown hbw2 hg3 (Nat.le_refl _) hbw2.size)
          | (go_at_call 33; (with_reducible refine (two_any (x : Int) _ (by omega) (by omega)).mono ?_); rintro e w4 ⟨v4, rfl, hv4, hb4⟩; rw [← Hy.out] at hv4; subst hv4; replace ho3 := ho3.below hb4; have hbw4 := bthen hbw3 hb4; clear hb4)
          | ((with_reducible refine g_dst 57 ?_); go_must (refine ev_append_str 57 Tryd.underlying38 Tryd.underlying9 infoB rfl ho3 (y := y) rfl (by have := HB.out 4 (by omega); simp; omega) hbw4.size ?_); intro v5 w5 ho5 hg5; have hbw5 := ho3.grown hbw4 hg5 (Nat.le_refl _) hbw4.size)
          | ((with_reducible refine g_dst 59 ?_); go_must (refine ev_lit (v := fun g => .slice (some ⟨g, 0, none⟩) 1 1) 59 rfl (cs := [valB8 59]) (t := 5) (by go_simp; rfl) ?_); intro g6 w6 hb6 B6 hg6; replace ho5 := ho5.below hb6; have hbw6 := bthen hbw5 hb6; clear hb6)
          | ((with_reducible refine g_dst 60 ?_); go_must (refine ev_append 60 rfl Tryd.underlying38 infoB rfl (by decide) rfl ho5 rfl rfl (B6.rdm (l := [59]) encB_one) lenB oneB (fun h => by cases h) (by have := HB.out 5 (by omega); simp; omega) (by have := HM.out 5 (by omega); simp; omega) hbw6.size ?_); intro v7 w7 ho7 hg7; have hbw7 := ho5.grown hbw6 hg7 (Nat.le_refl _) hbw6.size))
        go_roundw
        case rel => exact ⟨k + 1, bs ++ ([92, 120] ++ (y.map UInt8.toNat ++ [59])), by omega, HNL3.out, by go_num, ⟨HST3.out⟩, hbw7, by simpa [List.append_assoc] using ho7⟩
        case measure => simp [intOf]; omega
      by_cases c6 : 126 < x
      · have hN : As ((byteN x).map UInt8.toNat = [92, 120] ++ ((hex2 (x : Int)).map UInt8.toNat ++ [59])) := ⟨by rw [byteN, if_neg c1, if_neg c2, if_neg c3, if_neg c4, if_pos (by omega)]; simp⟩
        have b5 : decide ((x : Int) < 32) = false := by simp; omega
        have b6 : decide ((127 : Int) ≤ (x : Int)) = true := by simp; omega
        have hxl : (hex2 (x : Int)).length = 2 := rfl
        obtain ⟨y, hy⟩ : ∃ y, y = hex2 (x : Int) := ⟨_, rfl⟩
        rw [← hy] at hN hxl
        have Hy := As.mk hy
        clear hy c1 c2 c3 c4 c5
        have HST2 := HST.out
        have HNL2 := HNL.out
        rw [hN.out] at HST2 HNL2
        have HST3 := As.mk HST2
        have HNL3 := As.mk HNL2
        clear HST2 HNL2
        go_wp2_with (first
          | ((with_reducible refine g_dst 51 ?_); go_must (refine ev_lit (v := fun g => .slice (some ⟨g, 0, none⟩) 2 2) 51 rfl (cs := [valB8 92, valB8 120]) (t := 5) (by go_simp; rfl) ?_); intro g2 w2 hb2 B2 hg2; replace ho := ho.below hb2; have hbw2 := bthen hb hb2; clear hb2)
          | ((with_reducible refine g_dst 52 ?_); go_must (refine ev_append 52 rfl Tryd.underlying38 infoB rfl (by decide) rfl ho rfl rfl (B2.rdm (l := [92, 120]) encB_one) lenB oneB (fun h => by cases h) (HB.out _ (by omega)) (HM.out _ (by omega)) hbw2.size ?_); intro v3 w3 ho3 hg3; have hbw3 := ho.grown hbw2 hg3 (Nat.le_refl _) hbw2.size)
          | (go_at_call 33; (with_reducible refine (two_any (x : Int) _ (by omega) (by omega)).mono ?_); rintro e w4 ⟨v4, rfl, hv4, hb4⟩; rw [← Hy.out] at hv4; subst hv4; replace ho3 := ho3.below hb4; have hbw4 := bthen hbw3 hb4; clear hb4)
          | ((with_reducible refine g_dst 57 ?_); go_must (refine ev_append_str 57 Tryd.underlying38 Tryd.underlying9 infoB rfl ho3 (y := y) rfl (by have := HB.out 4 (by omega); simp; omega) hbw4.size ?_); intro v5 w5 ho5 hg5; have hbw5 := ho3.grown hbw4 hg5 (Nat.le_refl _) hbw4.size)
          | ((with_reducible refine g_dst 59 ?_); go_must (refine ev_lit (v := fun g => .slice (some ⟨g, 0, none⟩) 1 1) 59 rfl (cs := [valB8 59]) (t := 5) (by go_simp; rfl) ?_); intro g6 w6 hb6 B6 hg6; replace ho5 := ho5.below hb6; have hbw6 := bthen hbw5 hb6; clear hb6)
          | ((with_reducible refine g_dst 60 ?_); go_must (refine ev_append 60 rfl Tryd.underlying38 infoB rfl (by decide) rfl ho5 rfl rfl (B6.rdm (l := [59]) encB_one) lenB oneB (fun h => by cases h) (by have := HB.out 5 (by omega); simp; omega) (by have := HM.out 5 (by omega); simp; omega) hbw6.size ?_); intro v7 w7 ho7 hg7; have hbw7 := ho5.grown hbw6 hg7 (Nat.le_refl _) hbw6.size))
        go_roundw
        case rel => exact ⟨k + 1, bs ++ ([92, 120] ++ (y.map UInt8.toNat ++ [59])), by omega, HNL3.out, by go_num, ⟨HST3.out⟩, hbw7, by simpa [List.append_assoc] using ho7⟩
        case measure => simp [intOf]; omega
      · have hN : As ((byteN x).map UInt8.toNat = [x]) := ⟨by rw [byteN, if_neg c1, if_neg c2, if_neg c3, if_neg c4, if_neg (by omega)]; simp; omega⟩
        have b5 : decide ((x : Int) < 32) = false := by simp; omega
        have b6 : decide ((127 : Int) ≤ (x : Int)) = false := by simp; omega
        clear c1 c2 c3 c4 c5 c6
        have HST2 := HST.out
        have HNL2 := HNL.out
        rw [hN.out] at HST2 HNL2
        have HST3 := As.mk HST2
        have HNL3 := As.mk HNL2
        clear HST2 HNL2
        go_wp2_with (first
          | ((with_reducible refine g_dst 18 ?_); go_must (refine ev_lit (v := fun g => .slice (some ⟨g, 0, none⟩) 1 1) 18 rfl (cs := [valB8 x]) (t := 5) (by go_simp; rfl) ?_); intro g2 w2 hb2 B2 hg2; replace ho := ho.below hb2; have hbw2 := bthen hb hb2; clear hb2)
          | ((with_reducible refine g_dst 19 ?_); go_must (refine ev_append 19 rfl Tryd.underlying38 infoB rfl (by decide) rfl ho rfl rfl (B2.rdm (l := [x]) encB_one) lenB oneB (fun h => by cases h) (HB.out _ (by omega)) (HM.out _ (by omega)) hbw2.size ?_); intro v3 w3 ho3 hg3; have hbw3 := ho.grown hbw2 hg3 (Nat.le_refl _) hbw2.size))
        go_roundw
        case rel => exact ⟨k + 1, bs ++ [x], by omega, HNL3.out, by go_num, ⟨HST3.out⟩, hbw3, ho3⟩
        case measure => simp [intOf]; omega
    · have hf : As (bs = natsB l) := ⟨by rw [hbs.out, List.take_of_length_le (by omega)]⟩
      obtain ⟨T, hT⟩ : ∃ T, T = bs ++ [34] := ⟨_, rfl⟩
      have hTt : As (sB T = ⟨(textL l).toArray⟩) := ⟨by
        rw [hT, hf.out, ← sB_nat]
        congr 1
        simp [natsB, textL]⟩
      have HT := As.mk hT
      have hTl : T.length = bs.length + 1 := by rw [hT]; simp
      have HTl := As.mk hTl
      clear hT hTl
      go_wp2_with (first
        | ((with_reducible refine g_dst 62 ?_); go_must (refine ev_lit (v := fun g => .slice (some ⟨g, 0, none⟩) 1 1) 62 rfl (cs := [valB8 34]) (t := 5) (by go_simp; rfl) ?_); intro g2 w2 hb2 B2 hg2; replace ho := ho.below hb2; have hbw2 := bthen hb hb2; clear hb2)
        | ((with_reducible refine g_dst 63 ?_); go_must (refine ev_append 63 rfl Tryd.underlying38 infoB rfl (by decide) rfl ho rfl rfl (B2.rdm (l := [34]) encB_one) lenB oneB (fun h => by cases h) (HB.out _ (by omega)) (HM.out _ (by omega)) hbw2.size ?_); intro v3 w3 ho3 hg3; have hbw3 := ho.grown hbw2 hg3 (Nat.le_refl _) hbw2.size; rw [← HT.out] at ho3; obtain ⟨A3, c3, rfl, h31, h32⟩ := ho3.form; obtain ⟨b3, o3, rfl⟩ := (ho3.rd lenB).get (List.ne_nil_of_length_pos (by have := HTl.out; omega)); have hcv := conv_bytes (P := Tryd.prog) (src := 38) (dst := 9) (w := w3) (cap := c3) Tryd.underlying38 Tryd.underlying5 Tryd.underlying9 (ho3.rd lenB); rw [hTt.out] at hcv))
      go_ret
      exact ⟨_, rfl, rfl, hbw3⟩
end Go.Proofs.YtgeokccfobmeiaaDoor
