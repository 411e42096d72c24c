/- A text as it is written: show.text. -/
import Derived.Test.YtgeokccfobmeiaaDoorShow2
namespace Go.Proofs.YtgeokccfobmeiaaDoor
open Go.RowKit Go.Proofs.YtgeokccfobmeiaaDoorL Go.Proofs.YtgeokccfobmeiaaDoorM
set_option linter.unusedVariables false
set_option linter.unusedSimpArgs false
/-- a byte within a written text -/
def byteN (x : Nat) : List UInt8 :=
  if x = 34 then [92, 34] else if x = 92 then [92, 92] else if x = 10 then [92, 110] else if x = 9 then [92, 116]
  else if x < 32 ∨ 126 < x then [92, 120] ++ (hex2 (x : Int) ++ [59]) else [UInt8.ofNat x]
theorem byteN_len (x : Nat) : (byteN x).length ≤ 5 := by
  unfold byteN; repeat' split
  all_goals simp [hex2]
def bytesN (l : List UInt8) : List (List UInt8) := l.map fun b => byteN b.toNat
def textL (l : List UInt8) : List UInt8 := [34] ++ ((bytesN l).flatten ++ [34])
theorem bytesN_take_succ (l : List UInt8) (k : Nat) (hk : k < l.length) : bytesN (l.take k) ++ [byteN l[k].toNat] = bytesN (l.take (k + 1)) := by
  rw [List.take_succ_eq_append_getElem hk, bytesN, bytesN, List.map_append]; rfl
theorem bytesN_len (l : List UInt8) : (bytesN l).flatten.length ≤ 5 * l.length := by
  induction l with
  | nil => simp [bytesN]
  | cons b l ih =>
    have := byteN_len b.toNat
    simp only [bytesN, List.map_cons, List.flatten_cons, List.length_append, List.length_cons] at *
    omega
theorem str_one (l : List UInt8) (k : Nat) (hk : k < l.length) (y : List UInt8) (hy : y = [UInt8.ofNat l[k].toNat]) (w : World) : (Instr.slice 9 (.string ⟨l.toArray⟩) (some (.int .i64 (k : Int))) (some (.int .i64 ((k : Int) + 1))) none).run Tryd.prog w = .ok (.string ⟨y.toArray⟩) w := by
  rw [hy]
  have := run_slice_string (P := Tryd.prog) w 9 ⟨l.toArray⟩ .i64 .i64 (k : Int) ((k : Int) + 1) Tryd.underlying9 (by omega) (by omega) (by simp [ByteArray.size]; omega)
  rw [this, Int.toNat_natCast, show ((k : Int) + 1).toNat = k + 1 by omega]
  congr 2
  apply ByteArray.ext
  rw [ByteArray.data_extract]
  apply Array.ext'
  simp
  rw [drop_cons_of_lt l k hk]; rfl
set_option maxRecDepth 100000 in
set_option maxHeartbeats 1000000 in
theorem text_any (l : List UInt8) (w : World) (hm : l.length ≤ 1099511627776) :
    Calls Tryd.prog 18 #[.string ⟨l.toArray⟩] w (Gives w fun v w' => v = .string ⟨(textL l).toArray⟩) := by
  go_enter Tryd.func18, Tryd.ntmps18
  go_wp2
  go_loopw [3, 4, 5, 8] (fun v u y z wr => ∃ k : Nat, ∃ bs : List (List UInt8), k ≤ l.length ∧ bs.length = k ∧ z = .int .i64 (k : Int) ∧ As (bs = bytesN (l.take k)) ∧ Below w.heap.size w wr ∧ Ow encT 1 9 w.heap.size wr v bs) (fun v u y z _ => l.length - (intOf z).toNat)
  case atStart => exact ⟨0, [], by omega, rfl, rfl, ⟨rfl⟩, Below.refl _ _, Ow.nil _ _ _ _ _⟩
  case round =>
    obtain ⟨k, bs, hk, hbl, rfl, hbs, hb, ho⟩ := hrel
    have HB := As.mk (show (bs.length + 1) * 16 ≤ 140737488355328 from by omega)
    have HM := As.mk (show bs.length + 1 ≤ maxLen from by simp only [maxLen]; omega)
    have Hbl := As.mk hbl
    clear hbl
    by_cases h : k < l.length
    · have hst := bytesN_take_succ l k h
      obtain ⟨x, hx⟩ : ∃ x, x = l[k].toNat := ⟨_, rfl⟩
      have hx2 : x < 256 := by rw [hx]; exact UInt8.toNat_lt _
      simp only [← hx] at hst
      rw [← hbs.out] at hst
      have HX := As.mk hx
      have HST := As.mk hst
      have hget : ∀ h, (ByteArray.get (⟨l.toArray⟩ : ByteArray) k h).toNat = x := fun _ => hx.symm
      have hget2 : ∀ h, ((⟨l.toArray⟩ : ByteArray)[k]'h).toNat = x := fun _ => hx.symm
      clear hx hst
      by_cases c1 : x = 34
      · have hN : As (byteN x = [92, 34]) := ⟨by rw [byteN, if_pos c1]⟩
        have b1 : ((x : Int) == 34) = true := by simp; omega
        clear c1
        go_wp2_with (first
          | ((with_reducible refine g_dst 26 ?_); go_must (refine ev_lit (v := fun g => .slice (some ⟨g, 0, none⟩) 1 1) 26 rfl (cs := [valT [92, 34]]) (t := 9) (by go_simp; rfl) ?_); intro g2 w2 hb2 B2 hg2; replace ho := ho.below hb2; have hbw2 := bthen hb hb2; clear hb2)
          | ((with_reducible refine g_dst 27 ?_); go_must (refine ev_append 27 rfl Tryd.underlying49 infoT rfl (by decide) rfl ho rfl rfl (B2.rdm (l := [[92, 34]]) encT_one) lenT oneT (fun h => by cases h) HB.out HM.out hbw2.size ?_); intro v3 w3 ho3 hg3; have hbw3 := ho.grown hbw2 hg3 (Nat.le_refl _) hbw2.size))
        go_roundw
        case rel => exact ⟨k + 1, bs ++ [[92, 34]], by omega, by rw [List.length_append, Hbl.out]; rfl, by go_num, ⟨by rw [← HST.out, hN.out]⟩, hbw3, ho3⟩
        case measure => simp [intOf]; omega
      by_cases c2 : x = 92
      · have hN : As (byteN x = [92, 92]) := ⟨by rw [byteN, if_neg c1, if_pos c2]⟩
        have b1 : ((x : Int) == 34) = false := by simp; omega
        have b2 : ((x : Int) == 92) = true := by simp; omega
        clear c2
        go_wp2_with (first
          | ((with_reducible refine g_dst 32 ?_); go_must (refine ev_lit (v := fun g => .slice (some ⟨g, 0, none⟩) 1 1) 32 rfl (cs := [valT [92, 92]]) (t := 9) (by go_simp; rfl) ?_); intro g2 w2 hb2 B2 hg2; replace ho := ho.below hb2; have hbw2 := bthen hb hb2; clear hb2)
          | ((with_reducible refine g_dst 33 ?_); go_must (refine ev_append 33 rfl Tryd.underlying49 infoT rfl (by decide) rfl ho rfl rfl (B2.rdm (l := [[92, 92]]) encT_one) lenT oneT (fun h => by cases h) HB.out HM.out hbw2.size ?_); intro v3 w3 ho3 hg3; have hbw3 := ho.grown hbw2 hg3 (Nat.le_refl _) hbw2.size))
        go_roundw
        case rel => exact ⟨k + 1, bs ++ [[92, 92]], by omega, by rw [List.length_append, Hbl.out]; rfl, by go_num, ⟨by rw [← HST.out, hN.out]⟩, hbw3, ho3⟩
        case measure => simp [intOf]; omega
      by_cases c3 : x = 10
      · have hN : As (byteN x = [92, 110]) := ⟨by rw [byteN, if_neg c1, if_neg c2, if_pos c3]⟩
        have b1 : ((x : Int) == 34) = false := by simp; omega
        have b2 : ((x : Int) == 92) = false := by simp; omega
        have b3 : ((x : Int) == 10) = true := by simp; omega
        clear c3
        go_wp2_with (first
          | ((with_reducible refine g_dst 38 ?_); go_must (refine ev_lit (v := fun g => .slice (some ⟨g, 0, none⟩) 1 1) 38 rfl (cs := [valT [92, 110]]) (t := 9) (by go_simp; rfl) ?_); intro g2 w2 hb2 B2 hg2; replace ho := ho.below hb2; have hbw2 := bthen hb hb2; clear hb2)
          | ((with_reducible refine g_dst 39 ?_); go_must (refine ev_append 39 rfl Tryd.underlying49 infoT rfl (by decide) rfl ho rfl rfl (B2.rdm (l := [[92, 110]]) encT_one) lenT oneT (fun h => by cases h) HB.out HM.out hbw2.size ?_); intro v3 w3 ho3 hg3; have hbw3 := ho.grown hbw2 hg3 (Nat.le_refl _) hbw2.size))
        go_roundw
        case rel => exact ⟨k + 1, bs ++ [[92, 110]], by omega, by rw [List.length_append, Hbl.out]; rfl, by go_num, ⟨by rw [← HST.out, hN.out]⟩, hbw3, ho3⟩
        case measure => simp [intOf]; omega
      by_cases c4 : x = 9
      · have hN : As (byteN x = [92, 116]) := ⟨by rw [byteN, if_neg c1, if_neg c2, if_neg c3, if_pos c4]⟩
        have b1 : ((x : Int) == 34) = false := by simp; omega
        have b2 : ((x : Int) == 92) = false := by simp; omega
        have b3 : ((x : Int) == 10) = false := by simp; omega
        have b4 : ((x : Int) == 9) = true := by simp; omega
        clear c4
        go_wp2_with (first
          | ((with_reducible refine g_dst 44 ?_); go_must (refine ev_lit (v := fun g => .slice (some ⟨g, 0, none⟩) 1 1) 44 rfl (cs := [valT [92, 116]]) (t := 9) (by go_simp; rfl) ?_); intro g2 w2 hb2 B2 hg2; replace ho := ho.below hb2; have hbw2 := bthen hb hb2; clear hb2)
          | ((with_reducible refine g_dst 45 ?_); go_must (refine ev_append 45 rfl Tryd.underlying49 infoT rfl (by decide) rfl ho rfl rfl (B2.rdm (l := [[92, 116]]) encT_one) lenT oneT (fun h => by cases h) HB.out HM.out hbw2.size ?_); intro v3 w3 ho3 hg3; have hbw3 := ho.grown hbw2 hg3 (Nat.le_refl _) hbw2.size))
        go_roundw
        case rel => exact ⟨k + 1, bs ++ [[92, 116]], by omega, by rw [List.length_append, Hbl.out]; rfl, by go_num, ⟨by rw [← HST.out, hN.out]⟩, hbw3, ho3⟩
        case measure => simp [intOf]; omega
      have b1 : ((x : Int) == 34) = false := by simp; omega
      have b2 : ((x : Int) == 92) = false := by simp; omega
      have b3 : ((x : Int) == 10) = false := by simp; omega
      have b4 : ((x : Int) == 9) = false := by simp; omega
      by_cases c5 : x < 32
      · have hN : As (byteN x = [92, 120] ++ (hex2 (x : Int) ++ [59])) := ⟨by rw [byteN, if_neg c1, if_neg c2, if_neg c3, if_neg c4, if_pos (by omega)]⟩
        have b5 : decide ((x : Int) < 32) = true := by simp; omega
        have hxl : (hex2 (x : Int)).length = 2 := rfl
        obtain ⟨y, hy⟩ : ∃ y, y = hex2 (x : Int) := ⟨_, rfl⟩
        rw [← hy] at hN hxl
        obtain ⟨z, hz⟩ : ∃ z, z = [92, 120] ++ (y ++ [59]) := ⟨_, rfl⟩
        have hzl := congrArg List.length hz
        simp only [List.length_append, List.length_cons, List.length_nil] at hzl
        have Hz := As.mk hz
        have Hy := As.mk hy
        rw [← hz] at hN
        clear hy hz c5
        go_wp2_with (first
          | (go_at_call 29; (with_reducible refine (hex_any (x : Int) _).mono ?_); rintro e w2 ⟨v2, rfl, hv2, hb2⟩; rw [← Hy.out] at hv2; subst hv2; replace ho := ho.below hb2; have hbw2 := bthen hb hb2; clear hb2)
          | ((with_reducible refine g_dst 57 ?_); go_must (refine ev_lit (v := fun g => .slice (some ⟨g, 0, none⟩) 3 3) 57 rfl (cs := [valT [92, 120], valT y, valT [59]]) (t := 9) (by go_simp; rfl) ?_); intro g4 w4 hb4 B4 hg4; replace ho := ho.below hb4; have hbw4 := bthen hbw2 hb4; clear hb4)
          | (go_at_call 20; (with_reducible refine (pieces3 [92, 120] y [59] _ _ _ (B4.rdm (l := [[92, 120], y, [59]]) encT_one) (by omega) (by simp; omega)).mono ?_); rintro e w5 ⟨v5, rfl, hv5, hb5⟩; rw [← Hz.out] at hv5; subst hv5; replace ho := ho.below hb5; have hbw5 := bthen hbw4 hb5; clear hb5)
          | ((with_reducible refine g_dst 59 ?_); go_must (refine ev_lit (v := fun g => .slice (some ⟨g, 0, none⟩) 1 1) 59 rfl (cs := [valT z]) (t := 9) (by go_simp; rfl) ?_); intro g6 w6 hb6 B6 hg6; replace ho := ho.below hb6; have hbw6 := bthen hbw5 hb6; clear hb6)
          | ((with_reducible refine g_dst 60 ?_); go_must (refine ev_append 60 rfl Tryd.underlying49 infoT rfl (by decide) rfl ho rfl rfl (B6.rdm (l := [z]) encT_one) lenT oneT (fun h => by cases h) HB.out HM.out hbw6.size ?_); intro v3 w3 ho3 hg3; have hbw3 := ho.grown hbw6 hg3 (Nat.le_refl _) hbw6.size))
        go_roundw
        case rel => exact ⟨k + 1, bs ++ [z], by omega, by rw [List.length_append, Hbl.out]; rfl, by go_num, ⟨by rw [← HST.out, hN.out]⟩, hbw3, ho3⟩
        case measure => simp [intOf]; omega
      by_cases c6 : 126 < x
      · have hN : As (byteN x = [92, 120] ++ (hex2 (x : Int) ++ [59])) := ⟨by rw [byteN, if_neg c1, if_neg c2, if_neg c3, if_neg c4, if_pos (by omega)]⟩
        have b6 : decide ((126 : Int) < (x : Int)) = true := by simp; omega
        have b5 : decide ((x : Int) < 32) = false := by simp; omega
        have hxl : (hex2 (x : Int)).length = 2 := rfl
        obtain ⟨y, hy⟩ : ∃ y, y = hex2 (x : Int) := ⟨_, rfl⟩
        rw [← hy] at hN hxl
        obtain ⟨z, hz⟩ : ∃ z, z = [92, 120] ++ (y ++ [59]) := ⟨_, rfl⟩
        have hzl := congrArg List.length hz
        simp only [List.length_append, List.length_cons, List.length_nil] at hzl
        have Hz := As.mk hz
        have Hy := As.mk hy
        rw [← hz] at hN
        clear hy hz c5
        go_wp2_with (first
          | (go_at_call 29; (with_reducible refine (hex_any (x : Int) _).mono ?_); rintro e w2 ⟨v2, rfl, hv2, hb2⟩; rw [← Hy.out] at hv2; subst hv2; replace ho := ho.below hb2; have hbw2 := bthen hb hb2; clear hb2)
          | ((with_reducible refine g_dst 57 ?_); go_must (refine ev_lit (v := fun g => .slice (some ⟨g, 0, none⟩) 3 3) 57 rfl (cs := [valT [92, 120], valT y, valT [59]]) (t := 9) (by go_simp; rfl) ?_); intro g4 w4 hb4 B4 hg4; replace ho := ho.below hb4; have hbw4 := bthen hbw2 hb4; clear hb4)
          | (go_at_call 20; (with_reducible refine (pieces3 [92, 120] y [59] _ _ _ (B4.rdm (l := [[92, 120], y, [59]]) encT_one) (by omega) (by simp; omega)).mono ?_); rintro e w5 ⟨v5, rfl, hv5, hb5⟩; rw [← Hz.out] at hv5; subst hv5; replace ho := ho.below hb5; have hbw5 := bthen hbw4 hb5; clear hb5)
          | ((with_reducible refine g_dst 59 ?_); go_must (refine ev_lit (v := fun g => .slice (some ⟨g, 0, none⟩) 1 1) 59 rfl (cs := [valT z]) (t := 9) (by go_simp; rfl) ?_); intro g6 w6 hb6 B6 hg6; replace ho := ho.below hb6; have hbw6 := bthen hbw5 hb6; clear hb6)
          | ((with_reducible refine g_dst 60 ?_); go_must (refine ev_append 60 rfl Tryd.underlying49 infoT rfl (by decide) rfl ho rfl rfl (B6.rdm (l := [z]) encT_one) lenT oneT (fun h => by cases h) HB.out HM.out hbw6.size ?_); intro v3 w3 ho3 hg3; have hbw3 := ho.grown hbw6 hg3 (Nat.le_refl _) hbw6.size))
        go_roundw
        case rel => exact ⟨k + 1, bs ++ [z], by omega, by rw [List.length_append, Hbl.out]; rfl, by go_num, ⟨by rw [← HST.out, hN.out]⟩, hbw3, ho3⟩
        case measure => simp [intOf]; omega
      · have hN : As (byteN x = [UInt8.ofNat x]) := ⟨by rw [byteN, if_neg c1, if_neg c2, if_neg c3, if_neg c4, if_neg (by omega)]⟩
        have b5 : decide ((x : Int) < 32) = false := by simp; omega
        have b6 : decide ((126 : Int) < (x : Int)) = false := by simp; omega
        obtain ⟨y, hy⟩ : ∃ y, y = [UInt8.ofNat x] := ⟨_, rfl⟩
        rw [← hy] at hN
        have hsl := fun w => str_one l k h y (by rw [hy, HX.out]) w
        clear hy c5 c6
        go_wp2_with (first
          | ((with_reducible refine g_dst 20 ?_); go_must (refine ev_lit (v := fun g => .slice (some ⟨g, 0, none⟩) 1 1) 20 rfl (cs := [valT y]) (t := 9) (by go_simp; rfl) ?_); intro g2 w2 hb2 B2 hg2; replace ho := ho.below hb2; have hbw2 := bthen hb hb2; clear hb2)
          | ((with_reducible refine g_dst 21 ?_); go_must (refine ev_append 21 rfl Tryd.underlying49 infoT rfl (by decide) rfl ho rfl rfl (B2.rdm (l := [y]) encT_one) lenT oneT (fun h => by cases h) HB.out HM.out hbw2.size ?_); intro v3 w3 ho3 hg3; have hbw3 := ho.grown hbw2 hg3 (Nat.le_refl _) hbw2.size))
        go_roundw
        case rel => exact ⟨k + 1, bs ++ [y], by omega, by rw [List.length_append, Hbl.out]; rfl, by go_num, ⟨by rw [← HST.out, hN.out]⟩, hbw3, ho3⟩
        case measure => simp [intOf]; omega
    · have hf : As (bs = bytesN l) := ⟨by rw [hbs.out, List.take_of_length_le (by omega)]⟩
      obtain ⟨A3, c3, rfl, h31, h32⟩ := ho.form
      have hfl := bytesN_len l
      obtain ⟨T, hT⟩ : ∃ T, T = bs.flatten := ⟨_, rfl⟩
      have hTl : T.length ≤ 5 * l.length := by rw [hT, hf.out]; exact hfl
      have hp := fun w h => pieces_any bs bs.length rfl A3 c3 w h h31 (by have := Hbl.out; omega) (by rw [← hT]; omega)
      simp only [← hT] at hp
      have HP := As.mk hp
      have HT := As.mk hT
      clear hp hT hfl
      go_wp2_with (first
        | (go_at_call 20; (with_reducible refine (HP.out _ (ho.rd lenT)).mono ?_); rintro e w4 ⟨v4, rfl, rfl, hb4⟩; replace hb4 := bthen hb hb4)
        | ((with_reducible refine g_dst 64 ?_); go_must (refine ev_lit (v := fun g => .slice (some ⟨g, 0, none⟩) 3 3) 64 rfl (cs := [valT [34], valT T, valT [34]]) (t := 9) (by go_simp; rfl) ?_); intro g5 w5 hb5 B5 hg5; replace hb5 := bthen hb4 hb5)
        | (go_at_call 20; (with_reducible refine (pieces3 [34] T [34] _ _ _ (B5.rdm (l := [[34], T, [34]]) encT_one) (by omega) (by simp; omega)).mono ?_); rintro e w6 ⟨v6, rfl, rfl, hb6⟩))
      go_ret
      exact ⟨_, rfl, by rw [textL, ← hf.out, ← HT.out]; simp, bthen hb5 hb6⟩
end Go.Proofs.YtgeokccfobmeiaaDoor
