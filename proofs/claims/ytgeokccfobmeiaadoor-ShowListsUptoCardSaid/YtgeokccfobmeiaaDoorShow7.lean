/- show.shown: a datum's text. -/
import Derived.Test.YtgeokccfobmeiaaDoorShow6
namespace Go.Proofs.YtgeokccfobmeiaaDoor
open Go.RowKit Go.Proofs.YtgeokccfobmeiaaDoorL Go.Proofs.YtgeokccfobmeiaaDoorM
set_option linter.unusedVariables false
set_option linter.unusedSimpArgs false
set_option maxHeartbeats 4000000 in
theorem shown_ok (w : World) (htab : Tab w) (x : LD) (h : Good w x) : wtD x ≤ 1073741824 → ShownOK w x := by
  have HTab := As.mk htab
  clear htab
  induction h with
  | @mk kind n neg A c mag text Ai ci items Ar cr rest hn1 hn2 lim ri li ni rr lr nr gi gr ihi ihr =>
    intro hwt q w' hw
    have hself := show_len (Good.mk (kind := kind) (neg := neg) (text := text) hn1 hn2 lim ri li ni rr lr nr gi gr)
    have hrl := row_len2 (l := items) (wr := q) (fun y hy => show_len (gi y hy) q)
    have hhl := head_len (l := rest) (wr := q) (fun y hy => show_len (gr y hy) q)
    have hcl := fun k => conds_len (l := items.take k) (fun y hy => show_len (gi y (List.mem_of_mem_take hy)) true)
    rw [wtD] at hwt hself
    have hil := wt_len items
    have htk : ∀ k, wtAll (items.take k) ≤ wtAll items := fun k => by
      have : ∀ (l : List LD) k, wtAll (l.take k) ≤ wtAll l := fun l => by
        induction l with
        | nil => intro k; simp [wtAll]
        | cons y l ih => intro k; cases k with
          | zero => simp [wtAll]
          | succ k => rw [List.take_succ_cons, wtAll, wtAll]; have := ih k; omega
      exact this items k
    have hiw : ∀ y ∈ items, ShownOK w y := fun y hy => ihi y hy (by have := wt_mem hy; omega)
    have hrw : ∀ y ∈ rest, ShownOK w y := fun y hy => ihr y hy (by have := wt_mem hy; omega)
    have HI := As.mk hiw
    have HR := As.mk hrw
    have Hhl := As.mk (show ((showAll q rest).headD []).length ≤ 35184372088832 by omega)
    have Hrl := As.mk (show (Lib.join (showAll q items) [32]).length ≤ 35184372088832 by omega)
    have Hcl : As (∀ k, ((showAll true (items.take k)).map fun x => 32 :: x).flatten.length ≤ 35184372088832) := ⟨fun k => by have := hcl k; have := htk k; omega⟩
    have htx : text.length ≤ 1099511627776 := by omega
    have him : items.length ≤ 1099511627776 := by omega
    clear ihi ihr hiw hrw hself hrl hhl hcl htk gi gr hwt hil
    simp only [encD]
    have hsl : As (showL q (.mk kind n neg A c mag text Ai ci items Ar cr rest) = showL q (.mk kind n neg A c mag text Ai ci items Ar cr rest)) := ⟨rfl⟩
    by_cases k1 : kind = 1
    · subst k1
      have hL : As (showL q (.mk 1 n neg A c mag text Ai ci items Ar cr rest) = numT neg (valB 4294967296 mag)) := ⟨by rw [showL, if_pos rfl]⟩
      clear hsl
      go_enter Tryd.func13, Tryd.ntmps13
      go_wp2_with (first
        | ((with_reducible refine g_dst 2 ?_); go_must (refine ev_box 2 rfl (cs := [.int .i64 1, .int .i64 n, .bool neg, .slice A mag.length c, .string ⟨text.toArray⟩, .slice Ai items.length ci, .slice Ar rest.length cr]) (by rfl) ?_); intro g w1 hb1 B1 hg1; have C1 := B1.cells)
        | (go_at_call 16; (with_reducible refine (numText_any mag neg A c _ (HTab.out.below (bthen hw hb1)) (lim.below (bthen hw hb1))).mono ?_); rintro e w2 ⟨v2, rfl, rfl, hb2⟩))
      go_ret
      exact ⟨_, rfl, by rw [hL.out]; rfl, bthen hb1 hb2⟩
    by_cases k2 : kind = 2
    · subst k2
      have hL : As (showL q (.mk 2 n neg A c mag text Ai ci items Ar cr rest) = (if n = 1 then [35, 116] else [35, 102])) := ⟨by rw [showL, if_neg (by decide), if_pos rfl]⟩
      clear hsl k1
      by_cases n1 : n = 1
      · subst n1
        go_enter Tryd.func13, Tryd.ntmps13
        go_wp2_with ((with_reducible refine g_dst 2 ?_); go_must (refine ev_box 2 rfl (cs := [.int .i64 2, .int .i64 1, .bool neg, .slice A mag.length c, .string ⟨text.toArray⟩, .slice Ai items.length ci, .slice Ar rest.length cr]) (by rfl) ?_); intro g w1 hb1 B1 hg1; have C1 := B1.cells)
        go_ret
        exact ⟨_, rfl, by rw [hL.out]; rfl, hb1⟩
      · have z : ((n : Int) == 1) = false := by simpa using n1
        have hL2 : As (showL q (.mk 2 n neg A c mag text Ai ci items Ar cr rest) = [35, 102]) := ⟨by rw [hL.out, if_neg n1]⟩
        clear n1
        go_enter Tryd.func13, Tryd.ntmps13
        go_wp2_with ((with_reducible refine g_dst 2 ?_); go_must (refine ev_box 2 rfl (cs := [.int .i64 2, .int .i64 n, .bool neg, .slice A mag.length c, .string ⟨text.toArray⟩, .slice Ai items.length ci, .slice Ar rest.length cr]) (by rfl) ?_); intro g w1 hb1 B1 hg1; have C1 := B1.cells)
        go_ret
        exact ⟨_, rfl, by rw [hL2.out]; rfl, hb1⟩
    by_cases k3 : kind = 3
    · subst k3
      have hL : As (showL q (.mk 3 n neg A c mag text Ai ci items Ar cr rest) = (if q then charL n else [UInt8.ofNat (n % 256).toNat])) := ⟨by rw [showL, if_neg (by decide), if_neg (by decide), if_pos rfl]⟩
      clear hsl k1 k2
      cases q with
      | true =>
        go_enter Tryd.func13, Tryd.ntmps13
        go_wp2_with (first
          | ((with_reducible refine g_dst 2 ?_); go_must (refine ev_box 2 rfl (cs := [.int .i64 3, .int .i64 n, .bool neg, .slice A mag.length c, .string ⟨text.toArray⟩, .slice Ai items.length ci, .slice Ar rest.length cr]) (by rfl) ?_); intro g w1 hb1 B1 hg1; have C1 := B1.cells)
          | (go_at_call 17; (with_reducible refine (char_any n _ hn1 hn2).mono ?_); rintro e w2 ⟨v2, rfl, rfl, hb2⟩))
        go_ret
        exact ⟨_, rfl, by rw [hL.out]; rfl, bthen hb1 hb2⟩
      | false =>
        obtain ⟨k, hk⟩ : ∃ k : Nat, k = (n % 256).toNat := ⟨_, rfl⟩
        have hk2 : k < 256 := by omega
        have ek : IntKind.u8.wrap n = (k : Int) := by rw [IntKind.wrap_u8]; omega
        obtain ⟨y, hy⟩ : ∃ y, y = [UInt8.ofNat k] := ⟨_, rfl⟩
        have Hy := As.mk hy
        have hL2 : As (showL false (.mk 3 n neg A c mag text Ai ci items Ar cr rest) = y) := ⟨by rw [hL.out, hy, hk]; rfl⟩
        clear hk hy
        go_enter Tryd.func13, Tryd.ntmps13
        go_wp2_with (first
          | ((with_reducible refine g_dst 2 ?_); go_must (refine ev_box 2 rfl (cs := [.int .i64 3, .int .i64 n, .bool neg, .slice A mag.length c, .string ⟨text.toArray⟩, .slice Ai items.length ci, .slice Ar rest.length cr]) (by rfl) ?_); intro g w1 hb1 B1 hg1; have C1 := B1.cells)
          | ((with_reducible refine g_dst 29 ?_); go_must (refine ev_lit (v := fun g => .slice (some ⟨g, 0, none⟩) 1 1) 29 rfl (cs := [valB8 k]) (t := 5) (by go_simp; rfl) ?_); intro g2 w2 hb2 B2 hg2; have hcv := conv_one hk2 B2; rw [← Hy.out] at hcv))
        go_ret
        exact ⟨_, rfl, by rw [hL2.out]; rfl, bthen hb1 hb2⟩
    by_cases k4 : kind = 4
    · subst k4
      have hL : As (showL q (.mk 4 n neg A c mag text Ai ci items Ar cr rest) = (if q then textL text else text)) := ⟨by rw [showL, if_neg (by decide), if_neg (by decide), if_neg (by decide), if_pos rfl]⟩
      clear hsl k1 k2 k3
      cases q with
      | true =>
        go_enter Tryd.func13, Tryd.ntmps13
        go_wp2_with (first
          | ((with_reducible refine g_dst 2 ?_); go_must (refine ev_box 2 rfl (cs := [.int .i64 4, .int .i64 n, .bool neg, .slice A mag.length c, .string ⟨text.toArray⟩, .slice Ai items.length ci, .slice Ar rest.length cr]) (by rfl) ?_); intro g w1 hb1 B1 hg1; have C1 := B1.cells)
          | (go_at_call 18; (with_reducible refine (text_any text _ htx).mono ?_); rintro e w2 ⟨v2, rfl, rfl, hb2⟩))
        go_ret
        exact ⟨_, rfl, by rw [hL.out]; rfl, bthen hb1 hb2⟩
      | false =>
        go_enter Tryd.func13, Tryd.ntmps13
        go_wp2_with ((with_reducible refine g_dst 2 ?_); go_must (refine ev_box 2 rfl (cs := [.int .i64 4, .int .i64 n, .bool neg, .slice A mag.length c, .string ⟨text.toArray⟩, .slice Ai items.length ci, .slice Ar rest.length cr]) (by rfl) ?_); intro g w1 hb1 B1 hg1; have C1 := B1.cells)
        go_ret
        exact ⟨_, rfl, by rw [hL.out]; rfl, hb1⟩
    by_cases k5 : kind = 5
    · subst k5
      have hL : As (showL q (.mk 5 n neg A c mag text Ai ci items Ar cr rest) = text) := ⟨by rw [showL, if_neg (by decide), if_neg (by decide), if_neg (by decide), if_neg (by decide), if_pos rfl]⟩
      clear hsl k1 k2 k3 k4
      go_enter Tryd.func13, Tryd.ntmps13
      go_wp2_with ((with_reducible refine g_dst 2 ?_); go_must (refine ev_box 2 rfl (cs := [.int .i64 5, .int .i64 n, .bool neg, .slice A mag.length c, .string ⟨text.toArray⟩, .slice Ai items.length ci, .slice Ar rest.length cr]) (by rfl) ?_); intro g w1 hb1 B1 hg1; have C1 := B1.cells)
      go_ret
      exact ⟨_, rfl, by rw [hL.out]; rfl, hb1⟩
    by_cases k6 : kind = 6
    · subst k6
      have hL : As (showL q (.mk 6 n neg A c mag text Ai ci items Ar cr rest) = listL q items rest) := ⟨by rw [showL, if_neg (by decide), if_neg (by decide), if_neg (by decide), if_neg (by decide), if_neg (by decide), if_pos rfl, listL]⟩
      clear hsl k1 k2 k3 k4 k5
      go_enter Tryd.func13, Tryd.ntmps13
      go_wp2_with (first
        | ((with_reducible refine g_dst 2 ?_); go_must (refine ev_box 2 rfl (cs := [.int .i64 6, .int .i64 n, .bool neg, .slice A mag.length c, .string ⟨text.toArray⟩, .slice Ai items.length ci, .slice Ar rest.length cr]) (by rfl) ?_); intro g w1 hb1 B1 hg1; have C1 := B1.cells)
        | (go_at_call 19; (with_reducible refine (list_any w q 6 n neg A c mag text Ai ci items Ar cr rest ri li rr lr HI.out HR.out him Hrl.out Hhl.out _ (bthen hw hb1)).mono ?_); rintro e w2 ⟨v2, rfl, rfl, hb2⟩))
      go_ret
      exact ⟨_, rfl, by rw [hL.out]; rfl, bthen hb1 hb2⟩
    by_cases k7 : kind = 7
    · subst k7
      have hrow := fun w' h => row_any w items q Ai ci ri li HI.out him (Nat.le_trans Hrl.out (by omega)) w' h
      have hTl := Hrl.out
      have hL : As (showL q (.mk 7 n neg A c mag text Ai ci items Ar cr rest) = [35, 40] ++ (Lib.join (showAll q items) [32] ++ [41])) := ⟨by rw [showL, if_neg (by decide), if_neg (by decide), if_neg (by decide), if_neg (by decide), if_neg (by decide), if_neg (by decide), if_pos rfl]⟩
      obtain ⟨T, hT⟩ : ∃ T, T = Lib.join (showAll q items) [32] := ⟨_, rfl⟩
      simp only [← hT] at hrow hTl hL
      have HRow := As.mk hrow
      clear hrow hT
      clear hsl k1 k2 k3 k4 k5 k6
      go_enter Tryd.func13, Tryd.ntmps13
      go_wp2_with (first
        | ((with_reducible refine g_dst 2 ?_); go_must (refine ev_box 2 rfl (cs := [.int .i64 7, .int .i64 n, .bool neg, .slice A mag.length c, .string ⟨text.toArray⟩, .slice Ai items.length ci, .slice Ar rest.length cr]) (by rfl) ?_); intro g w1 hb1 B1 hg1; have C1 := B1.cells)
        | (go_at_call 21; (with_reducible refine (HRow.out _ (bthen hw hb1)).mono ?_); rintro e w2 ⟨v2, rfl, rfl, hb2⟩; replace hb2 := bthen hb1 hb2)
        | ((with_reducible refine g_dst 54 ?_); go_must (refine ev_lit (v := fun g => .slice (some ⟨g, 0, none⟩) 3 3) 54 rfl (cs := [valT [35, 40], valT T, valT [41]]) (t := 9) (by go_simp; rfl) ?_); intro g3 w3 hb3 B3 hg3; replace hb3 := bthen hb2 hb3)
        | (go_at_call 20; (with_reducible refine (pieces3 [35, 40] T [41] _ _ _ (B3.rdm (l := [[35, 40], T, [41]]) encT_one) (by omega) (by simp; omega)).mono ?_); rintro e w5 ⟨v5, rfl, rfl, hb5⟩))
      go_ret
      exact ⟨_, rfl, by rw [hL.out]; simp, bthen hb3 hb5⟩
    by_cases k9 : kind = 9
    · subst k9
      have hL : As (showL q (.mk 9 n neg A c mag text Ai ci items Ar cr rest) = [35, 60, 112, 114, 111, 99, 101, 100, 117, 114, 101, 62]) := ⟨by rw [showL, if_neg (by decide), if_neg (by decide), if_neg (by decide), if_neg (by decide), if_neg (by decide), if_neg (by decide), if_neg (by decide), if_pos rfl]⟩
      clear hsl k1 k2 k3 k4 k5 k6 k7
      go_enter Tryd.func13, Tryd.ntmps13
      go_wp2_with ((with_reducible refine g_dst 2 ?_); go_must (refine ev_box 2 rfl (cs := [.int .i64 9, .int .i64 n, .bool neg, .slice A mag.length c, .string ⟨text.toArray⟩, .slice Ai items.length ci, .slice Ar rest.length cr]) (by rfl) ?_); intro g w1 hb1 B1 hg1; have C1 := B1.cells)
      go_ret
      exact ⟨_, rfl, by rw [hL.out]; rfl, hb1⟩
    by_cases k10 : kind = 10
    · subst k10
      have hcond : As (showL q (.mk 10 n neg A c mag text Ai ci items Ar cr rest) = ([35, 60, 99, 111, 110, 100, 105, 116, 105, 111, 110, 32] ++ text) ++ (((showAll true items).map fun x => 32 :: x).flatten ++ [62])) := ⟨by rw [showL, if_neg (by decide), if_neg (by decide), if_neg (by decide), if_neg (by decide), if_neg (by decide), if_neg (by decide), if_neg (by decide), if_neg (by decide), if_pos rfl]⟩
      obtain ⟨P, hP⟩ : ∃ P, P = [35, 60, 99, 111, 110, 100, 105, 116, 105, 111, 110, 32] ++ text := ⟨_, rfl⟩
      have hPl : P.length ≤ 2199023255552 := by rw [hP]; simp; omega
      rw [← hP] at hcond
      have hp : ∀ w g, Rd encT 1 w (some ⟨g, 0, none⟩) [[35, 60, 99, 111, 110, 100, 105, 116, 105, 111, 110, 32], text] → Calls Tryd.prog 20 #[.slice (some ⟨g, 0, none⟩) 2 2] w (Gives w fun v _ => v = .string ⟨P.toArray⟩) := fun w g hr => by
        rw [hP]; exact pieces2 _ text g 2 w hr (by omega) (by simp; omega)
      have HP := As.mk hp
      clear hp hP
      clear hsl k1 k2 k3 k4 k5 k6 k7 k9
      go_enter Tryd.func13, Tryd.ntmps13
      go_wp2_with (first
        | ((with_reducible refine g_dst 2 ?_); go_must (refine ev_box 2 rfl (cs := [.int .i64 10, .int .i64 n, .bool neg, .slice A mag.length c, .string ⟨text.toArray⟩, .slice Ai items.length ci, .slice Ar rest.length cr]) (by rfl) ?_); intro g w1 hb1 B1 hg1; have C1 := B1.cells)
        | ((with_reducible refine g_dst 62 ?_); go_must (refine ev_lit (v := fun g => .slice (some ⟨g, 0, none⟩) 2 2) 62 rfl (cs := [valT [35, 60, 99, 111, 110, 100, 105, 116, 105, 111, 110, 32], valT text]) (t := 9) (by go_simp; rfl) ?_); intro g2 w2 hb2 B2 hg2; replace B1 := B1.below hb2; replace hb2 := bthen hb1 hb2)
        | (go_at_call 20; (with_reducible refine (HP.out _ _ (B2.rdm (l := [[35, 60, 99, 111, 110, 100, 105, 116, 105, 111, 110, 32], text]) encT_one)).mono ?_); rintro e w3 ⟨v3, rfl, rfl, hb3⟩; replace B1 := B1.below hb3; clear C1; have C1 := B1.cells; replace hb3 := bthen hb2 hb3))
      clear C1
      go_loopw [5, 7, 67] (fun v u z wq => ∃ k : Nat, ∃ O : List UInt8, k ≤ items.length ∧ z = .int .i64 (k : Int) ∧ v = .string ⟨O.toArray⟩ ∧ As (O = P ++ ((showAll true (items.take k)).map fun x => 32 :: x).flatten) ∧ Below w'.heap.size w' wq) (fun v u z _ => items.length - (intOf z).toNat)
      case atStart => exact ⟨0, P, by omega, rfl, rfl, ⟨by simp [showAll]⟩, hb3⟩
      case round =>
        obtain ⟨k, O, hk, rfl, rfl, hO, hb⟩ := hrel
        have hOl : O.length ≤ 40000000000000 := by rw [hO.out, List.length_append]; have := Hcl.out k; omega
        have hww := bthen hw hb
        by_cases h : k < items.length
        · obtain ⟨b, off, rfl⟩ := ri.get (ne_nil_of_lt h)
          have hrk := (ri.below hww).cell k h
          have hsx := fun w' hb => HI.out _ (List.getElem_mem h) true w' hb
          have hst : P ++ ((showAll true (items.take (k + 1))).map fun x => 32 :: x).flatten = O ++ ([32] ++ showL true items[k]) := by
            rw [hO.out, showAll_map, showAll_map, List.take_succ_eq_append_getElem h, List.map_append, List.map_append, List.flatten_append, List.append_assoc]
            simp
          have hl1 := Hcl.out (k + 1)
          obtain ⟨x, hxe⟩ : ∃ x, x = items[k] := ⟨_, rfl⟩
          rw [← hxe] at hrk hsx hst
          obtain ⟨T, hT⟩ : ∃ T, T = showL true x := ⟨_, rfl⟩
          rw [← hT] at hst hsx
          obtain ⟨O2, hO2⟩ : ∃ O2, O2 = O ++ ([32] ++ T) := ⟨_, rfl⟩
          have hO2l : O2.length ≤ 40000000000000 := by rw [hO2, ← hst, List.length_append]; omega
          have hp3 : ∀ w g, Rd encT 1 w (some ⟨g, 0, none⟩) [O, [32], T] → Calls Tryd.prog 20 #[.slice (some ⟨g, 0, none⟩) 3 3] w (Gives w fun v _ => v = .string ⟨O2.toArray⟩) := fun w g hr => by
            have hll := congrArg List.length hO2
            simp only [List.length_append] at hll
            rw [hO2]; exact pieces3 O [32] T g 3 w hr (by omega) (by omega)
          have HP3 := As.mk hp3
          have HO2 : As (O2 = P ++ ((showAll true (items.take (k + 1))).map fun x => 32 :: x).flatten) := ⟨by rw [hO2, hst]⟩
          clear hxe hT hst hO2 hp3 hl1
          obtain ⟨kind', n', neg', mA, mc, mag', text', Ai', ci', items', Ar', cr', rest'⟩ := x
          simp only [encD] at hsx
          have HS := As.mk hsx
          clear hsx
          have c0 : wr.cell? ⟨b, off + k * 7, none⟩ = some (.int .i64 kind') := hrk 0 _ rfl
          have c1 := hrk 1 _ rfl
          have c2 := hrk 2 _ rfl
          have c3 := hrk 3 _ rfl
          have c4 := hrk 4 _ rfl
          have c5 := hrk 5 _ rfl
          have c6 := hrk 6 _ rfl
          clear hrk
          go_wp2_with (first
            | ((with_reducible refine g_dst 7 ?_); go_must (refine ev_alloc 7 rfl infoD (cs := [.int .i64 0, .int .i64 0, .bool false, .slice none 0 0, .string ⟨#[]⟩, .slice none 0 0, .slice none 0 0]) rfl ?_); intro g4 w4 hb4 B4 hg4)
            | ((with_reducible refine g_store 7 ?_); go_must (refine ev_store rfl rfl B4 (news := encD (.mk kind' n' neg' mA mc mag' text' Ai' ci' items' Ar' cr' rest')) (by rfl) infoD (by simp [encD]) (by simp [encD, Value.oneCell']) ?_); intro w5 ho5 B5; simp only [encD, List.take_zero, List.nil_append, List.length_cons, List.length_nil, List.drop_succ_cons, List.drop_zero, List.append_nil, List.cons_append] at B5; have hbw5 := bthen hb (hb4.trans (ho5.below hg4)); have C5 := B5.cells)
            | (go_at_call 13; (with_reducible refine (HS.out _ (bthen hw hbw5)).mono ?_); rintro e w6 ⟨v6, rfl, rfl, hb6⟩; have hbw6 := bthen hbw5 hb6)
            | ((with_reducible refine g_dst 74 ?_); go_must (refine ev_lit (v := fun g => .slice (some ⟨g, 0, none⟩) 3 3) 74 rfl (cs := [valT O, valT [32], valT T]) (t := 9) (by go_simp; rfl) ?_); intro g7 w7 hb7 B7 hg7; have hbw7 := bthen hbw6 hb7)
            | (go_at_call 20; (with_reducible refine (HP3.out _ _ (B7.rdm (l := [O, [32], T]) encT_one)).mono ?_); rintro e w8 ⟨v8, rfl, rfl, hb8⟩; have hbw8 := bthen hbw7 hb8))
          go_roundw
          case rel => exact ⟨k + 1, O2, by omega, by go_num, rfl, HO2, hbw8⟩
          case measure => simp [intOf]; omega
        · have hf : As (O ++ [62] = P ++ (((showAll true items).map fun x => 32 :: x).flatten ++ [62])) := ⟨by rw [hO.out, List.take_of_length_le (by omega), List.append_assoc]⟩
          go_wp2_with (first
            | ((with_reducible refine g_dst 78 ?_); go_must (refine ev_lit (v := fun g => .slice (some ⟨g, 0, none⟩) 2 2) 78 rfl (cs := [valT O, valT [62]]) (t := 9) (by go_simp; rfl) ?_); intro g7 w7 hb7 B7 hg7; have hbw7 := bthen hb hb7)
            | (go_at_call 20; (with_reducible refine (pieces2 O [62] _ _ _ (B7.rdm (l := [O, [62]]) encT_one) (by omega) (by simp; omega)).mono ?_); rintro e w8 ⟨v8, rfl, rfl, hb8⟩))
          go_ret
          exact ⟨_, rfl, by rw [hcond.out, ← hf.out]; rfl, bthen hbw7 hb8⟩
    have hL : As (showL q (.mk kind n neg A c mag text Ai ci items Ar cr rest) = [35, 60, 118, 111, 105, 100, 62]) := ⟨by rw [showL, if_neg k1, if_neg k2, if_neg k3, if_neg k4, if_neg k5, if_neg k6, if_neg k7, if_neg k9, if_neg k10]⟩
    have z1 : ((kind : Int) == 1) = false := by simpa using k1
    have z2 : ((kind : Int) == 2) = false := by simpa using k2
    have z3 : ((kind : Int) == 3) = false := by simpa using k3
    have z4 : ((kind : Int) == 4) = false := by simpa using k4
    have z5 : ((kind : Int) == 5) = false := by simpa using k5
    have z6 : ((kind : Int) == 6) = false := by simpa using k6
    have z7 : ((kind : Int) == 7) = false := by simpa using k7
    have z9 : ((kind : Int) == 9) = false := by simpa using k9
    have z10 : ((kind : Int) == 10) = false := by simpa using k10
    clear hsl k1 k2 k3 k4 k5 k6 k7 k9 k10
    go_enter Tryd.func13, Tryd.ntmps13
    go_wp2_with ((with_reducible refine g_dst 2 ?_); go_must (refine ev_box 2 rfl (cs := [.int .i64 kind, .int .i64 n, .bool neg, .slice A mag.length c, .string ⟨text.toArray⟩, .slice Ai items.length ci, .slice Ar rest.length cr]) (by rfl) ?_); intro g w1 hb1 B1 hg1; have C1 := B1.cells)
    go_ret
    exact ⟨_, rfl, by rw [hL.out]; rfl, hb1⟩
end Go.Proofs.YtgeokccfobmeiaaDoor
