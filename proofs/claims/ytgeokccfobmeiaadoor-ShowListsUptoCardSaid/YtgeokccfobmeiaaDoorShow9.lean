/- tandemref06.text: a datum's text. -/
import Derived.Test.YtgeokccfobmeiaaDoorShow8
namespace Go.Proofs.YtgeokccfobmeiaaDoor
open Go.RowKit Go.Proofs.YtgeokccfobmeiaaDoorL Go.Proofs.YtgeokccfobmeiaaDoorM
set_option linter.unusedVariables false
set_option linter.unusedSimpArgs false
theorem addL {P : Program} (w : World) (x y z : List UInt8) (h : z = x ++ y) (hl : z.length ≤ 9223372036854775807) : (Op.stringOp .add ⟨x.toArray⟩ ⟨y.toArray⟩).run P w = .ok (.string ⟨z.toArray⟩) w := by
  rw [h]; exact run_add_lists w x y (by rw [h, List.length_append] at hl; exact hl)
set_option maxRecDepth 8000 in
set_option maxHeartbeats 4000000 in
theorem rtext_ok (w : World) (x : LD) (h : Good w x) : wtD x ≤ 1073741824 → RefOK w x := by
  induction h with
  | @mk kind n neg A c mag text Ai ci items Ar cr rest hn1 hn2 lim ri li ni rr lr nr gi gr ihi ihr =>
    intro hwt q w' hw
    have hself := show_len (Good.mk (kind := kind) (neg := neg) (text := text) hn1 hn2 lim ri li ni rr lr nr gi gr)
    have hrl := row_len2 (l := items) (wr := !q) (fun y hy => show_len (gi y hy) (!q))
    have hhl := head_len (l := rest) (wr := !q) (fun y hy => show_len (gr y hy) (!q))
    have hcl := fun k => conds_len (l := items.take k) (fun y hy => show_len (gi y (List.mem_of_mem_take hy)) true)
    rw [wtD] at hwt hself
    have hil := wt_len items
    have htk : ∀ k, wtAll (items.take k) ≤ wtAll items := fun k => by
      have : ∀ (l : List LD) k, wtAll (l.take k) ≤ wtAll l := fun l => by
        induction l with
        | nil => intro k; simp [wtAll]
        | cons y l ih => intro k; cases k with
          | zero => simp [wtAll]
          | succ k => rw [List.take_succ_cons, wtAll, wtAll]; have := ih k; omega
      exact this items k
    have hiw : ∀ y ∈ items, RefOK w y := fun y hy => ihi y hy (by have := wt_mem hy; omega)
    have hrw : ∀ y ∈ rest, RefOK w y := fun y hy => ihr y hy (by have := wt_mem hy; omega)
    have HI := As.mk hiw
    have HR := As.mk hrw
    have hjl : ∀ k, (Lib.join (showAll (!q) (items.take k)) [32]).length ≤ 20 * wtAll (items.take k) := fun k => row_len2 (l := items.take k) (wr := !q) (fun y hy => show_len (gi y (List.mem_of_mem_take hy)) (!q))
    have Hjl : As (∀ k, (Lib.join (showAll (!q) (items.take k)) [32]).length ≤ 35184372088832) := ⟨fun k => by have := hjl k; have := htk k; omega⟩
    have Hhl := As.mk (show ((showAll (!q) rest).headD []).length ≤ 35184372088832 by omega)
    have Hrl := As.mk (show (Lib.join (showAll (!q) items) [32]).length ≤ 35184372088832 by omega)
    have Hcl : As (∀ k, ((showAll true (items.take k)).map fun x => 32 :: x).flatten.length ≤ 35184372088832) := ⟨fun k => by have := hcl k; have := htk k; omega⟩
    have htx : text.length ≤ 1099511627776 := by omega
    have him : items.length ≤ 1099511627776 := by omega
    clear ihi ihr hiw hrw hself hjl hrl hhl hcl htk gi gr hwt hil
    simp only [encD]
    have hsl : As (showL (!q) (.mk kind n neg A c mag text Ai ci items Ar cr rest) = showL (!q) (.mk kind n neg A c mag text Ai ci items Ar cr rest)) := ⟨rfl⟩
    by_cases k1 : kind = 1
    · subst k1
      have hL : As (showL (!q) (.mk 1 n neg A c mag text Ai ci items Ar cr rest) = numT neg (valB 4294967296 mag)) := ⟨by rw [showL, if_pos rfl]⟩
      clear hsl
      go_enter Tryd.func15, Tryd.ntmps15
      go_wp2_with (first
        | ((with_reducible refine g_dst 2 ?_); go_must (refine ev_box 2 rfl (cs := [.int .i64 1, .int .i64 n, .bool neg, .slice A mag.length c, .string ⟨text.toArray⟩, .slice Ai items.length ci, .slice Ar rest.length cr]) (by rfl) ?_); intro g w1 hb1 B1 hg1; have C1 := B1.cells)
        | (go_at_call 22; (with_reducible refine (rnumText_any mag neg A c _ (lim.below (bthen hw hb1))).mono ?_); rintro e w2 ⟨v2, rfl, rfl, hb2⟩))
      go_ret
      exact ⟨_, rfl, by rw [hL.out]; rfl, bthen hb1 hb2⟩
    by_cases k2 : kind = 2
    · subst k2
      have hL : As (showL (!q) (.mk 2 n neg A c mag text Ai ci items Ar cr rest) = (if n = 1 then [35, 116] else [35, 102])) := ⟨by rw [showL, if_neg (by decide), if_pos rfl]⟩
      clear hsl k1
      by_cases n1 : n = 1
      · subst n1
        go_enter Tryd.func15, Tryd.ntmps15
        go_wp2_with ((with_reducible refine g_dst 2 ?_); go_must (refine ev_box 2 rfl (cs := [.int .i64 2, .int .i64 1, .bool neg, .slice A mag.length c, .string ⟨text.toArray⟩, .slice Ai items.length ci, .slice Ar rest.length cr]) (by rfl) ?_); intro g w1 hb1 B1 hg1; have C1 := B1.cells)
        go_ret
        exact ⟨_, rfl, by rw [hL.out]; rfl, hb1⟩
      · have z : ((n : Int) == 1) = false := by simpa using n1
        have hL2 : As (showL (!q) (.mk 2 n neg A c mag text Ai ci items Ar cr rest) = [35, 102]) := ⟨by rw [hL.out, if_neg n1]⟩
        clear n1
        go_enter Tryd.func15, Tryd.ntmps15
        go_wp2_with ((with_reducible refine g_dst 2 ?_); go_must (refine ev_box 2 rfl (cs := [.int .i64 2, .int .i64 n, .bool neg, .slice A mag.length c, .string ⟨text.toArray⟩, .slice Ai items.length ci, .slice Ar rest.length cr]) (by rfl) ?_); intro g w1 hb1 B1 hg1; have C1 := B1.cells)
        go_ret
        exact ⟨_, rfl, by rw [hL2.out]; rfl, hb1⟩
    by_cases k3 : kind = 3
    · subst k3
      have hL : As (showL (!q) (.mk 3 n neg A c mag text Ai ci items Ar cr rest) = (if !q then charL n else [UInt8.ofNat (n % 256).toNat])) := ⟨by rw [showL, if_neg (by decide), if_neg (by decide), if_pos rfl]⟩
      clear hsl k1 k2
      cases q with
      | false =>
        go_enter Tryd.func15, Tryd.ntmps15
        go_wp2_with (first
          | ((with_reducible refine g_dst 2 ?_); go_must (refine ev_box 2 rfl (cs := [.int .i64 3, .int .i64 n, .bool neg, .slice A mag.length c, .string ⟨text.toArray⟩, .slice Ai items.length ci, .slice Ar rest.length cr]) (by rfl) ?_); intro g w1 hb1 B1 hg1; have C1 := B1.cells)
          | (go_at_call 23; (with_reducible refine (rchar_any n _ hn1 hn2).mono ?_); rintro e w2 ⟨v2, rfl, rfl, hb2⟩))
        go_ret
        exact ⟨_, rfl, by rw [hL.out]; rfl, bthen hb1 hb2⟩
      | true =>
        obtain ⟨k, hk⟩ : ∃ k : Nat, k = (n % 256).toNat := ⟨_, rfl⟩
        have hk2 : k < 256 := by omega
        have ek : IntKind.u8.wrap n = (k : Int) := by rw [IntKind.wrap_u8]; omega
        obtain ⟨y, hy⟩ : ∃ y, y = [UInt8.ofNat k] := ⟨_, rfl⟩
        have Hy := As.mk hy
        have hL2 : As (showL (!true) (.mk 3 n neg A c mag text Ai ci items Ar cr rest) = y) := ⟨by rw [hL.out, hy, hk]; rfl⟩
        clear hk hy
        go_enter Tryd.func15, Tryd.ntmps15
        go_wp2_with (first
          | ((with_reducible refine g_dst 2 ?_); go_must (refine ev_box 2 rfl (cs := [.int .i64 3, .int .i64 n, .bool neg, .slice A mag.length c, .string ⟨text.toArray⟩, .slice Ai items.length ci, .slice Ar rest.length cr]) (by rfl) ?_); intro g w1 hb1 B1 hg1; have C1 := B1.cells)
          | ((with_reducible refine g_dst 25 ?_); go_must (refine ev_lit (v := fun g => .slice (some ⟨g, 0, none⟩) 1 1) 25 rfl (cs := [valB8 k]) (t := 5) (by go_simp; rfl) ?_); intro g2 w2 hb2 B2 hg2; have hcv := conv_one hk2 B2; rw [← Hy.out] at hcv))
        go_ret
        exact ⟨_, rfl, by rw [hL2.out]; rfl, bthen hb1 hb2⟩
    by_cases k4 : kind = 4
    · subst k4
      have hL : As (showL (!q) (.mk 4 n neg A c mag text Ai ci items Ar cr rest) = (if !q then textL text else text)) := ⟨by rw [showL, if_neg (by decide), if_neg (by decide), if_neg (by decide), if_pos rfl]⟩
      clear hsl k1 k2 k3
      cases q with
      | false =>
        go_enter Tryd.func15, Tryd.ntmps15
        go_wp2_with (first
          | ((with_reducible refine g_dst 2 ?_); go_must (refine ev_box 2 rfl (cs := [.int .i64 4, .int .i64 n, .bool neg, .slice A mag.length c, .string ⟨text.toArray⟩, .slice Ai items.length ci, .slice Ar rest.length cr]) (by rfl) ?_); intro g w1 hb1 B1 hg1; have C1 := B1.cells)
          | (go_at_call 24; (with_reducible refine (rtext_any text _ htx).mono ?_); rintro e w2 ⟨v2, rfl, rfl, hb2⟩))
        go_ret
        exact ⟨_, rfl, by rw [hL.out]; rfl, bthen hb1 hb2⟩
      | true =>
        go_enter Tryd.func15, Tryd.ntmps15
        go_wp2_with ((with_reducible refine g_dst 2 ?_); go_must (refine ev_box 2 rfl (cs := [.int .i64 4, .int .i64 n, .bool neg, .slice A mag.length c, .string ⟨text.toArray⟩, .slice Ai items.length ci, .slice Ar rest.length cr]) (by rfl) ?_); intro g w1 hb1 B1 hg1; have C1 := B1.cells)
        go_ret
        exact ⟨_, rfl, by rw [hL.out]; rfl, hb1⟩
    by_cases k5 : kind = 5
    · subst k5
      have hL : As (showL (!q) (.mk 5 n neg A c mag text Ai ci items Ar cr rest) = text) := ⟨by rw [showL, if_neg (by decide), if_neg (by decide), if_neg (by decide), if_neg (by decide), if_pos rfl]⟩
      clear hsl k1 k2 k3 k4
      go_enter Tryd.func15, Tryd.ntmps15
      go_wp2_with ((with_reducible refine g_dst 2 ?_); go_must (refine ev_box 2 rfl (cs := [.int .i64 5, .int .i64 n, .bool neg, .slice A mag.length c, .string ⟨text.toArray⟩, .slice Ai items.length ci, .slice Ar rest.length cr]) (by rfl) ?_); intro g w1 hb1 B1 hg1; have C1 := B1.cells)
      go_ret
      exact ⟨_, rfl, by rw [hL.out]; rfl, hb1⟩
    by_cases k6 : kind = 6
    · subst k6
      have hL0 : showL (!q) (.mk 6 n neg A c mag text Ai ci items Ar cr rest) = listL (!q) items rest := by rw [showL, if_neg (by decide), if_neg (by decide), if_neg (by decide), if_neg (by decide), if_neg (by decide), if_pos rfl, listL]
      have hrow := fun w' h => many_any w items q Ai ci ri li HI.out him Hjl.out w' h
      have hTl := Hrl.out
      obtain ⟨T, hT⟩ : ∃ T, T = Lib.join (showAll (!q) items) [32] := ⟨_, rfl⟩
      simp only [← hT] at hrow hTl
      have HRow := As.mk hrow
      clear hrow
      by_cases c1 : rest.length = 0
      · have hL' : showL (!q) (.mk 6 n neg A c mag text Ai ci items Ar cr rest) = [40] ++ (T ++ [41]) := by rw [hL0, listL, if_pos c1, hT]
        obtain ⟨U1, hU1⟩ : ∃ U, U = [40] ++ T := ⟨_, rfl⟩
        obtain ⟨U2, hU2⟩ : ∃ U, U = U1 ++ [41] := ⟨_, rfl⟩
        have hU1l : U1.length ≤ 40000000000000 := by rw [hU1, List.length_append]; simp only [List.length_cons, List.length_nil]; omega
        have hU2l : U2.length ≤ 50000000000000 := by rw [hU2, List.length_append]; simp only [List.length_cons, List.length_nil]; omega
        have a1 : ∀ w : World, (Op.stringOp .add ⟨#[40]⟩ ⟨T.toArray⟩).run Tryd.prog w = .ok (.string ⟨U1.toArray⟩) w := fun w => addL w [40] T U1 hU1 (by omega)
        have a2 : ∀ w : World, (Op.stringOp .add ⟨U1.toArray⟩ ⟨#[41]⟩).run Tryd.prog w = .ok (.string ⟨U2.toArray⟩) w := fun w => addL w U1 [41] U2 hU2 (by omega)
        have hL : As (showL (!q) (.mk 6 n neg A c mag text Ai ci items Ar cr rest) = U2) := ⟨by rw [hL', hU2, hU1, List.append_assoc]⟩
        clear hT hU1 hU2 hL' hL0 hsl k1 k2 k3 k4 k5
        go_enter Tryd.func15, Tryd.ntmps15
        go_wp2_with (first
          | ((with_reducible refine g_dst 2 ?_); go_must (refine ev_box 2 rfl (cs := [.int .i64 6, .int .i64 n, .bool neg, .slice A mag.length c, .string ⟨text.toArray⟩, .slice Ai items.length ci, .slice Ar rest.length cr]) (by rfl) ?_); intro g w1 hb1 B1 hg1; have C1 := B1.cells)
          | (go_at_call 25; (with_reducible refine (HRow.out _ (bthen hw hb1)).mono ?_); rintro e w2 ⟨v2, rfl, rfl, hb2⟩; replace hb2 := bthen hb1 hb2))
        go_ret
        exact ⟨_, rfl, by rw [hL.out]; rfl, hb2⟩
      · have z1 : ((rest.length : Int) == 0) = false := by simp; intro h; exact c1 (by rw [h]; rfl)
        obtain ⟨x, r2, hx⟩ : ∃ x r2, rest = x :: r2 := by
          cases rest with
          | nil => exact absurd rfl c1
          | cons x r2 => exact ⟨x, r2, rfl⟩
        have hsx := fun w' hb => HR.out x (by rw [hx]; exact List.mem_cons_self ..) q w' hb
        obtain ⟨b, off, rfl⟩ := rr.get (by rw [hx]; simp)
        have hcl := rr.cell 0 (by omega)
        have hx0 : rest[0]'(by omega) = x := by simp [hx]
        rw [hx0] at hcl
        obtain ⟨H, hH⟩ : ∃ H, H = showL (!q) x := ⟨_, rfl⟩
        have hhead : (showAll (!q) rest).headD [] = H := by rw [hx, hH, showAll]; rfl
        have hlen2 := Hhl.out
        rw [hhead] at hlen2
        simp only [← hH] at hsx
        have Hrn := As.mk c1
        have hrl : 0 < rest.length := by omega
        have Hhead := As.mk hhead
        clear hx hx0 hH hhead
        obtain ⟨kind', n', neg', mA, mc, mag', text', Ai', ci', items', Ar', cr', rest'⟩ := x
        simp only [encD] at hsx
        have HS := As.mk hsx
        clear hsx
        have c0 : w.cell? ⟨b, off, none⟩ = some (.int .i64 kind') := hcl 0 _ rfl
        have c1' : w.cell? ⟨b, off + 1, none⟩ = some (.int .i64 n') := hcl 1 _ rfl
        have c2' : w.cell? ⟨b, off + 2, none⟩ = some (.bool neg') := hcl 2 _ rfl
        have c3' : w.cell? ⟨b, off + 3, none⟩ = some (.slice mA mag'.length mc) := hcl 3 _ rfl
        have c4' : w.cell? ⟨b, off + 4, none⟩ = some (.string ⟨text'.toArray⟩) := hcl 4 _ rfl
        have c5' : w.cell? ⟨b, off + 5, none⟩ = some (.slice Ai' items'.length ci') := hcl 5 _ rfl
        have c6' : w.cell? ⟨b, off + 6, none⟩ = some (.slice Ar' rest'.length cr') := hcl 6 _ rfl
        have kc : ∀ W, Below w.heap.size w W → ∀ o v, w.cell? ⟨b, o, none⟩ = some v → W.cell? ⟨b, o, none⟩ = some v := fun W hb o v h => (hb.cell (World.block_lt_of_cell? w _ h)).trans h
        have keep : As (∀ W, Below w.heap.size w W → W.cell? ⟨b, off, none⟩ = some (.int .i64 kind') ∧ W.cell? ⟨b, off + 1, none⟩ = some (.int .i64 n') ∧ W.cell? ⟨b, off + 2, none⟩ = some (.bool neg') ∧ W.cell? ⟨b, off + 3, none⟩ = some (.slice mA mag'.length mc) ∧ W.cell? ⟨b, off + 4, none⟩ = some (.string ⟨text'.toArray⟩) ∧ W.cell? ⟨b, off + 5, none⟩ = some (.slice Ai' items'.length ci') ∧ W.cell? ⟨b, off + 6, none⟩ = some (.slice Ar' rest'.length cr')) :=
          ⟨fun W hb => ⟨kc W hb _ _ c0, kc W hb _ _ c1', kc W hb _ _ c2', kc W hb _ _ c3', kc W hb _ _ c4', kc W hb _ _ c5', kc W hb _ _ c6'⟩⟩
        clear hcl c0 c1' c2' c3' c4' c5' c6' kc
        by_cases c2 : items.length = 0
        · have hL : As (showL (!q) (.mk 6 n neg A c mag text Ai ci items (some ⟨b, off, none⟩) cr rest) = H) := ⟨by rw [hL0, listL, if_neg Hrn.out, if_pos c2, Hhead.out]⟩
          clear hT c1 hsl hL0 k1 k2 k3 k4 k5
          go_enter Tryd.func15, Tryd.ntmps15
          go_wp2_with (first
            | ((with_reducible refine g_dst 2 ?_); go_must (refine ev_box 2 rfl (cs := [.int .i64 6, .int .i64 n, .bool neg, .slice A mag.length c, .string ⟨text.toArray⟩, .slice Ai items.length ci, .slice (some ⟨b, off, none⟩) rest.length cr]) (by rfl) ?_); intro g w1 hb1 B1 hg1; have C1 := B1.cells; obtain ⟨d0, d1, d2, d3, d4, d5, d6⟩ := keep.out _ (bthen hw hb1))
            | (go_at_call 15; (with_reducible refine (HS.out _ (bthen hw hb1)).mono ?_); rintro e w4 ⟨v4, rfl, rfl, hb4⟩))
          go_ret
          exact ⟨_, rfl, by rw [hL.out]; rfl, bthen hb1 hb4⟩
        · have z2 : ((items.length : Int) == 0) = false := by simp; intro h; exact c2 (by rw [h]; rfl)
          obtain ⟨U1, hU1⟩ : ∃ U, U = [40] ++ T := ⟨_, rfl⟩
          obtain ⟨U2, hU2⟩ : ∃ U, U = U1 ++ [32, 46, 32] := ⟨_, rfl⟩
          obtain ⟨U3, hU3⟩ : ∃ U, U = U2 ++ H := ⟨_, rfl⟩
          obtain ⟨U4, hU4⟩ : ∃ U, U = U3 ++ [41] := ⟨_, rfl⟩
          have hU1l : U1.length ≤ 35184372088833 := by rw [hU1, List.length_append]; simp only [List.length_cons, List.length_nil]; omega
          have hU2l : U2.length ≤ 35184372088836 := by rw [hU2, List.length_append]; simp only [List.length_cons, List.length_nil]; omega
          have hU3l : U3.length ≤ 80000000000000 := by rw [hU3, List.length_append]; omega
          have hU4l : U4.length ≤ 80000000000001 := by rw [hU4, List.length_append]; simp only [List.length_cons, List.length_nil]; omega
          have a1 : ∀ w : World, (Op.stringOp .add ⟨#[40]⟩ ⟨T.toArray⟩).run Tryd.prog w = .ok (.string ⟨U1.toArray⟩) w := fun w => addL w [40] T U1 hU1 (by omega)
          have a2 : ∀ w : World, (Op.stringOp .add ⟨U1.toArray⟩ ⟨#[32, 46, 32]⟩).run Tryd.prog w = .ok (.string ⟨U2.toArray⟩) w := fun w => addL w U1 [32, 46, 32] U2 hU2 (by omega)
          have a3 : ∀ w : World, (Op.stringOp .add ⟨U2.toArray⟩ ⟨H.toArray⟩).run Tryd.prog w = .ok (.string ⟨U3.toArray⟩) w := fun w => addL w U2 H U3 hU3 (by omega)
          have a4 : ∀ w : World, (Op.stringOp .add ⟨U3.toArray⟩ ⟨#[41]⟩).run Tryd.prog w = .ok (.string ⟨U4.toArray⟩) w := fun w => addL w U3 [41] U4 hU4 (by omega)
          have hL : As (showL (!q) (.mk 6 n neg A c mag text Ai ci items (some ⟨b, off, none⟩) cr rest) = U4) := ⟨by rw [hL0, listL, if_neg Hrn.out, if_neg c2, Hhead.out, ← hT, hU4, hU3, hU2, hU1]; simp⟩
          clear hT c1 c2 hsl hL0 hU1 hU2 hU3 hU4 k1 k2 k3 k4 k5
          go_enter Tryd.func15, Tryd.ntmps15
          go_wp2_with ((with_reducible refine g_dst 2 ?_); go_must (refine ev_box 2 rfl (cs := [.int .i64 6, .int .i64 n, .bool neg, .slice A mag.length c, .string ⟨text.toArray⟩, .slice Ai items.length ci, .slice (some ⟨b, off, none⟩) rest.length cr]) (by rfl) ?_); intro g w1 hb1 B1 hg1; have C1 := B1.cells)
          have hS : ∀ W, Below w1.heap.size w1 W → W.cell? ⟨g, 5, none⟩ = some (.slice Ai items.length ci) ∧ W.cell? ⟨g, 6, none⟩ = some (.slice (some ⟨b, off, none⟩) rest.length cr) ∧ W.cell? ⟨b, off, none⟩ = some (.int .i64 kind') ∧ W.cell? ⟨b, off + 1, none⟩ = some (.int .i64 n') ∧ W.cell? ⟨b, off + 2, none⟩ = some (.bool neg') ∧ W.cell? ⟨b, off + 3, none⟩ = some (.slice mA mag'.length mc) ∧ W.cell? ⟨b, off + 4, none⟩ = some (.string ⟨text'.toArray⟩) ∧ W.cell? ⟨b, off + 5, none⟩ = some (.slice Ai' items'.length ci') ∧ W.cell? ⟨b, off + 6, none⟩ = some (.slice Ar' rest'.length cr') := fun W hb => by
            have B := (B1.below hb).cells
            exact ⟨B 5, B 6, keep.out _ (bthen (bthen hw hb1) hb)⟩
          have hd := (Below.refl w1.heap.size w1).drew
          have hS0 := hS _ hd
          clear C1
          go_region_held3 (fun W => W.cell? ⟨g, 5, none⟩ = some (.slice Ai items.length ci) ∧ W.cell? ⟨g, 6, none⟩ = some (.slice (some ⟨b, off, none⟩) rest.length cr) ∧ W.cell? ⟨b, off, none⟩ = some (.int .i64 kind') ∧ W.cell? ⟨b, off + 1, none⟩ = some (.int .i64 n') ∧ W.cell? ⟨b, off + 2, none⟩ = some (.bool neg') ∧ W.cell? ⟨b, off + 3, none⟩ = some (.slice mA mag'.length mc) ∧ W.cell? ⟨b, off + 4, none⟩ = some (.string ⟨text'.toArray⟩) ∧ W.cell? ⟨b, off + 5, none⟩ = some (.slice Ai' items'.length ci') ∧ W.cell? ⟨b, off + 6, none⟩ = some (.slice Ar' rest'.length cr')) (first | assumption | exact hS _ hb2 | exact hS _ hb3) (first
            | (go_at_call 25; (with_reducible refine (HRow.out _ (bthen (bthen hw hb1) hd)).mono ?_); rintro e w2 ⟨v2, rfl, rfl, hb2⟩; replace hb2 := bthen hd hb2)
            | (go_at_call 15; (with_reducible refine (HS.out _ (bthen (bthen hw hb1) hb2)).mono ?_); rintro e w3 ⟨v3, rfl, rfl, hb3⟩; replace hb3 := bthen hb2 hb3))
          go_wp2
          go_ret
          exact ⟨_, rfl, by rw [hL.out]; rfl, bthen hb1 hb3⟩
    by_cases k7 : kind = 7
    · subst k7
      have hrow := fun w' h => many_any w items q Ai ci ri li HI.out him Hjl.out w' h
      have hTl := Hrl.out
      obtain ⟨T, hT⟩ : ∃ T, T = Lib.join (showAll (!q) items) [32] := ⟨_, rfl⟩
      simp only [← hT] at hrow hTl
      have HRow := As.mk hrow
      clear hrow
      have hL' : showL (!q) (.mk 7 n neg A c mag text Ai ci items Ar cr rest) = [35, 40] ++ (T ++ [41]) := by rw [showL, if_neg (by decide), if_neg (by decide), if_neg (by decide), if_neg (by decide), if_neg (by decide), if_neg (by decide), if_pos rfl, hT]
      obtain ⟨U1, hU1⟩ : ∃ U, U = [35, 40] ++ T := ⟨_, rfl⟩
      obtain ⟨U2, hU2⟩ : ∃ U, U = U1 ++ [41] := ⟨_, rfl⟩
      have hU1l : U1.length ≤ 40000000000000 := by rw [hU1, List.length_append]; simp only [List.length_cons, List.length_nil]; omega
      have hU2l : U2.length ≤ 50000000000000 := by rw [hU2, List.length_append]; simp only [List.length_cons, List.length_nil]; omega
      have a1 : ∀ w : World, (Op.stringOp .add ⟨#[35, 40]⟩ ⟨T.toArray⟩).run Tryd.prog w = .ok (.string ⟨U1.toArray⟩) w := fun w => addL w [35, 40] T U1 hU1 (by omega)
      have a2 : ∀ w : World, (Op.stringOp .add ⟨U1.toArray⟩ ⟨#[41]⟩).run Tryd.prog w = .ok (.string ⟨U2.toArray⟩) w := fun w => addL w U1 [41] U2 hU2 (by omega)
      have hL : As (showL (!q) (.mk 7 n neg A c mag text Ai ci items Ar cr rest) = U2) := ⟨by rw [hL', hU2, hU1, List.append_assoc]⟩
      clear hT hU1 hU2 hL'
      clear hsl k1 k2 k3 k4 k5 k6
      go_enter Tryd.func15, Tryd.ntmps15
      go_wp2_with (first
        | ((with_reducible refine g_dst 2 ?_); go_must (refine ev_box 2 rfl (cs := [.int .i64 7, .int .i64 n, .bool neg, .slice A mag.length c, .string ⟨text.toArray⟩, .slice Ai items.length ci, .slice Ar rest.length cr]) (by rfl) ?_); intro g w1 hb1 B1 hg1; have C1 := B1.cells)
        | (go_at_call 25; (with_reducible refine (HRow.out _ (bthen hw hb1)).mono ?_); rintro e w2 ⟨v2, rfl, rfl, hb2⟩; replace hb2 := bthen hb1 hb2))
      go_ret
      exact ⟨_, rfl, by rw [hL.out]; rfl, hb2⟩
    by_cases k9 : kind = 9
    · subst k9
      have hL : As (showL (!q) (.mk 9 n neg A c mag text Ai ci items Ar cr rest) = [35, 60, 112, 114, 111, 99, 101, 100, 117, 114, 101, 62]) := ⟨by rw [showL, if_neg (by decide), if_neg (by decide), if_neg (by decide), if_neg (by decide), if_neg (by decide), if_neg (by decide), if_neg (by decide), if_pos rfl]⟩
      clear hsl k1 k2 k3 k4 k5 k6 k7
      go_enter Tryd.func15, Tryd.ntmps15
      go_wp2_with ((with_reducible refine g_dst 2 ?_); go_must (refine ev_box 2 rfl (cs := [.int .i64 9, .int .i64 n, .bool neg, .slice A mag.length c, .string ⟨text.toArray⟩, .slice Ai items.length ci, .slice Ar rest.length cr]) (by rfl) ?_); intro g w1 hb1 B1 hg1; have C1 := B1.cells)
      go_ret
      exact ⟨_, rfl, by rw [hL.out]; rfl, hb1⟩
    by_cases k10 : kind = 10
    · subst k10
      have hcond : As (showL (!q) (.mk 10 n neg A c mag text Ai ci items Ar cr rest) = ([35, 60, 99, 111, 110, 100, 105, 116, 105, 111, 110, 32] ++ text) ++ (((showAll true items).map fun x => 32 :: x).flatten ++ [62])) := ⟨by rw [showL, if_neg (by decide), if_neg (by decide), if_neg (by decide), if_neg (by decide), if_neg (by decide), if_neg (by decide), if_neg (by decide), if_neg (by decide), if_pos rfl]⟩
      obtain ⟨P, hP⟩ : ∃ P, P = [35, 60, 99, 111, 110, 100, 105, 116, 105, 111, 110, 32] ++ text := ⟨_, rfl⟩
      have hPl : P.length ≤ 2199023255552 := by rw [hP]; simp; omega
      rw [← hP] at hcond
      have a1 : ∀ w : World, (Op.stringOp .add ⟨#[35, 60, 99, 111, 110, 100, 105, 116, 105, 111, 110, 32]⟩ ⟨text.toArray⟩).run Tryd.prog w = .ok (.string ⟨P.toArray⟩) w := fun w => addL w [35, 60, 99, 111, 110, 100, 105, 116, 105, 111, 110, 32] text P hP (by omega)
      clear hP
      clear hsl k1 k2 k3 k4 k5 k6 k7 k9
      go_enter Tryd.func15, Tryd.ntmps15
      go_wp2_with ((with_reducible refine g_dst 2 ?_); go_must (refine ev_box 2 rfl (cs := [.int .i64 10, .int .i64 n, .bool neg, .slice A mag.length c, .string ⟨text.toArray⟩, .slice Ai items.length ci, .slice Ar rest.length cr]) (by rfl) ?_); intro g w1 hb1 B1 hg1; have C1 := B1.cells)
      clear C1 a1
      go_loopw [5, 6] (fun v u wq => ∃ k : Nat, ∃ O : List UInt8, k ≤ items.length ∧ u = .int .i64 (k : Int) ∧ v = .string ⟨O.toArray⟩ ∧ As (O = P ++ ((showAll true (items.take k)).map fun x => 32 :: x).flatten) ∧ Below w1.heap.size w1 wq) (fun v u _ => items.length - (intOf u).toNat)
      case atStart => exact ⟨0, P, by omega, rfl, rfl, ⟨by simp [showAll]⟩, Below.refl _ _⟩
      case round =>
        obtain ⟨k, O, hk, rfl, rfl, hO, hb⟩ := hrel
        have hOl : O.length ≤ 40000000000000 := by rw [hO.out, List.length_append]; have := Hcl.out k; omega
        have hww := bthen (bthen hw hb1) hb
        have C1 := (B1.below hb).cells
        by_cases h : k < items.length
        · obtain ⟨b, off, rfl⟩ := ri.get (ne_nil_of_lt h)
          have hrk := (ri.below hww).cell k h
          have hsx := fun w' hb => HI.out _ (List.getElem_mem h) false w' hb
          have hst : P ++ ((showAll true (items.take (k + 1))).map fun x => 32 :: x).flatten = O ++ ([32] ++ showL true items[k]) := by
            rw [hO.out, showAll_map, showAll_map, List.take_succ_eq_append_getElem h, List.map_append, List.map_append, List.flatten_append, List.append_assoc]
            simp
          have hl1 := Hcl.out (k + 1)
          obtain ⟨x, hxe⟩ : ∃ x, x = items[k] := ⟨_, rfl⟩
          rw [← hxe] at hrk hsx hst
          simp only [Bool.not_false] at hsx
          obtain ⟨T, hT⟩ : ∃ T, T = showL true x := ⟨_, rfl⟩
          rw [← hT] at hst hsx
          obtain ⟨O1, hO1⟩ : ∃ O1, O1 = O ++ [32] := ⟨_, rfl⟩
          obtain ⟨O2, hO2⟩ : ∃ O2, O2 = O1 ++ T := ⟨_, rfl⟩
          have hO2e : O2 = O ++ ([32] ++ T) := by rw [hO2, hO1, List.append_assoc]
          have hO2l : O2.length ≤ 40000000000000 := by rw [hO2e, ← hst, List.length_append]; omega
          have hO1l : O1.length ≤ 40000000000001 := by rw [hO1, List.length_append]; simp only [List.length_cons, List.length_nil]; omega
          have a1 : ∀ w : World, (Op.stringOp .add ⟨O.toArray⟩ ⟨#[32]⟩).run Tryd.prog w = .ok (.string ⟨O1.toArray⟩) w := fun w => addL w O [32] O1 hO1 (by omega)
          have a2 : ∀ w : World, (Op.stringOp .add ⟨O1.toArray⟩ ⟨T.toArray⟩).run Tryd.prog w = .ok (.string ⟨O2.toArray⟩) w := fun w => addL w O1 T O2 hO2 (by omega)
          have HO2 : As (O2 = P ++ ((showAll true (items.take (k + 1))).map fun x => 32 :: x).flatten) := ⟨by rw [hO2e, hst]⟩
          clear hxe hT hst hO2 hO1 hO2e hl1
          obtain ⟨kind', n', neg', mA, mc, mag', text', Ai', ci', items', Ar', cr', rest'⟩ := x
          simp only [encD] at hsx
          have HS := As.mk hsx
          clear hsx
          have c0 : wr.cell? ⟨b, off + k * 7, none⟩ = some (.int .i64 kind') := hrk 0 _ rfl
          have c1 := hrk 1 _ rfl
          have c2 := hrk 2 _ rfl
          have c3 := hrk 3 _ rfl
          have c4 := hrk 4 _ rfl
          have c5 := hrk 5 _ rfl
          have c6 := hrk 6 _ rfl
          clear hrk
          go_wp2_with (go_at_call 15; (with_reducible refine (HS.out _ hww).mono ?_); rintro e w6 ⟨v6, rfl, rfl, hb6⟩; have hbw6 := bthen hb hb6)
          go_roundw
          case rel => exact ⟨k + 1, O2, by omega, by go_num, rfl, HO2, hbw6⟩
          case measure => simp [intOf]; omega
        · obtain ⟨O1, hO1⟩ : ∃ O1, O1 = O ++ [62] := ⟨_, rfl⟩
          have hf : As (O1 = P ++ (((showAll true items).map fun x => 32 :: x).flatten ++ [62])) := ⟨by rw [hO1, hO.out, List.take_of_length_le (by omega), List.append_assoc]⟩
          have a1 : ∀ w : World, (Op.stringOp .add ⟨O.toArray⟩ ⟨#[62]⟩).run Tryd.prog w = .ok (.string ⟨O1.toArray⟩) w := fun w => addL w O [62] O1 hO1 (by rw [hO1, List.length_append]; simp only [List.length_cons, List.length_nil]; omega)
          clear hO1
          go_wp2
          go_ret
          exact ⟨_, rfl, by rw [hcond.out, ← hf.out]; rfl, bthen hb1 hb⟩
    have hL : As (showL (!q) (.mk kind n neg A c mag text Ai ci items Ar cr rest) = [35, 60, 118, 111, 105, 100, 62]) := ⟨by rw [showL, if_neg k1, if_neg k2, if_neg k3, if_neg k4, if_neg k5, if_neg k6, if_neg k7, if_neg k9, if_neg k10]⟩
    have z1 : ((kind : Int) == 1) = false := by simpa using k1
    have z2 : ((kind : Int) == 2) = false := by simpa using k2
    have z3 : ((kind : Int) == 3) = false := by simpa using k3
    have z4 : ((kind : Int) == 4) = false := by simpa using k4
    have z5 : ((kind : Int) == 5) = false := by simpa using k5
    have z6 : ((kind : Int) == 6) = false := by simpa using k6
    have z7 : ((kind : Int) == 7) = false := by simpa using k7
    have z9 : ((kind : Int) == 9) = false := by simpa using k9
    have z10 : ((kind : Int) == 10) = false := by simpa using k10
    clear hsl k1 k2 k3 k4 k5 k6 k7 k9 k10
    go_enter Tryd.func15, Tryd.ntmps15
    go_wp2_with ((with_reducible refine g_dst 2 ?_); go_must (refine ev_box 2 rfl (cs := [.int .i64 kind, .int .i64 n, .bool neg, .slice A mag.length c, .string ⟨text.toArray⟩, .slice Ai items.length ci, .slice Ar rest.length cr]) (by rfl) ?_); intro g w1 hb1 B1 hg1; have C1 := B1.cells)
    go_ret
    exact ⟨_, rfl, by rw [hL.out]; rfl, hb1⟩
end Go.Proofs.YtgeokccfobmeiaaDoor
