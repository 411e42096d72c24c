import Derived.Test.YtgeokccfobmeiaaGreatDoorRdQ
import Derived.Test.YtgeokccfobmeiaaGreatDoorRdS
import Derived.Test.YtgeokccfobmeiaaGreatDoorSames
import Derived.Test.YtgeokccfobmeiaaGreatDoorLaw6b
/- tandemlaw06.ShowBack. -/
namespace Go.Proofs.YtgeokccfobmeiaaGreatDoor
open Go.RowKit Go.Proofs.YtgeokccfobmeiaaGreatDoorL Go.Proofs.YtgeokccfobmeiaaGreatDoorM
set_option linter.unusedVariables false
set_option linter.unusedSimpArgs false
theorem one0_any {w : World} {T : ByteArray} (hT : T.size ≤ 65536) (q : Rs) (hq : Run T.data.toList (.next 0 0) q) :
    Calls Tryz.prog 7 #[.string T, .int .i64 0] w (Gives w fun v w' => OneP w.heap.size w' v q) := one_any hT 0 (Nat.zero_le _) q hq
set_option maxRecDepth 16000 in
set_option maxHeartbeats 8000000 in
theorem sback_no (T : ByteArray) (p c : Nat) (w : World) (htab : Tab w) (HA : As (∀ w : World, Calls Tryz.prog 10 #[.string T] w (Gives w fun v _ => v = .tuple #[.slice none 0 0, .int .i64 (p : Int), .int .i64 (c : Int)] ∧ c ≠ 0))) :
    Calls Tryz.prog 4 #[.string T] w (Gives w fun v _ => v = .bool true) := by
  have HTab := As.mk htab
  clear htab
  go_enter Tryz.func4, Tryz.ntmps4
  go_wp2_with (first
    | (go_at_call 10; (with_reducible refine (HA.out _).mono ?_); rintro e1 w1 ⟨v1, rfl, ⟨rfl, hc⟩, hb1⟩; have hz : ((c : Int) != 0) = true := (by simpa using hc); clear hc)
    | (go_at_call 9; (with_reducible refine (awake_any _ (HTab.out.below hb1)).mono ?_); rintro e3 w3 ⟨v3, rfl, rfl, hb3⟩; replace hb3 := bthen hb1 hb3))
  go_ret
  exact ⟨_, rfl, by simp, hb3⟩
set_option maxRecDepth 16000 in
set_option maxHeartbeats 8000000 in
theorem showBack_any (T : ByteArray) (w : World) (htab : Tab w) : Calls Tryz.prog 4 #[.string T] w (Gives w fun v _ => v = .bool true) := by
  by_cases hT : T.size ≤ 65536
  case neg => exact sback_no T 0 2 w htab ⟨fun w => (all_long hT).mono fun e w' ⟨v, he, hv, hb⟩ => ⟨v, he, ⟨hv, by decide⟩, hb⟩⟩
  obtain ⟨q, hq⟩ := all_ex T.data.toList (T.data.toList.length + 1) 0 [] (by omega)
  cases q with
  | error pc =>
    obtain ⟨p, c⟩ := pc
    exact sback_no T p c w htab ⟨fun w => (all_any (w := w) hT _ hq).mono fun e w' ⟨v, he, hv, hb⟩ => ⟨v, he, ⟨hv.1, hv.2⟩, hb⟩⟩
  | ok l =>
    have hsl := size_list T
    have HTab := As.mk htab
    have HA := As.mk (fun w => all_any (w := w) hT _ hq)
    have HRB : As (∀ x ∈ l, Rdb 100 x) := ⟨all_made hq rfl (fun y hy => nomatch hy)⟩
    have HWT : As (∀ x ∈ l, wtT x ≤ 1310720) := ⟨fun x hx => by
      have := all_wtT hq rfl (fun y hy => nomatch hy) x hx
      omega⟩
    clear hq hsl htab
    go_enter Tryz.func4, Tryz.ntmps4
    go_wp2_with (first
      | (go_at_call 10; (with_reducible refine (HA.out _).mono ?_); rintro e1 w1 ⟨v1, rfl, ⟨A, c, m, rfl, hi, hm⟩, hb1⟩; have HI := As.mk hi; have hmB : m.length ≤ 65536 := hm; have hml : m.length = l.length := (by rw [← hi.same, erAll_len]); have HL := As.mk hml; clear hi hml hm HA))
    go_loopw [6] (fun v wr => ∃ (k : Nat), v = .int .i64 (k : Int) ∧ k ≤ m.length ∧ Below w1.heap.size w1 wr) (fun v _ => m.length - (intOf v).toNat)
    case atStart => exact ⟨0, rfl, Nat.zero_le _, Below.refl _ _⟩
    case round =>
      obtain ⟨k, rfl, hk, hb⟩ := hrel
      by_cases h : k < m.length
      · have hkl : k < l.length := by have := HL.out; omega
        have hey : erD m[k] = l[k] := by
          have e1 : (erAll m)[k]? = l[k]? := by rw [HI.out.same]
          rw [erAll_map, List.getElem?_map, List.getElem?_eq_getElem h, List.getElem?_eq_getElem hkl] at e1
          simpa using e1
        have hgm := HI.out.good _ (List.getElem_mem h)
        have hr := HI.out.ow.rd lenD
        obtain ⟨b, off, rfl⟩ := hr.get (ne_nil_of_lt h)
        have hrk := (hr.below hb).cell k h
        have HRD := As.mk hr
        have hwt : wtD m[k] ≤ 1310720 := by rw [wtD_er, hey]; exact HWT.out _ (List.getElem_mem hkl)
        have hsh : showL true m[k] = wV l[k] := showL_er (HRB.out _ (List.getElem_mem hkl)) _ hey
        have HW2 : As (wtV l[k] ≤ 1099511627776) := ⟨by have h8 := wt_le l[k]; have h9 := HWT.out _ (List.getElem_mem hkl); omega⟩
        have hw := fun W (hW : Below w1.heap.size w1 W) => write_any m[k] W ((HTab.out.below hb1).below hW) (hgm.to hW) (by omega)
        have HON := As.mk (one_reads (HRB.out _ (List.getElem_mem hkl)))
        obtain ⟨Y, hY⟩ : ∃ Y, Y = wV l[k] := ⟨_, rfl⟩
        rw [hsh, ← hY] at hw
        rw [← hY] at HON
        obtain ⟨y, hyl⟩ : ∃ y, y = l[k] := ⟨_, rfl⟩
        rw [← hyl] at HON hey HW2
        obtain ⟨x, hx⟩ : ∃ x, x = m[k] := ⟨_, rfl⟩
        rw [← hx] at hrk hw hgm hey
        have HXX := As.mk hx
        have HEY := As.mk hey
        have hcm : (k : Int) < (m.length : Int) := by omega
        obtain ⟨kind2, n2, neg2, mA2, mc2, mag2, text2, Ai2, ci2, items2, Ar2, cr2, rest2⟩ := x
        simp only [encD] at hw
        have HW := As.mk hw
        have c0 : wr.cell? ⟨b, off + k * 7, none⟩ = some (.int .i64 kind2) := hrk 0 _ rfl
        have c1 : wr.cell? ⟨b, off + k * 7 + 1, none⟩ = some (.int .i64 n2) := hrk 1 _ rfl
        have c2 : wr.cell? ⟨b, off + k * 7 + 2, none⟩ = some (.bool neg2) := hrk 2 _ rfl
        have c3 : wr.cell? ⟨b, off + k * 7 + 3, none⟩ = some (.slice mA2 mag2.length mc2) := hrk 3 _ rfl
        have c4 : wr.cell? ⟨b, off + k * 7 + 4, none⟩ = some (.string ⟨text2.toArray⟩) := hrk 4 _ rfl
        have c5 : wr.cell? ⟨b, off + k * 7 + 5, none⟩ = some (.slice Ai2 items2.length ci2) := hrk 5 _ rfl
        have c6 : wr.cell? ⟨b, off + k * 7 + 6, none⟩ = some (.slice Ar2 rest2.length cr2) := hrk 6 _ rfl
        clear hrk hw hx hyl hY hsh hwt hr hey
        by_cases hY65 : Y.length ≤ 65536
        · have hz65i : ¬ (65536 : Int) < (Y.length : Int) := by omega
          have hz65 : (⟨Y.toArray⟩ : ByteArray).size ≤ 65536 := by simpa [ByteArray.size] using hY65
          have HO := As.mk (fun w => one0_any (w := w) hz65 (.ok (y, Y.length)) (by simpa using HON.out))
          clear hz65 HON
          go_wp2_with (first
            | (go_at_call 6; (with_reducible refine (HW.out _ hb).mono ?_); rintro e2 w2 ⟨v2, rfl, rfl, hb2⟩; have hb2' := bthen hb hb2)
            | (go_at_call 7; (with_reducible refine (HO.out _).mono ?_); rintro e4 w4 ⟨v4, rfl, ⟨d, rfl, hgd, hfd, hed⟩, hb4⟩; have HED := As.mk hed; clear hed hfd; have HSM := As.mk (same_ok _ d hgd (by rw [HED.out]; exact HW2.out)); clear hgd; have hbw := bthen hb2' hb4; obtain ⟨kind1, n1, neg1, mA1, mc1, mag1, text1, Ai1, ci1, items1, Ar1, cr1, rest1⟩ := d)
            | ((with_reducible refine g_dst 8 ?_); go_must (refine ev_alloc 8 rfl infoD (cs := [.int .i64 0, .int .i64 0, .bool false, .slice none 0 0, .string ⟨#[]⟩, .slice none 0 0, .slice none 0 0]) rfl ?_); intro g8 w5 hb5 B8 hg8; replace hbw := bthen hbw hb5; have hb45 := hb5)
            | ((with_reducible refine g_store 8 ?_); go_must (refine ev_store rfl rfl B8 (news := [.int .i64 kind1, .int .i64 n1, .bool neg1, .slice mA1 mag1.length mc1, .string ⟨text1.toArray⟩, .slice Ai1 items1.length ci1, .slice Ar1 rest1.length cr1]) (by rfl) infoD (by simp) (by simp [Value.oneCell']) ?_); intro w6 ho Bn; simp only [encD, List.take_zero, List.nil_append, List.length_cons, List.length_nil, List.drop_succ_cons, List.drop_zero, List.append_nil, List.cons_append] at Bn; replace hb45 := hb45.trans (ho.below hg8); replace hbw := hbw.trans (ho.below (Nat.le_trans (bthen hb2' hb4).size hg8)); replace B8 := Bn; clear Bn ho))
          have hd := (Below.refl w6.heap.size w6).drew
          have hS : ∀ W : World, Below w6.heap.size w6 W → (W.cell? ⟨g8, 0, none⟩ = some (.int .i64 kind1) ∧ W.cell? ⟨g8, 1, none⟩ = some (.int .i64 n1) ∧ W.cell? ⟨g8, 2, none⟩ = some (.bool neg1) ∧ W.cell? ⟨g8, 3, none⟩ = some (.slice mA1 mag1.length mc1) ∧ W.cell? ⟨g8, 4, none⟩ = some (.string ⟨text1.toArray⟩) ∧ W.cell? ⟨g8, 5, none⟩ = some (.slice Ai1 items1.length ci1) ∧ W.cell? ⟨g8, 6, none⟩ = some (.slice Ar1 rest1.length cr1)) ∧ (W.cell? ⟨b, off + k * 7, none⟩ = some (.int .i64 kind2) ∧ W.cell? ⟨b, off + k * 7 + 1, none⟩ = some (.int .i64 n2) ∧ W.cell? ⟨b, off + k * 7 + 2, none⟩ = some (.bool neg2) ∧ W.cell? ⟨b, off + k * 7 + 3, none⟩ = some (.slice mA2 mag2.length mc2) ∧ W.cell? ⟨b, off + k * 7 + 4, none⟩ = some (.string ⟨text2.toArray⟩) ∧ W.cell? ⟨b, off + k * 7 + 5, none⟩ = some (.slice Ai2 items2.length ci2) ∧ W.cell? ⟨b, off + k * 7 + 6, none⟩ = some (.slice Ar2 rest2.length cr2)) := fun W hbW => by
            have q1 := (B8.below hbW).cells
            have q2 := (HRD.out.below (bthen hbw hbW)).cell k h
            rw [← HXX.out] at q2
            exact ⟨⟨q1 0, q1 1, q1 2, q1 3, q1 4, q1 5, q1 6⟩, ⟨q2 0 _ rfl, q2 1 _ rfl, q2 2 _ rfl, q2 3 _ rfl, q2 4 _ rfl, q2 5 _ rfl, q2 6 _ rfl⟩⟩
          have hS0 := hS _ hd
          have HC := As.mk (HSM.out (.mk kind2 n2 neg2 mA2 mc2 mag2 text2 Ai2 ci2 items2 Ar2 cr2 rest2) _ (bthen hb45 hd) (hgm.to (bthen hbw hd)) (by rw [HEY.out, HED.out]))
          simp only [encD] at HC
          clear HSM
          go_region_held3 (fun W => (W.cell? ⟨g8, 0, none⟩ = some (.int .i64 kind1) ∧ W.cell? ⟨g8, 1, none⟩ = some (.int .i64 n1) ∧ W.cell? ⟨g8, 2, none⟩ = some (.bool neg1) ∧ W.cell? ⟨g8, 3, none⟩ = some (.slice mA1 mag1.length mc1) ∧ W.cell? ⟨g8, 4, none⟩ = some (.string ⟨text1.toArray⟩) ∧ W.cell? ⟨g8, 5, none⟩ = some (.slice Ai1 items1.length ci1) ∧ W.cell? ⟨g8, 6, none⟩ = some (.slice Ar1 rest1.length cr1)) ∧ (W.cell? ⟨b, off + k * 7, none⟩ = some (.int .i64 kind2) ∧ W.cell? ⟨b, off + k * 7 + 1, none⟩ = some (.int .i64 n2) ∧ W.cell? ⟨b, off + k * 7 + 2, none⟩ = some (.bool neg2) ∧ W.cell? ⟨b, off + k * 7 + 3, none⟩ = some (.slice mA2 mag2.length mc2) ∧ W.cell? ⟨b, off + k * 7 + 4, none⟩ = some (.string ⟨text2.toArray⟩) ∧ W.cell? ⟨b, off + k * 7 + 5, none⟩ = some (.slice Ai2 items2.length ci2) ∧ W.cell? ⟨b, off + k * 7 + 6, none⟩ = some (.slice Ar2 rest2.length cr2))) (first | assumption | exact hS _ hb7) (first
            | (go_at_call 8; (with_reducible refine HC.out.mono ?_); rintro e7 w7 ⟨v7, rfl, rfl, hb7⟩; replace hb7 := bthen hd hb7))
          go_wp2
          go_roundw
          case rel => exact ⟨k + 1, by go_num, by omega, bthen hbw hb7⟩
          case measure => simp [intOf]; omega
        · have hz65i : (65536 : Int) < (Y.length : Int) := by omega
          go_wp2_with (first
            | (go_at_call 6; (with_reducible refine (HW.out _ hb).mono ?_); rintro e2 w2 ⟨v2, rfl, rfl, hb2⟩; replace hb := bthen hb hb2))
          go_roundw
          case rel => exact ⟨k + 1, by go_num, by omega, hb⟩
          case measure => simp [intOf]; omega
      · have hcm : ¬ (k : Int) < (m.length : Int) := by omega
        replace hb1 := bthen hb1 hb
        clear hb
        go_wp2_with (first
          | (go_at_call 9; (with_reducible refine (awake_any _ (HTab.out.below hb1)).mono ?_); rintro e3 w3 ⟨v3, rfl, rfl, hb3⟩; replace hb3 := bthen hb1 hb3))
        go_ret
        exact ⟨_, rfl, by simp, hb3⟩
end Go.Proofs.YtgeokccfobmeiaaGreatDoor
