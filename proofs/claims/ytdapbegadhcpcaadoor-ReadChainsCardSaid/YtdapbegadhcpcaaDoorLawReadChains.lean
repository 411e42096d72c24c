import Derived.Test.YtdapbegadhcpcaaDoorMM
import Derived.Test.YtdapbegadhcpcaaDoorRdS
import Derived.Test.YtdapbegadhcpcaaDoorSames
/- tandemlaw05.ReadChains. -/
namespace Go.Proofs.YtdapbegadhcpcaaDoor
open Go.RowKit Go.Proofs.YtdapbegadhcpcaaDoorL Go.Proofs.YtdapbegadhcpcaaDoorM
set_option linter.unusedVariables false
set_option linter.unusedSimpArgs false
set_option maxRecDepth 16000 in
set_option maxHeartbeats 8000000 in
theorem chains_no (T : ByteArray) (p c : Nat) (w : World) (HA : As (∀ w : World, Calls Tryd.prog 7 #[.string T] w (Gives w fun v _ => v = .tuple #[.slice none 0 0, .int .i64 (p : Int), .int .i64 (c : Int)] ∧ c ≠ 0))) :
    Calls Tryd.prog 6 #[.string T] w (Gives w fun v _ => v = .bool true) := by
  go_enter Tryd.func6, Tryd.ntmps6
  go_wp2_with (first
    | (go_at_call 7; (with_reducible refine (HA.out _).mono ?_); rintro e1 w1 ⟨v1, rfl, ⟨rfl, hc⟩, hb1⟩; have hz : ((c : Int) != 0) = true := (by simpa using hc); clear hc)
    | (go_at_call 8; (with_reducible refine (awake_any _).mono ?_); rintro e3 w3 ⟨v3, rfl, rfl, hb3⟩; replace hb3 := bthen hb1 hb3))
  go_ret
  exact ⟨_, rfl, by simp, hb3⟩
set_option maxRecDepth 16000 in
set_option maxHeartbeats 8000000 in
theorem readChains_any (T : ByteArray) (w : World) : Calls Tryd.prog 6 #[.string T] w (Gives w fun v _ => v = .bool true) := by
  by_cases hT : T.size ≤ 65536
  case neg => exact chains_no T 0 2 w ⟨fun w => (all_long hT).mono fun e w' ⟨v, he, hv, hb⟩ => ⟨v, he, ⟨hv, by decide⟩, hb⟩⟩
  obtain ⟨q, hq⟩ := all_ex T.data.toList (T.data.toList.length + 1) 0 [] (by omega)
  cases q with
  | error pc =>
    obtain ⟨p, c⟩ := pc
    exact chains_no T p c w ⟨fun w => (all_any (w := w) hT _ hq).mono fun e w' ⟨v, he, hv, hb⟩ => ⟨v, he, ⟨hv.1, hv.2⟩, hb⟩⟩
  | ok l =>
    have hsl := size_list T
    have HA := As.mk (fun w => all_any (w := w) hT _ hq)
    have HO := As.mk (fun w e he r hr => one_any (w := w) hT e he r hr)
    have Hq := As.mk hq
    clear hq
    go_enter Tryd.func6, Tryd.ntmps6
    go_wp2_with (first
      | (go_at_call 7; (with_reducible refine (HA.out _).mono ?_); rintro e1 w1 ⟨v1, rfl, ⟨A, c, m, rfl, hi, hm⟩, hb1⟩; have HI := As.mk hi; have hr := hi.ow.rd lenD; have hml : m.length = l.length := (by rw [← hi.same, erAll_len]); have HL := As.mk hml; clear hi hml))
    go_loopw [6, 7] (fun a v wr => ∃ (e k : Nat) (acc : List DV), a = .int .i64 (e : Int) ∧ v = .int .i64 (k : Int) ∧ k ≤ m.length ∧ e ≤ T.size ∧ acc.length = k ∧ As (AllR T.data.toList e acc (.ok l)) ∧ Below w1.heap.size w1 wr) (fun _ v _ => m.length - (intOf v).toNat)
    case atStart => exact ⟨0, 0, [], rfl, rfl, Nat.zero_le _, Nat.zero_le _, rfl, Hq, Below.refl _ _⟩
    case round =>
      obtain ⟨e, k, acc, rfl, rfl, hk, he, hak, Hal, hb⟩ := hrel
      have hcs := chain_step Hal.out (by omega)
      by_cases h : k < m.length
      · obtain ⟨y, f, m', hl, hrun, hef, hfs, hal⟩ : ∃ y f m', l = acc ++ y :: m' ∧ Run T.data.toList (.next 0 e) (.ok (y, f)) ∧ e < f ∧ f ≤ T.data.toList.length ∧ AllR T.data.toList f (acc ++ [y]) (.ok l) := by
          rcases hcs with ⟨hl, _⟩ | h2
          · have := HL.out; rw [hl] at this; omega
          · exact h2
        have hey : erD m[k] = y := by
          have e1 : (erAll m)[k]? = l[k]? := by rw [HI.out.same]
          rw [erAll_map, List.getElem?_map, List.getElem?_eq_getElem h, hl, List.getElem?_append_right (by omega), hak, Nat.sub_self] at e1
          simpa using e1
        have hwt : wtV y ≤ 1099511627776 := by
          have h9 : wtV y ≤ 3 * (f - e) := run_wt hrun
          omega
        have hfs2 : f ≤ T.size := by omega
        have HR := As.mk hrun
        have Hal2 := As.mk hal
        have hgm := HI.out.good _ (List.getElem_mem h)
        have HRD := As.mk hr
        obtain ⟨b, off, rfl⟩ := hr.get (ne_nil_of_lt h)
        clear hr hcs hl hrun hal
        obtain ⟨x, hx⟩ : ∃ x, x = m[k] := ⟨_, rfl⟩
        rw [← hx] at hey hgm
        have HXX := As.mk hx
        have HEY := As.mk hey
        have HWT := As.mk hwt
        clear hx hey hwt
        obtain ⟨kind2, n2, neg2, mA2, mc2, mag2, text2, Ai2, ci2, items2, Ar2, cr2, rest2⟩ := x
        have hcm : (k : Int) < (m.length : Int) := by omega
        have hfe : decide ((f : Int) ≤ (e : Int)) = false := by simp; omega
        have hfeN : decide (f ≤ e) = false := by simp; omega
        have hftN : decide (T.size < f) = false := by simp; omega
        have hft : decide ((T.size : Int) < (f : Int)) = false := by simp; omega
        go_wp2_with (first
          | (go_at_call 12; (with_reducible refine (HO.out _ e he _ HR.out).mono ?_); rintro e4 w4 ⟨v4, rfl, ⟨d, rfl, hgd, hfd, hed⟩, hb4⟩; have HED := As.mk hed; clear hed hfd; have HSM := As.mk (same_ok _ d hgd (by rw [HED.out]; exact HWT.out)); clear hgd; have hbw := bthen hb hb4; obtain ⟨kind1, n1, neg1, mA1, mc1, mag1, text1, Ai1, ci1, items1, Ar1, cr1, rest1⟩ := d)
          | ((with_reducible refine g_dst 8 ?_); go_must (refine ev_alloc 8 rfl infoD (cs := [.int .i64 0, .int .i64 0, .bool false, .slice none 0 0, .string ⟨#[]⟩, .slice none 0 0, .slice none 0 0]) rfl ?_); intro g8 w5 hb5 B8 hg8; replace hbw := bthen hbw hb5; have hb45 := hb5)
          | ((with_reducible refine g_store 8 ?_); go_must (refine ev_store rfl rfl B8 (news := [.int .i64 kind1, .int .i64 n1, .bool neg1, .slice mA1 mag1.length mc1, .string ⟨text1.toArray⟩, .slice Ai1 items1.length ci1, .slice Ar1 rest1.length cr1]) (by rfl) infoD (by simp) (by simp [Value.oneCell']) ?_); intro w6 ho Bn; simp only [encD, List.take_zero, List.nil_append, List.length_cons, List.length_nil, List.drop_succ_cons, List.drop_zero, List.append_nil, List.cons_append] at Bn; replace hb45 := hb45.trans (ho.below hg8); replace hbw := hbw.trans (ho.below (Nat.le_trans (bthen hb hb4).size hg8)); replace B8 := Bn; clear Bn ho))
        have hd := (Below.refl w6.heap.size w6).drew
        have hS : ∀ W : World, Below w6.heap.size w6 W → (W.cell? ⟨g8, 0, none⟩ = some (.int .i64 kind1) ∧ W.cell? ⟨g8, 1, none⟩ = some (.int .i64 n1) ∧ W.cell? ⟨g8, 2, none⟩ = some (.bool neg1) ∧ W.cell? ⟨g8, 3, none⟩ = some (.slice mA1 mag1.length mc1) ∧ W.cell? ⟨g8, 4, none⟩ = some (.string ⟨text1.toArray⟩) ∧ W.cell? ⟨g8, 5, none⟩ = some (.slice Ai1 items1.length ci1) ∧ W.cell? ⟨g8, 6, none⟩ = some (.slice Ar1 rest1.length cr1)) ∧ (W.cell? ⟨b, off + k * 7, none⟩ = some (.int .i64 kind2) ∧ W.cell? ⟨b, off + k * 7 + 1, none⟩ = some (.int .i64 n2) ∧ W.cell? ⟨b, off + k * 7 + 2, none⟩ = some (.bool neg2) ∧ W.cell? ⟨b, off + k * 7 + 3, none⟩ = some (.slice mA2 mag2.length mc2) ∧ W.cell? ⟨b, off + k * 7 + 4, none⟩ = some (.string ⟨text2.toArray⟩) ∧ W.cell? ⟨b, off + k * 7 + 5, none⟩ = some (.slice Ai2 items2.length ci2) ∧ W.cell? ⟨b, off + k * 7 + 6, none⟩ = some (.slice Ar2 rest2.length cr2)) := fun W hbW => by
          have q1 := (B8.below hbW).cells
          have q2 := (HRD.out.below (bthen hbw hbW)).cell k h
          rw [← HXX.out] at q2
          exact ⟨⟨q1 0, q1 1, q1 2, q1 3, q1 4, q1 5, q1 6⟩, ⟨q2 0 _ rfl, q2 1 _ rfl, q2 2 _ rfl, q2 3 _ rfl, q2 4 _ rfl, q2 5 _ rfl, q2 6 _ rfl⟩⟩
        have hS0 := hS _ hd
        have HC := As.mk (HSM.out (.mk kind2 n2 neg2 mA2 mc2 mag2 text2 Ai2 ci2 items2 Ar2 cr2 rest2) _ (bthen hb45 hd) (hgm.to (bthen hbw hd)) (by rw [HEY.out, HED.out]))
        simp only [encD] at HC
        clear HSM
        go_region_held3 (fun W => (W.cell? ⟨g8, 0, none⟩ = some (.int .i64 kind1) ∧ W.cell? ⟨g8, 1, none⟩ = some (.int .i64 n1) ∧ W.cell? ⟨g8, 2, none⟩ = some (.bool neg1) ∧ W.cell? ⟨g8, 3, none⟩ = some (.slice mA1 mag1.length mc1) ∧ W.cell? ⟨g8, 4, none⟩ = some (.string ⟨text1.toArray⟩) ∧ W.cell? ⟨g8, 5, none⟩ = some (.slice Ai1 items1.length ci1) ∧ W.cell? ⟨g8, 6, none⟩ = some (.slice Ar1 rest1.length cr1)) ∧ (W.cell? ⟨b, off + k * 7, none⟩ = some (.int .i64 kind2) ∧ W.cell? ⟨b, off + k * 7 + 1, none⟩ = some (.int .i64 n2) ∧ W.cell? ⟨b, off + k * 7 + 2, none⟩ = some (.bool neg2) ∧ W.cell? ⟨b, off + k * 7 + 3, none⟩ = some (.slice mA2 mag2.length mc2) ∧ W.cell? ⟨b, off + k * 7 + 4, none⟩ = some (.string ⟨text2.toArray⟩) ∧ W.cell? ⟨b, off + k * 7 + 5, none⟩ = some (.slice Ai2 items2.length ci2) ∧ W.cell? ⟨b, off + k * 7 + 6, none⟩ = some (.slice Ar2 rest2.length cr2))) (first | assumption | exact hS _ hb7) (first
          | (go_at_call 13; (with_reducible refine HC.out.mono ?_); rintro e7 w7 ⟨v7, rfl, rfl, hb7⟩; replace hb7 := bthen hd hb7))
        go_wp2
        go_roundw
        case rel => exact ⟨f, k + 1, acc ++ [y], rfl, by go_num, by omega, hfs2, by simp [hak], Hal2, bthen hbw hb7⟩
        case measure => simp [intOf]; omega
      · have hrun : Run T.data.toList (.next 0 e) (.error (T.size, 10)) := by
          rcases hcs with ⟨_, h2⟩ | ⟨y, f, m', hl, _⟩
          · rwa [hsl] at h2
          · have := HL.out
            rw [hl, List.length_append, List.length_cons] at this
            omega
        have HR := As.mk hrun
        clear hcs hrun
        go_wp2_with (first
          | (go_at_call 12; (with_reducible refine (HO.out _ e he _ HR.out).mono ?_); rintro e4 w4 ⟨v4, rfl, rfl, hb4⟩; replace hb1 := bthen hb1 (bthen hb hb4))
          | ((with_reducible refine g_dst 11 ?_); go_must (refine ev_alloc 11 rfl infoD (cs := [.int .i64 0, .int .i64 0, .bool false, .slice none 0 0, .string ⟨#[]⟩, .slice none 0 0, .slice none 0 0]) rfl ?_); intro g8 w5 hb5 B8 hg8; have hgw := Nat.le_trans hb1.size hg8; replace hb1 := bthen hb1 hb5)
          | ((with_reducible refine g_store 11 ?_); go_must (refine ev_store rfl rfl B8 (news := [.int .i64 0, .int .i64 0, .bool false, .slice none 0 0, .string ⟨#[]⟩, .slice none 0 0, .slice none 0 0]) (by rfl) infoD (by simp) (by simp [Value.oneCell']) ?_); intro w6 ho Bn; replace hb1 := hb1.trans (ho.below hgw); clear Bn ho)
          | (go_at_call 8; (with_reducible refine (awake_any _).mono ?_); rintro e3 w3 ⟨v3, rfl, rfl, hb3⟩; replace hb3 := bthen hb1 hb3))
        go_ret
        exact ⟨_, rfl, by simp, hb3⟩
end Go.Proofs.YtdapbegadhcpcaaDoor
