import Derived.Test.YtdapbegadhcpcaaDoorMM
import Derived.Test.YtdapbegadhcpcaaDoorSames
import Derived.Test.YtdapbegadhcpcaaDoorMO
/- tandemlaw05.ReadBack. -/
namespace Go.Proofs.YtdapbegadhcpcaaDoor
open Go.RowKit Go.Proofs.YtdapbegadhcpcaaDoorL Go.Proofs.YtdapbegadhcpcaaDoorM
set_option linter.unusedVariables false
set_option linter.unusedSimpArgs false
theorem rwrite_any (x : LD) (w : World) (h : Good w x) (hwt : wtD x ≤ 1073741824) : Calls Tryd.prog 9 #[.agg (encD x).toArray] w (Gives w fun v _ => v = .string ⟨(showL true x).toArray⟩) := by
  have hs := fun w' hb => rtext_ok w x h hwt false w' hb
  simp only [Bool.not_false] at hs
  obtain ⟨T, hT⟩ : ∃ T, T = showL true x := ⟨_, rfl⟩
  simp only [← hT] at hs ⊢
  clear hT h hwt
  obtain ⟨kind, n, neg, A, c, mag, text, Ai, ci, items, Ar, cr, rest⟩ := x
  simp only [encD] at hs ⊢
  have HS := As.mk hs
  clear hs
  go_enter Tryd.func9, Tryd.ntmps9
  go_wp2_with (first
    | ((with_reducible refine g_dst 1 ?_); go_must (refine ev_box 1 rfl (cs := [.int .i64 kind, .int .i64 n, .bool neg, .slice A mag.length c, .string ⟨text.toArray⟩, .slice Ai items.length ci, .slice Ar rest.length cr]) (by rfl) ?_); intro g w1 hb1 B1 hg1; have C1 := B1.cells)
    | (go_at_call 17; (with_reducible refine (HS.out _ hb1).mono ?_); rintro e w2 ⟨v2, rfl, rfl, hb2⟩))
  go_ret
  exact ⟨_, rfl, rfl, bthen hb1 hb2⟩
theorem ow_capB {α : Type} {enc : α → List Value} {sz : Nat} {e : TypeId} {base : Nat} {w : World} {A : Option Addr} {c : Nat} {l : List α} (f : Ow enc sz e base w (.slice A l.length c) l) : l.length ≤ c := by
  obtain ⟨A', c', e, h, _⟩ := f.form
  cases e
  exact h
theorem wSeq_snoc (l : List DV) (x : DV) : wSeq (l ++ [x]) = wSeq l ++ (wV x ++ [32]) := by simp [wSeq]
set_option maxRecDepth 16000 in
set_option maxHeartbeats 8000000 in
theorem back_no (T : ByteArray) (p c : Nat) (w : World) (HA : As (∀ w : World, Calls Tryd.prog 7 #[.string T] w (Gives w fun v _ => v = .tuple #[.slice none 0 0, .int .i64 (p : Int), .int .i64 (c : Int)] ∧ c ≠ 0))) :
    Calls Tryd.prog 3 #[.string T] w (Gives w fun v _ => v = .bool true) := by
  go_enter Tryd.func3, Tryd.ntmps3
  go_wp2_with (first
    | (go_at_call 7; (with_reducible refine (HA.out _).mono ?_); rintro e1 w1 ⟨v1, rfl, ⟨rfl, hc⟩, hb1⟩; have hz : ((c : Int) != 0) = true := (by simpa using hc); clear hc)
    | (go_at_call 8; (with_reducible refine (awake_any _).mono ?_); rintro e3 w3 ⟨v3, rfl, rfl, hb3⟩; replace hb3 := bthen hb1 hb3))
  go_ret
  exact ⟨_, rfl, by simp, hb3⟩
set_option maxRecDepth 16000 in
set_option maxHeartbeats 8000000 in
theorem readBack_any (T : ByteArray) (w : World) : Calls Tryd.prog 3 #[.string T] w (Gives w fun v _ => v = .bool true) := by
  by_cases hT : T.size ≤ 65536
  case neg => exact back_no T 0 2 w ⟨fun w => (all_long hT).mono fun e w' ⟨v, he, hv, hb⟩ => ⟨v, he, ⟨hv, by decide⟩, hb⟩⟩
  obtain ⟨q, hq⟩ := all_ex T.data.toList (T.data.toList.length + 1) 0 [] (by omega)
  cases q with
  | error pc =>
    obtain ⟨p, c⟩ := pc
    exact back_no T p c w ⟨fun w => (all_any (w := w) hT _ hq).mono fun e w' ⟨v, he, hv, hb⟩ => ⟨v, he, ⟨hv.1, hv.2⟩, hb⟩⟩
  | ok l =>
    have hsl := size_list T
    have HA := As.mk (fun w => all_any (w := w) hT _ hq)
    have HRB : As (∀ x ∈ l, Rdb 100 x) := ⟨all_made hq rfl (fun y hy => nomatch hy)⟩
    have HWT : As (∀ x ∈ l, wtT x ≤ 1310720) := ⟨fun x hx => by
      have := all_wtT hq rfl (fun y hy => nomatch hy) x hx
      omega⟩
    clear hq hsl
    go_enter Tryd.func3, Tryd.ntmps3
    go_wp2_with (first
      | (go_at_call 7; (with_reducible refine (HA.out _).mono ?_); rintro e1 w1 ⟨v1, rfl, ⟨A, c, m, rfl, hi, hm⟩, hb1⟩; have HI := As.mk hi; have HM := As.mk hm; have hml : m.length = l.length := (by rw [← hi.same, erAll_len]); have HL := As.mk hml; clear hi hml hm HA))
    go_loopw [6, 7] (fun s v wr => ∃ (k : Nat) (p : List UInt8), s = .string ⟨p.toArray⟩ ∧ v = .int .i64 (k : Int) ∧ k ≤ m.length ∧ As (p = wSeq (l.take k)) ∧ As (p.length ≤ k * 26214400) ∧ Below w1.heap.size w1 wr) (fun _ v _ => m.length - (intOf v).toNat)
    case atStart => exact ⟨0, [], rfl, rfl, Nat.zero_le _, ⟨by simp [wSeq]⟩, ⟨by simp⟩, Below.refl _ _⟩
    case round =>
      obtain ⟨k, p, rfl, rfl, hk, hp, hpl, hb⟩ := hrel
      by_cases h : k < m.length
      · have hkl : k < l.length := by have := HL.out; omega
        have hey : erD m[k] = l[k] := by
          have e1 : (erAll m)[k]? = l[k]? := by rw [HI.out.same]
          rw [erAll_map, List.getElem?_map, List.getElem?_eq_getElem h, List.getElem?_eq_getElem hkl] at e1
          simpa using e1
        have hgm := HI.out.good _ (List.getElem_mem h)
        have hr := HI.out.ow.rd lenD
        obtain ⟨b, off, rfl⟩ := hr.get (ne_nil_of_lt h)
        have hrk := (hr.below hb).cell k h
        have hwt : wtD m[k] ≤ 1310720 := by rw [wtD_er, hey]; exact HWT.out _ (List.getElem_mem hkl)
        have hsh : showL true m[k] = wV l[k] := showL_er (HRB.out _ (List.getElem_mem hkl)) _ hey
        have hlen : (showL true m[k]).length + 1 ≤ 20 * wtD m[k] := show_len hgm true
        have hw := fun W (hW : Below w1.heap.size w1 W) => rwrite_any m[k] W (hgm.to hW) (by omega)
        obtain ⟨Y, hY⟩ : ∃ Y, Y = wV l[k] := ⟨_, rfl⟩
        rw [hsh, ← hY] at hw hlen
        obtain ⟨x, hx⟩ : ∃ x, x = m[k] := ⟨_, rfl⟩
        rw [← hx] at hrk hw
        obtain ⟨P1, HP1⟩ : ∃ P, As (P = p ++ Y) := ⟨_, ⟨rfl⟩⟩
        obtain ⟨P2, HP2⟩ : ∃ P, As (P = P1 ++ [32]) := ⟨_, ⟨rfl⟩⟩
        have HYL : As (Y.length + 1 ≤ 26214400) := ⟨by omega⟩
        have HPK : As (p.length ≤ 1717986918400) := ⟨by have := hpl.out; have := HM.out; have h9 : k * 26214400 ≤ 65536 * 26214400 := Nat.mul_le_mul_right _ (by omega); omega⟩
        have HPL : As (P2.length ≤ (k + 1) * 26214400) := ⟨by have := hpl.out; have := HYL.out; rw [HP2.out, HP1.out, Nat.succ_mul, List.length_append, List.length_append, List.length_singleton]; omega⟩
        have HPS : As (P2 = wSeq (l.take (k + 1))) := ⟨by rw [HP2.out, HP1.out, hp.out, hY, List.take_succ_eq_append_getElem hkl, wSeq_snoc, List.append_assoc]⟩
        have a1 : ∀ w : World, (Op.stringOp .add ⟨p.toArray⟩ ⟨Y.toArray⟩).run Tryd.prog w = .ok (.string ⟨P1.toArray⟩) w := fun w => by rw [HP1.out]; exact run_add_lists w p Y (by have := HPK.out; have := HYL.out; omega)
        have a2 : ∀ w : World, (Op.stringOp .add ⟨P1.toArray⟩ ⟨#[32]⟩).run Tryd.prog w = .ok (.string ⟨P2.toArray⟩) w := fun w => by rw [HP2.out]; exact run_add_lists w P1 [32] (by have := HPK.out; have := HYL.out; rw [HP1.out, List.length_append, List.length_singleton]; omega)
        obtain ⟨kind, n, neg, mA, mc, mag, text, Ai, ci, items, Ar, cr, rest⟩ := x
        simp only [encD] at hw
        have HW := As.mk hw
        have c0 : wr.cell? ⟨b, off + k * 7, none⟩ = some (.int .i64 kind) := hrk 0 _ rfl
        have c1 : wr.cell? ⟨b, off + k * 7 + 1, none⟩ = some (.int .i64 n) := hrk 1 _ rfl
        have c2 : wr.cell? ⟨b, off + k * 7 + 2, none⟩ = some (.bool neg) := hrk 2 _ rfl
        have c3 : wr.cell? ⟨b, off + k * 7 + 3, none⟩ = some (.slice mA mag.length mc) := hrk 3 _ rfl
        have c4 : wr.cell? ⟨b, off + k * 7 + 4, none⟩ = some (.string ⟨text.toArray⟩) := hrk 4 _ rfl
        have c5 : wr.cell? ⟨b, off + k * 7 + 5, none⟩ = some (.slice Ai items.length ci) := hrk 5 _ rfl
        have c6 : wr.cell? ⟨b, off + k * 7 + 6, none⟩ = some (.slice Ar rest.length cr) := hrk 6 _ rfl
        have hcm : (k : Int) < (m.length : Int) := by omega
        have hmB : m.length ≤ 65536 := HM.out
        clear hrk hw hx hY hlen hsh hwt hgm hr hey
        go_wp2_with (first
          | (go_at_call 9; (with_reducible refine (HW.out _ hb).mono ?_); rintro e2 w2 ⟨v2, rfl, rfl, hb2⟩; replace hb := bthen hb hb2))
        go_roundw
        case rel => exact ⟨k + 1, P2, rfl, by go_num, by omega, HPS, HPL, hb⟩
        case measure => simp [intOf]; omega
      · have hcm : ¬ (k : Int) < (m.length : Int) := by omega
        have hkm : k = l.length := by have := HL.out; omega
        have hps : p = wSeq l := by rw [hp.out, hkm, List.take_length]
        have hW0 := As.mk (bthen hb1 hb)
        have HIr := As.mk ((HI.out.below hb (Nat.le_refl _)).more hb.size)
        by_cases hp65 : p.length ≤ 65536
        · have hz65 : (⟨p.toArray⟩ : ByteArray).size ≤ 65536 := by simpa [ByteArray.size] using hp65
          have hz65i : ¬ (65536 : Int) < (p.length : Int) := by omega
          have hsq := seq_reads l HRB.out [] []
          rw [List.nil_append, List.nil_append, ← hps] at hsq
          have HA := As.mk (fun w => all_any (w := w) hz65 (.ok l) (by simpa using hsq))
          clear hsq hz65 hps hkm hb hb1
          have hb1 := hW0.out
          go_wp2_with (first
            | (go_at_call 7; (with_reducible refine (HA.out _).mono ?_); rintro e2 w2 ⟨v2, rfl, ⟨A2, c2, m2, rfl, hi, hm2⟩, hb2⟩; have HI2 := As.mk hi; have HI1 := As.mk (HIr.out.below hb2 (Nat.le_refl _)); clear hi hm2; replace hb1 := bthen hb1 hb2; have HS := As.mk (sameAll_any w2 m (fun x hx => same_ok w2 x (HI1.out.good x hx) (by have h8 := wt_le (erD x); have h9 := HWT.out (erD x) (by rw [← HI1.out.same, erAll_map]; exact List.mem_map_of_mem hx); omega)) A c (HI1.out.ow.rd lenD) (ow_capB HI1.out.ow) (by have := HM.out; omega) m2 A2 c2 w2 (Below.refl _ _) (HI2.out.ow.rd lenD) HI2.out.good (by rw [HI1.out.same, HI2.out.same]) (ow_capB HI2.out.ow)))
            | (go_at_call 10; (with_reducible refine HS.out.mono ?_); rintro e4 w4 ⟨v4, rfl, rfl, hb4⟩; replace hb1 := bthen hb1 hb4)
            | (go_at_call 8; (with_reducible refine (awake_any _).mono ?_); rintro e3 w3 ⟨v3, rfl, rfl, hb3⟩; replace hb1 := bthen hb1 hb3))
          go_ret
          exact ⟨_, rfl, by simp, hb1⟩
        · have hz65 : ¬ (⟨p.toArray⟩ : ByteArray).size ≤ 65536 := by simpa [ByteArray.size] using hp65
          have hz65i : (65536 : Int) < (p.length : Int) := by omega
          have HA := As.mk (fun w => all_long (w := w) hz65)
          clear hz65 hps hkm hb hb1
          have hb1 := hW0.out
          go_wp2_with (first
            | (go_at_call 7; (with_reducible refine (HA.out _).mono ?_); rintro e2 w2 ⟨v2, rfl, rfl, hb2⟩; replace hb1 := bthen hb1 hb2)
            | (go_at_call 8; (with_reducible refine (awake_any _).mono ?_); rintro e3 w3 ⟨v3, rfl, rfl, hb3⟩; replace hb1 := bthen hb1 hb3))
          go_ret
          exact ⟨_, rfl, by simp, hb1⟩
end Go.Proofs.YtdapbegadhcpcaaDoor
