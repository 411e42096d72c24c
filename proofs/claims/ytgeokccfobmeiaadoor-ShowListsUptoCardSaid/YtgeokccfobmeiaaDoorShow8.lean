/- tandemref06.many. -/
import Derived.Test.YtgeokccfobmeiaaDoorShow7
namespace Go.Proofs.YtgeokccfobmeiaaDoor
open Go.RowKit Go.Proofs.YtgeokccfobmeiaaDoorL Go.Proofs.YtgeokccfobmeiaaDoorM
set_option linter.unusedVariables false
set_option linter.unusedSimpArgs false
theorem join_snoc (l : List (List UInt8)) (x sep : List UInt8) (h : l ≠ []) : Lib.join (l ++ [x]) sep = Lib.join l sep ++ (sep ++ x) := by
  cases l with
  | nil => exact absurd rfl h
  | cons y r =>
    rw [List.cons_append, Lib.join_cons, Lib.join_cons]
    simp [Lib.joinTail]
/-- the call tandemref06.text of a datum answers its text -/
def RefOK (w : World) (x : LD) : Prop := ∀ q w', Below w.heap.size w w' → Calls Tryd.prog 15 #[.agg (encD x).toArray, .bool q] w' (Gives w' fun v _ => v = .string ⟨(showL (!q) x).toArray⟩)
set_option maxRecDepth 100000 in
set_option maxHeartbeats 1000000 in
theorem many_any (w : World) (l : List LD) (q : Bool) (A : Option Addr) (c : Nat) (hr : Rd encD 7 w A l) (hc : l.length ≤ c) (hx : ∀ x ∈ l, RefOK w x) (hm : l.length ≤ 1099511627776) (hlen : ∀ k, (Lib.join (showAll (!q) (l.take k)) [32]).length ≤ 35184372088832)
    (w' : World) (hw : Below w.heap.size w w') : Calls Tryd.prog 25 #[.slice A l.length c, .bool q] w' (Gives w' fun v _ => v = .string ⟨(Lib.join (showAll (!q) l) [32]).toArray⟩) := by
  have HX := As.mk hx
  have HL := As.mk hlen
  clear hx hlen
  go_enter Tryd.func25, Tryd.ntmps25
  go_wp2
  go_loopw [5, 6] (fun v u wq => ∃ k : Nat, ∃ bs : List Nat, k ≤ l.length ∧ bs.length ≤ 35184372088832 ∧ u = .int .i64 (k : Int) ∧ As (bs = (Lib.join (showAll (!q) (l.take k)) [32]).map UInt8.toNat) ∧ Below w'.heap.size w' wq ∧ Ow encB 1 5 w'.heap.size wq v bs) (fun v u _ => l.length - (intOf u).toNat)
  case atStart => exact ⟨0, [], by omega, by simp, rfl, ⟨by simp [showAll, Lib.join_nil]⟩, Below.refl _ _, Ow.nil _ _ _ _ _⟩
  case round =>
    obtain ⟨k, bs, hk, hbl, rfl, hbs, hb, ho⟩ := hrel
    have HB := As.mk (show (bs.length + 1) * 1 ≤ 140737488355328 from by omega)
    have HM := As.mk (show bs.length + 1 ≤ maxLen from by simp only [maxLen]; omega)
    have hww := bthen hw hb
    by_cases h : k < l.length
    · obtain ⟨b, off, rfl⟩ := hr.get (ne_nil_of_lt h)
      have hrk := (hr.below hww).cell k h
      have hsx := fun w' hb => HX.out _ (List.getElem_mem h) q w' hb
      have hall : showAll (!q) (l.take (k + 1)) = showAll (!q) (l.take k) ++ [showL (!q) l[k]] := by
        rw [showAll_map, showAll_map, List.take_succ_eq_append_getElem h, List.map_append]; rfl
      have hl1 := HL.out (k + 1)
      have hl0 := HL.out k
      obtain ⟨x, hxe⟩ : ∃ x, x = l[k] := ⟨_, rfl⟩
      rw [← hxe] at hrk hsx hall
      obtain ⟨T, hT⟩ : ∃ T, T = showL (!q) x := ⟨_, rfl⟩
      rw [← hT] at hall hsx
      have hTl : T.length ≤ 35184372088832 := by
        rw [hall] at hl1
        by_cases hn : showAll (!q) (l.take k) = []
        · rw [hn, List.nil_append, Lib.join_one] at hl1; exact hl1
        · rw [join_snoc _ _ _ hn, List.length_append, List.length_append] at hl1; omega
      have hlk : (showAll (!q) (l.take k)).length = k := by rw [showAll_map, List.length_map, List.length_take]; omega
      have hxe2 := As.mk hxe.symm
      clear hxe hT
      obtain ⟨kind, n, neg, mA, mc, mag, text, Ai, ci, items, Ar, cr, rest⟩ := x
      simp only [encD] at hsx
      have HS := As.mk hsx
      clear hsx
      have c0 : wr.cell? ⟨b, off + k * 7, none⟩ = some (.int .i64 kind) := hrk 0 _ rfl
      have c1 := hrk 1 _ rfl
      have c2 := hrk 2 _ rfl
      have c3 := hrk 3 _ rfl
      have c4 := hrk 4 _ rfl
      have c5 := hrk 5 _ rfl
      have c6 := hrk 6 _ rfl
      have Hrk : As (∀ W, Below w.heap.size w W → W.cell? ⟨b, off + k * 7, none⟩ = some (.int .i64 kind) ∧ W.cell? ⟨b, off + k * 7 + 1, none⟩ = some (.int .i64 n) ∧ W.cell? ⟨b, off + k * 7 + 2, none⟩ = some (.bool neg) ∧ W.cell? ⟨b, off + k * 7 + 3, none⟩ = some (.slice mA mag.length mc) ∧ W.cell? ⟨b, off + k * 7 + 4, none⟩ = some (.string ⟨text.toArray⟩) ∧ W.cell? ⟨b, off + k * 7 + 5, none⟩ = some (.slice Ai items.length ci) ∧ W.cell? ⟨b, off + k * 7 + 6, none⟩ = some (.slice Ar rest.length cr)) := ⟨fun W hb => by
        have hk2 := (hr.below hb).cell k h
        rw [hxe2.out] at hk2
        exact ⟨hk2 0 _ rfl, hk2 1 _ rfl, hk2 2 _ rfl, hk2 3 _ rfl, hk2 4 _ rfl, hk2 5 _ rfl, hk2 6 _ rfl⟩⟩
      clear hrk
      by_cases k0 : k = 0
      · have hst : As (bs ++ T.map UInt8.toNat = (Lib.join (showAll (!q) (l.take (k + 1))) [32]).map UInt8.toNat) := ⟨by
          rw [hbs.out, hall, k0, List.take_zero]; simp [showAll, Lib.join_nil, Lib.join_one]⟩
        have hbz : As (bs = []) := ⟨by rw [hbs.out, k0, List.take_zero]; simp [showAll, Lib.join_nil]⟩
        have z0 : decide ((0 : Int) < (k : Int)) = false := by simp; omega
        have z1 : decide (0 < k) = false := by simp; omega
        clear hall hl1 hl0 hlk k0
        go_wp2_with (first
          | (go_at_call 15; (with_reducible refine (HS.out _ hww).mono ?_); rintro e w4 ⟨v4, rfl, rfl, hb4⟩; replace ho := ho.below hb4; have hbw4 := bthen hb hb4)
          | ((with_reducible refine g_dst 25 ?_); go_must (refine ev_append_str 25 Tryd.underlying38 Tryd.underlying9 infoB rfl ho (y := T) rfl (by omega) hbw4.size ?_); intro v5 w5 ho5 hg5; have hbw5 := ho.grown hbw4 hg5 (Nat.le_refl _) hbw4.size))
        go_roundw
        case rel => exact ⟨k + 1, bs ++ T.map UInt8.toNat, by omega, by rw [hbz.out]; simpa using hTl, by go_num, ⟨hst.out⟩, hbw5, ho5⟩
        case measure => simp [intOf]; omega
      · have hne : showAll (!q) (l.take k) ≠ [] := fun e => by rw [e] at hlk; exact k0 hlk.symm
        have hst : As ((bs ++ [32]) ++ T.map UInt8.toNat = (Lib.join (showAll (!q) (l.take (k + 1))) [32]).map UInt8.toNat) := ⟨by
          rw [hbs.out, hall, join_snoc _ _ _ hne]; simp⟩
        have hl2 : As (((bs ++ [32]) ++ T.map UInt8.toNat).length ≤ 35184372088832) := ⟨by rw [hst.out, List.length_map]; exact hl1⟩
        have z0 : decide ((0 : Int) < (k : Int)) = true := by simp; omega
        have z1 : decide (0 < k) = true := by simp; omega
        clear hall hl1 hl0 hlk k0 hne
        go_wp2_with (first
          | ((with_reducible refine g_dst 16 ?_); go_must (refine ev_lit (v := fun g => .slice (some ⟨g, 0, none⟩) 1 1) 16 rfl (cs := [valB8 32]) (t := 5) (by go_simp; rfl) ?_); intro g2 w2 hb2 B2 hg2; replace ho := ho.below hb2; have hbw2 := bthen hb hb2; clear hb2)
          | ((with_reducible refine g_dst 17 ?_); go_must (refine ev_append 17 rfl Tryd.underlying38 infoB rfl (by decide) rfl ho rfl rfl (B2.rdm (l := [32]) encB_one) lenB oneB (fun h => by cases h) HB.out HM.out hbw2.size ?_); intro v3 w3 ho3 hg3; have hbw3 := ho.grown hbw2 hg3 (Nat.le_refl _) hbw2.size; obtain ⟨d0, d1, d2, d3, d4, d5, d6⟩ := Hrk.out _ (bthen hw hbw3))
          | (go_at_call 15; (with_reducible refine (HS.out _ (bthen hw hbw3)).mono ?_); rintro e w4 ⟨v4, rfl, rfl, hb4⟩; replace ho3 := ho3.below hb4; have hbw4 := bthen hbw3 hb4)
          | ((with_reducible refine g_dst 25 ?_); go_must (refine ev_append_str 25 Tryd.underlying38 Tryd.underlying9 infoB rfl ho3 (y := T) rfl (by rw [List.length_append, List.length_singleton]; omega) hbw4.size ?_); intro v5 w5 ho5 hg5; have hbw5 := ho3.grown hbw4 hg5 (Nat.le_refl _) hbw4.size))
        go_roundw
        case rel => exact ⟨k + 1, (bs ++ [32]) ++ T.map UInt8.toNat, by omega, hl2.out, by go_num, ⟨hst.out⟩, hbw5, ho5⟩
        case measure => simp [intOf]; omega
    · have hf : As (bs = (Lib.join (showAll (!q) l) [32]).map UInt8.toNat) := ⟨by rw [hbs.out, List.take_of_length_le (by omega)]⟩
      obtain ⟨T, hT⟩ : ∃ T, T = Lib.join (showAll (!q) l) [32] := ⟨_, rfl⟩
      have hs : As (sB bs = ⟨T.toArray⟩) := ⟨by rw [hf.out, sB_nat, hT]⟩
      have HT := As.mk hT
      clear hT
      by_cases hz : bs.length = 0
      · have hbz : bs = [] := List.eq_nil_of_length_eq_zero hz
        subst hbz
        rcases ho.own.2 with ⟨rfl, _⟩ | ⟨g, cap, cur, rfl, _⟩
        · have hcv : (convert 38 9 (.slice none 0 0)).run Tryd.prog wr = .ok (.string ⟨T.toArray⟩) wr := by
            rw [← hs.out]
            exact run_convert_bytes_nil (P := Tryd.prog) wr 38 5 Tryd.underlying38 Tryd.underlying5 0 0 9 Tryd.underlying9
          go_wp2
          go_ret
          exact ⟨_, rfl, by rw [← HT.out]; rfl, hb⟩
        · have hcv : (convert 38 9 (.slice (some ⟨g, 0, none⟩) 0 cap)).run Tryd.prog wr = .ok (.string ⟨T.toArray⟩) wr := by
            rw [← hs.out]
            exact conv_bytes (P := Tryd.prog) (src := 38) (dst := 9) (w := wr) (cap := cap) (l := []) Tryd.underlying38 Tryd.underlying5 Tryd.underlying9 (Rd.nil _ _ _ _)
          simp only [List.length_nil] at *
          go_wp2
          go_ret
          exact ⟨_, rfl, by rw [← HT.out]; rfl, hb⟩
      · obtain ⟨A3, c3, rfl, h31, h32⟩ := ho.form
        obtain ⟨b3, o3, rfl⟩ := (ho.rd lenB).get (fun e => hz (by rw [e]; rfl))
        have hcv := conv_bytes (P := Tryd.prog) (src := 38) (dst := 9) (w := wr) (cap := c3) Tryd.underlying38 Tryd.underlying5 Tryd.underlying9 (ho.rd lenB)
        rw [hs.out] at hcv
        go_wp2
        go_ret
        exact ⟨_, rfl, by rw [← HT.out]; rfl, hb⟩
end Go.Proofs.YtgeokccfobmeiaaDoor
