/- show.row. -/
import Derived.Test.YtgeokccfobmeiaaDoorTree
namespace Go.Proofs.YtgeokccfobmeiaaDoor
open Go.RowKit Go.Proofs.YtgeokccfobmeiaaDoorL Go.Proofs.YtgeokccfobmeiaaDoorM
set_option linter.unusedVariables false
set_option linter.unusedSimpArgs false
theorem infoD : (Tryd.prog.info? 27).map (fun i => (i.zero, i.size, i.bytes)) = some (some (.agg #[.int .i64 0, .int .i64 0, .bool false, .slice none 0 0, .string ⟨#[]⟩, .slice none 0 0, .slice none 0 0]), 7, 112) := by kernel_rfl
/-- the call show.shown of a datum answers its text -/
def ShownOK (w : World) (x : LD) : Prop := ∀ wr w', Below w.heap.size w w' → Calls Tryd.prog 13 #[.agg (encD x).toArray, .bool wr] w' (Gives w' fun v _ => v = .string ⟨(showL wr x).toArray⟩)
set_option maxHeartbeats 1000000 in
theorem row_any (w : World) (l : List LD) (q : Bool) (A : Option Addr) (c : Nat) (hr : Rd encD 7 w A l) (hc : l.length ≤ c) (hx : ∀ x ∈ l, ShownOK w x) (hm : l.length ≤ 1099511627776) (hlen : (Lib.join (showAll q l) [32]).length ≤ 140737488355328)
    (w' : World) (hw : Below w.heap.size w w') : Calls Tryd.prog 21 #[.slice A l.length c, .bool q] w' (Gives w' fun v _ => v = .string ⟨(Lib.join (showAll q l) [32]).toArray⟩) := by
  have HX := As.mk hx
  have HL := As.mk hlen
  clear hx hlen
  go_enter Tryd.func21, Tryd.ntmps21
  go_wp2
  go_loopw [5, 7, 10] (fun v u z wq => ∃ k : Nat, ∃ bs : List (List UInt8), k ≤ l.length ∧ bs.length = k ∧ z = .int .i64 (k : Int) ∧ As (bs = showAll q (l.take k)) ∧ Below w'.heap.size w' wq ∧ Ow encT 1 9 w'.heap.size wq v bs) (fun v u z _ => l.length - (intOf z).toNat)
  case atStart => exact ⟨0, [], by omega, rfl, rfl, ⟨by simp [showAll]⟩, Below.refl _ _, Ow.nil _ _ _ _ _⟩
  case round =>
    obtain ⟨k, bs, hk, hbl, rfl, hbs, hb, ho⟩ := hrel
    have HB := As.mk (show (bs.length + 1) * 16 ≤ 140737488355328 from by omega)
    have HM := As.mk (show bs.length + 1 ≤ maxLen from by simp only [maxLen]; omega)
    have Hbl := As.mk hbl
    clear hbl
    have hww := bthen hw hb
    by_cases h : k < l.length
    · obtain ⟨b, off, rfl⟩ := hr.get (ne_nil_of_lt h)
      have hrk := (hr.below hww).cell k h
      have hsx := fun w' hb => HX.out _ (List.getElem_mem h) q w' hb
      have hst : As (bs ++ [showL q l[k]] = showAll q (l.take (k + 1))) := ⟨by
        rw [hbs.out, showAll_map, showAll_map, List.take_succ_eq_append_getElem h, List.map_append]; rfl⟩
      obtain ⟨x, hxe⟩ : ∃ x, x = l[k] := ⟨_, rfl⟩
      rw [← hxe] at hrk hsx hst
      obtain ⟨T, hT⟩ : ∃ T, T = showL q x := ⟨_, rfl⟩
      rw [← hT] at hst hsx
      clear hxe hT
      obtain ⟨kind, n, neg, mA, mc, mag, text, Ai, ci, items, Ar, cr, rest⟩ := x
      simp only [encD] at hsx
      have HS := As.mk hsx
      clear hsx
      have c0 : wr.cell? ⟨b, off + k * 7, none⟩ = some (.int .i64 kind) := hrk 0 _ rfl
      have c1 := hrk 1 _ rfl
      have c2 := hrk 2 _ rfl
      have c3 := hrk 3 _ rfl
      have c4 := hrk 4 _ rfl
      have c5 := hrk 5 _ rfl
      have c6 := hrk 6 _ rfl
      clear hrk
      go_wp2_with (first
        | ((with_reducible refine g_dst 7 ?_); go_must (refine ev_alloc 7 rfl infoD (cs := [.int .i64 0, .int .i64 0, .bool false, .slice none 0 0, .string ⟨#[]⟩, .slice none 0 0, .slice none 0 0]) rfl ?_); intro g2 w2 hb2 B2 hg2)
        | ((with_reducible refine g_store 7 ?_); go_must (refine ev_store rfl rfl B2 (news := encD (.mk kind n neg mA mc mag text Ai ci items Ar cr rest)) (by rfl) infoD (by simp [encD]) (by simp [encD, Value.oneCell']) ?_); intro w3 ho3 B3; simp only [encD, List.take_zero, List.nil_append, List.length_cons, List.length_nil, List.drop_succ_cons, List.drop_zero, List.append_nil, List.cons_append] at B3; have hb3 := hb2.trans (ho3.below hg2); have hbw3 := bthen hb hb3; replace ho := ho.below hb3; have C3 := B3.cells)
        | (go_at_call 13; (with_reducible refine (HS.out _ (bthen hw hbw3)).mono ?_); rintro e w4 ⟨v4, rfl, rfl, hb4⟩; replace ho := ho.below hb4; have hbw4 := bthen hbw3 hb4)
        | ((with_reducible refine g_dst 18 ?_); go_must (refine ev_lit (v := fun g => .slice (some ⟨g, 0, none⟩) 1 1) 18 rfl (cs := [valT T]) (t := 9) (by go_simp; rfl) ?_); intro g6 w6 hb6 B6 hg6; replace ho := ho.below hb6; have hbw6 := bthen hbw4 hb6; clear hb6)
        | ((with_reducible refine g_dst 19 ?_); go_must (refine ev_append 19 rfl Tryd.underlying49 infoT rfl (by decide) rfl ho rfl rfl (B6.rdm (l := [T]) encT_one) lenT oneT (fun h => by cases h) HB.out HM.out hbw6.size ?_); intro v7 w7 ho7 hg7; have hbw7 := ho.grown hbw6 hg7 (Nat.le_refl _) hbw6.size))
      go_roundw
      case rel => exact ⟨k + 1, bs ++ [T], by omega, by rw [List.length_append, Hbl.out]; rfl, by go_num, ⟨hst.out⟩, hbw7, ho7⟩
      case measure => simp [intOf]; omega
    · have hf : As (bs = showAll q l) := ⟨by rw [hbs.out, List.take_of_length_le (by omega)]⟩
      obtain ⟨A3, c3, rfl, h31, h32⟩ := ho.form
      obtain ⟨T, hT⟩ : ∃ T, T = Lib.join (showAll q l) [32] := ⟨_, rfl⟩
      have hp : ∀ w, Rd encT 1 w A3 bs → Calls Tryd.prog 30 #[.slice A3 bs.length c3, .string ⟨#[32]⟩] w (Gives w fun v _ => v = .string ⟨T.toArray⟩) := fun w h => by
        have := join_pieces bs [32] bs.length rfl A3 c3 w h h31 (by have := Hbl.out; omega) (by rw [hf.out]; exact HL.out)
        rw [hT, ← hf.out]; exact this
      have HP := As.mk hp
      have HT := As.mk hT
      clear hp hT
      go_wp2_with (go_at_call 30; (with_reducible refine (HP.out _ (ho.rd lenT)).mono ?_); rintro e w4 ⟨v4, rfl, rfl, hb4⟩)
      go_ret
      exact ⟨_, rfl, by rw [← HT.out]; rfl, bthen hb hb4⟩
end Go.Proofs.YtgeokccfobmeiaaDoor
