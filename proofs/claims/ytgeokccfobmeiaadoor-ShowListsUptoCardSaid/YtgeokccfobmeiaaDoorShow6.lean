/- show.list. -/
import Derived.Test.YtgeokccfobmeiaaDoorShow5
namespace Go.Proofs.YtgeokccfobmeiaaDoor
open Go.RowKit Go.Proofs.YtgeokccfobmeiaaDoorL Go.Proofs.YtgeokccfobmeiaaDoorM
set_option linter.unusedVariables false
set_option linter.unusedSimpArgs false
theorem pieces5 (x y z u v : List UInt8) (g c : Nat) (w : World) (hr : Rd encT 1 w (some ⟨g, 0, none⟩) [x, y, z, u, v]) (hc : 5 ≤ c) (hlen : x.length + (y.length + (z.length + (u.length + v.length))) ≤ 140737488355328) :
    Calls Tryd.prog 20 #[.slice (some ⟨g, 0, none⟩) 5 c] w (Gives w fun r w' => r = .string ⟨(x ++ (y ++ (z ++ (u ++ v)))).toArray⟩) := by
  have := pieces_any [x, y, z, u, v] 5 rfl _ c w hr hc (by omega) (by simpa using hlen)
  simpa using this
/-- what a list's text is -/
def listL (q : Bool) (items rest : List LD) : List UInt8 :=
  if rest.length = 0 then [40] ++ (Lib.join (showAll q items) [32] ++ [41])
  else if items.length = 0 then (showAll q rest).headD []
  else [40] ++ (Lib.join (showAll q items) [32] ++ ([32, 46, 32] ++ ((showAll q rest).headD [] ++ [41])))
set_option maxRecDepth 8000 in
set_option maxHeartbeats 1000000 in
theorem list_any (w : World) (q : Bool) (kind n : Int) (neg : Bool) (A : Option Addr) (c : Nat) (mag : List Nat) (text : List UInt8) (Ai : Option Addr) (ci : Nat) (items : List LD) (Ar : Option Addr) (cr : Nat) (rest : List LD)
    (ri : Rd encD 7 w Ai items) (li : items.length ≤ ci) (rr : Rd encD 7 w Ar rest) (lr : rest.length ≤ cr) (hi : ∀ x ∈ items, ShownOK w x) (hr : ∀ x ∈ rest, ShownOK w x)
    (hm : items.length ≤ 1099511627776) (hlen : (Lib.join (showAll q items) [32]).length ≤ 35184372088832) (hlen2 : ((showAll q rest).headD []).length ≤ 35184372088832)
    (w' : World) (hw : Below w.heap.size w w') : Calls Tryd.prog 19 #[.agg #[.int .i64 kind, .int .i64 n, .bool neg, .slice A mag.length c, .string ⟨text.toArray⟩, .slice Ai items.length ci, .slice Ar rest.length cr], .bool q] w' (Gives w' fun v _ => v = .string ⟨(listL q items rest).toArray⟩) := by
  have hrow := fun w' h => row_any w items q Ai ci ri li hi hm (Nat.le_trans hlen (by omega)) w' h
  obtain ⟨T, hT⟩ : ∃ T, T = Lib.join (showAll q items) [32] := ⟨_, rfl⟩
  simp only [← hT] at hrow hlen
  have HR := As.mk hrow
  clear hrow hi
  have HT := As.mk hT
  by_cases c1 : rest.length = 0
  · have hL : As (listL q items rest = [40] ++ (T ++ [41])) := ⟨by rw [listL, if_pos c1, hT]⟩
    clear hT
    go_enter Tryd.func19, Tryd.ntmps19
    go_wp2_with (first
      | ((with_reducible refine g_dst 2 ?_); go_must (refine ev_box 2 rfl (cs := [.int .i64 kind, .int .i64 n, .bool neg, .slice A mag.length c, .string ⟨text.toArray⟩, .slice Ai items.length ci, .slice Ar rest.length cr]) (by rfl) ?_); intro g w1 hb1 B1 hg1; have C1 := B1.cells; replace hb1 := hb1)
      | (go_at_call 21; (with_reducible refine (HR.out _ (bthen hw hb1)).mono ?_); rintro e w2 ⟨v2, rfl, rfl, hb2⟩; replace hb2 := bthen hb1 hb2)
      | ((with_reducible refine g_dst 14 ?_); go_must (refine ev_lit (v := fun g => .slice (some ⟨g, 0, none⟩) 3 3) 14 rfl (cs := [valT [40], valT T, valT [41]]) (t := 9) (by go_simp; rfl) ?_); intro g3 w3 hb3 B3 hg3; replace hb3 := bthen hb2 hb3)
      | (go_at_call 20; (with_reducible refine (pieces3 [40] T [41] _ _ _ (B3.rdm (l := [[40], T, [41]]) encT_one) (by omega) (by simp; omega)).mono ?_); rintro e w5 ⟨v5, rfl, rfl, hb5⟩))
    go_ret
    exact ⟨_, rfl, by rw [hL.out]; simp, bthen hb3 hb5⟩
  · have z1 : ((rest.length : Int) == 0) = false := by simp; intro h; exact c1 (by rw [h]; rfl)
    obtain ⟨x, r2, hx⟩ : ∃ x r2, rest = x :: r2 := by
      cases rest with
      | nil => exact absurd rfl c1
      | cons x r2 => exact ⟨x, r2, rfl⟩
    have hsx := fun w' hb => hr x (by rw [hx]; exact List.mem_cons_self ..) q w' hb
    have hrk := fun W (hb : Below w.heap.size w W) => (rr.below hb).get (by rw [hx]; simp)
    obtain ⟨b, off, rfl⟩ := rr.get (by rw [hx]; simp)
    have hcl := rr.cell 0 (by omega)
    have hx0 : rest[0]'(by omega) = x := by simp [hx]
    rw [hx0] at hcl
    obtain ⟨H, hH⟩ : ∃ H, H = showL q x := ⟨_, rfl⟩
    have hhead : (showAll q rest).headD [] = H := by rw [hx, hH, showAll]; rfl
    rw [hhead] at hlen2
    simp only [← hH] at hsx
    have Hrl := As.mk c1
    have hrl : 0 < rest.length := by omega
    have Hhead := As.mk hhead
    clear hx hx0 hH hhead hr hrk
    obtain ⟨kind', n', neg', mA, mc, mag', text', Ai', ci', items', Ar', cr', rest'⟩ := x
    simp only [encD] at hsx
    have HS := As.mk hsx
    clear hsx
    have c0 : w.cell? ⟨b, off, none⟩ = some (.int .i64 kind') := hcl 0 _ rfl
    have c1' : w.cell? ⟨b, off + 1, none⟩ = some (.int .i64 n') := hcl 1 _ rfl
    have c2' : w.cell? ⟨b, off + 2, none⟩ = some (.bool neg') := hcl 2 _ rfl
    have c3' : w.cell? ⟨b, off + 3, none⟩ = some (.slice mA mag'.length mc) := hcl 3 _ rfl
    have c4' : w.cell? ⟨b, off + 4, none⟩ = some (.string ⟨text'.toArray⟩) := hcl 4 _ rfl
    have c5' : w.cell? ⟨b, off + 5, none⟩ = some (.slice Ai' items'.length ci') := hcl 5 _ rfl
    have c6' : w.cell? ⟨b, off + 6, none⟩ = some (.slice Ar' rest'.length cr') := hcl 6 _ rfl
    have kc : ∀ W, Below w.heap.size w W → ∀ o v, w.cell? ⟨b, o, none⟩ = some v → W.cell? ⟨b, o, none⟩ = some v := fun W hb o v h => (hb.cell (World.block_lt_of_cell? w _ h)).trans h
    have keep : As (∀ W, Below w.heap.size w W → W.cell? ⟨b, off, none⟩ = some (.int .i64 kind') ∧ W.cell? ⟨b, off + 1, none⟩ = some (.int .i64 n') ∧ W.cell? ⟨b, off + 2, none⟩ = some (.bool neg') ∧ W.cell? ⟨b, off + 3, none⟩ = some (.slice mA mag'.length mc) ∧ W.cell? ⟨b, off + 4, none⟩ = some (.string ⟨text'.toArray⟩) ∧ W.cell? ⟨b, off + 5, none⟩ = some (.slice Ai' items'.length ci') ∧ W.cell? ⟨b, off + 6, none⟩ = some (.slice Ar' rest'.length cr')) :=
      ⟨fun W hb => ⟨kc W hb _ _ c0, kc W hb _ _ c1', kc W hb _ _ c2', kc W hb _ _ c3', kc W hb _ _ c4', kc W hb _ _ c5', kc W hb _ _ c6'⟩⟩
    clear hcl c0 c1' c2' c3' c4' c5' c6' kc
    by_cases c2 : items.length = 0
    · have hL : As (listL q items rest = H) := ⟨by rw [listL, if_neg Hrl.out, if_pos c2, Hhead.out]⟩
      clear hT c1
      go_enter Tryd.func19, Tryd.ntmps19
      go_wp2_with (first
        | ((with_reducible refine g_dst 2 ?_); go_must (refine ev_box 2 rfl (cs := [.int .i64 kind, .int .i64 n, .bool neg, .slice A mag.length c, .string ⟨text.toArray⟩, .slice Ai items.length ci, .slice (some ⟨b, off, none⟩) rest.length cr]) (by rfl) ?_); intro g w1 hb1 B1 hg1; have C1 := B1.cells; obtain ⟨d0, d1, d2, d3, d4, d5, d6⟩ := keep.out _ (bthen hw hb1))
        | (go_at_call 13; (with_reducible refine (HS.out _ (bthen hw hb1)).mono ?_); rintro e w4 ⟨v4, rfl, rfl, hb4⟩))
      go_ret
      exact ⟨_, rfl, by rw [hL.out]; rfl, bthen hb1 hb4⟩
    · have hL : As (listL q items rest = [40] ++ (T ++ ([32, 46, 32] ++ (H ++ [41])))) := ⟨by rw [listL, if_neg Hrl.out, if_neg c2, Hhead.out, hT]⟩
      have z2 : ((items.length : Int) == 0) = false := by simp; intro h; exact c2 (by rw [h]; rfl)
      clear hT c1 c2
      go_enter Tryd.func19, Tryd.ntmps19
      go_wp2_with ((with_reducible refine g_dst 2 ?_); go_must (refine ev_box 2 rfl (cs := [.int .i64 kind, .int .i64 n, .bool neg, .slice A mag.length c, .string ⟨text.toArray⟩, .slice Ai items.length ci, .slice (some ⟨b, off, none⟩) rest.length cr]) (by rfl) ?_); intro g w1 hb1 B1 hg1; have C1 := B1.cells)
      have hS : ∀ W, Below w1.heap.size w1 W → W.cell? ⟨g, 5, none⟩ = some (.slice Ai items.length ci) ∧ W.cell? ⟨g, 6, none⟩ = some (.slice (some ⟨b, off, none⟩) rest.length cr) ∧ W.cell? ⟨b, off, none⟩ = some (.int .i64 kind') ∧ W.cell? ⟨b, off + 1, none⟩ = some (.int .i64 n') ∧ W.cell? ⟨b, off + 2, none⟩ = some (.bool neg') ∧ W.cell? ⟨b, off + 3, none⟩ = some (.slice mA mag'.length mc) ∧ W.cell? ⟨b, off + 4, none⟩ = some (.string ⟨text'.toArray⟩) ∧ W.cell? ⟨b, off + 5, none⟩ = some (.slice Ai' items'.length ci') ∧ W.cell? ⟨b, off + 6, none⟩ = some (.slice Ar' rest'.length cr') := fun W hb => by
        have B := (B1.below hb).cells
        exact ⟨B 5, B 6, keep.out _ (bthen (bthen hw hb1) hb)⟩
      have hd := (Below.refl w1.heap.size w1).drew
      have hS0 := hS _ hd
      clear C1
      go_region_held3 (fun W => W.cell? ⟨g, 5, none⟩ = some (.slice Ai items.length ci) ∧ W.cell? ⟨g, 6, none⟩ = some (.slice (some ⟨b, off, none⟩) rest.length cr) ∧ W.cell? ⟨b, off, none⟩ = some (.int .i64 kind') ∧ W.cell? ⟨b, off + 1, none⟩ = some (.int .i64 n') ∧ W.cell? ⟨b, off + 2, none⟩ = some (.bool neg') ∧ W.cell? ⟨b, off + 3, none⟩ = some (.slice mA mag'.length mc) ∧ W.cell? ⟨b, off + 4, none⟩ = some (.string ⟨text'.toArray⟩) ∧ W.cell? ⟨b, off + 5, none⟩ = some (.slice Ai' items'.length ci') ∧ W.cell? ⟨b, off + 6, none⟩ = some (.slice Ar' rest'.length cr')) (first | assumption | exact hS _ hb2 | exact hS _ hb3 | exact hS _ hb5 | exact hS _ (hb2.alloc hb2.size _) | exact hS _ (hb3.alloc hb3.size _)) (first
        | (go_at_call 21; (with_reducible refine (HR.out _ (bthen (bthen hw hb1) hd)).mono ?_); rintro e w2 ⟨v2, rfl, rfl, hb2⟩; replace hb2 := bthen hd hb2)
        | (go_at_call 13; (with_reducible refine (HS.out _ (bthen (bthen hw hb1) hb2)).mono ?_); rintro e w3 ⟨v3, rfl, rfl, hb3⟩; replace hb3 := bthen hb2 hb3)
        | (go_at_call 20; (with_reducible refine (pieces5 [40] T [32, 46, 32] H [41] _ _ _ ((Blk.new w3 [valT [40], valT T, valT [32, 46, 32], valT H, valT [41]] 9).rdm (l := [[40], T, [32, 46, 32], H, [41]]) encT_one) (by omega) (by simp; omega)).mono ?_); rintro e w5 ⟨v5, rfl, rfl, hb5⟩; replace hb5 := bthen (hb3.alloc hb3.size _) hb5))
      go_wp2
      go_ret
      exact ⟨_, rfl, by rw [hL.out]; simp, bthen hb1 hb5⟩
end Go.Proofs.YtgeokccfobmeiaaDoor
