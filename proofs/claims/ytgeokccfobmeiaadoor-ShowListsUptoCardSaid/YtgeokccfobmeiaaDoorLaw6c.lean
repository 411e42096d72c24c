/- tandemlaw06.ShowWrites, ShowDisplays answer true. -/
import Derived.Test.YtgeokccfobmeiaaDoorLaw6b
namespace Go.Proofs.YtgeokccfobmeiaaDoor
open Go.RowKit Go.Proofs.YtgeokccfobmeiaaDoorL Go.Proofs.YtgeokccfobmeiaaDoorM
set_option linter.unusedVariables false
set_option linter.unusedSimpArgs false
set_option maxRecDepth 8000 in
set_option maxHeartbeats 1000000 in
theorem showWrites_any (x : LD) (w : World) (htab : Tab w) (h : Good w x) (hwt : wtD x ≤ 1073741824) : Calls Tryd.prog 3 #[.agg (encD x).toArray] w (Gives w fun v _ => v = .bool true) := by
  have hcp := fun w' hb => copy_ok w x h hwt w' hb
  have hwr := fun (y : LD) (W : World) (ht : Tab W) (hg : Good W y) (hs : SameD y x) => write_any y W ht hg (by rw [hs.wt]; exact hwt)
  have hrw := fun (W : World) (hb : Below w.heap.size w W) => rwrite_any x W (h.to hb) hwt
  obtain ⟨T, hT⟩ : ∃ T, T = showL true x := ⟨_, rfl⟩
  have hwr2 : ∀ (y : LD) (W : World), Tab W → Good W y → SameD y x → Calls Tryd.prog 6 #[.agg (encD y).toArray] W (Gives W fun v _ => v = .string ⟨T.toArray⟩) := fun y W ht hg hs => by
    have := hwr y W ht hg hs
    rw [hs.text true, ← hT] at this
    exact this
  simp only [← hT] at hrw
  have HT := As.mk htab
  clear htab hwr hT
  obtain ⟨x0, hx0⟩ : ∃ x0, x0 = x := ⟨_, rfl⟩
  have hwr3 : As (∀ (y : LD) (W : World), Tab W → Good W y → SameD y x0 → Calls Tryd.prog 6 #[.agg (encD y).toArray] W (Gives W fun v _ => v = .string ⟨T.toArray⟩)) := ⟨hx0 ▸ hwr2⟩
  have hcp2 : ∀ w', Below w.heap.size w w' → Calls Tryd.prog 7 #[.agg (encD x).toArray] w' (Gives w' fun v w2 => ∃ y, v = .agg (encD y).toArray ∧ Good w2 y ∧ (∀ b ∈ footD y, w'.heap.size ≤ b) ∧ SameD y x0) := hx0 ▸ hcp
  clear hx0 h hwt hwr2 hcp
  obtain ⟨kind, n, neg, A, c, mag, text, Ai, ci, items, Ar, cr, rest⟩ := x
  simp only [encD] at hcp2 hrw ⊢
  have HC := As.mk hcp2
  have HR := As.mk hrw
  clear hcp2 hrw
  go_enter Tryd.func3, Tryd.ntmps3
  go_wp2_with ((with_reducible refine g_dst 1 ?_); go_must (refine ev_box 1 rfl (cs := [.int .i64 kind, .int .i64 n, .bool neg, .slice A mag.length c, .string ⟨text.toArray⟩, .slice Ai items.length ci, .slice Ar rest.length cr]) (by rfl) ?_); intro g w1 hb1 B1 hg1)
  have hS : ∀ W, Below w1.heap.size w1 W → W.cell? ⟨g, 0, none⟩ = some (.int .i64 kind) ∧ W.cell? ⟨g, 1, none⟩ = some (.int .i64 n) ∧ W.cell? ⟨g, 2, none⟩ = some (.bool neg) ∧ W.cell? ⟨g, 3, none⟩ = some (.slice A mag.length c) ∧ W.cell? ⟨g, 4, none⟩ = some (.string ⟨text.toArray⟩) ∧ W.cell? ⟨g, 5, none⟩ = some (.slice Ai items.length ci) ∧ W.cell? ⟨g, 6, none⟩ = some (.slice Ar rest.length cr) := fun W hb => by
    have B := (B1.below hb).cells
    exact ⟨B 0, B 1, B 2, B 3, B 4, B 5, B 6⟩
  have hd := (Below.refl w1.heap.size w1).drew
  have hS0 := hS _ hd
  go_region_held3 (fun W => W.cell? ⟨g, 0, none⟩ = some (.int .i64 kind) ∧ W.cell? ⟨g, 1, none⟩ = some (.int .i64 n) ∧ W.cell? ⟨g, 2, none⟩ = some (.bool neg) ∧ W.cell? ⟨g, 3, none⟩ = some (.slice A mag.length c) ∧ W.cell? ⟨g, 4, none⟩ = some (.string ⟨text.toArray⟩) ∧ W.cell? ⟨g, 5, none⟩ = some (.slice Ai items.length ci) ∧ W.cell? ⟨g, 6, none⟩ = some (.slice Ar rest.length cr)) (first | assumption | exact hS _ hb2 | exact hS _ hb3 | exact hS _ hb4 | exact hS _ hb5) (first
    | (go_at_call 7; (with_reducible refine (HC.out _ (bthen hb1 hd)).mono ?_); rintro e w2 ⟨v2, rfl, ⟨y, rfl, hgy, hfy, hsy⟩, hb2⟩; replace hb2 := bthen hd hb2; have hw := hwr3.out y _ (HT.out.below (bthen hb1 hb2)) hgy hsy; obtain ⟨kind', n', neg', mA', mc', mag', text', Ai', ci', items', Ar', cr', rest'⟩ := y; simp only [encD] at hw; replace hw := As.mk hw; simp only [encD])
    | (go_at_call 6; (with_reducible refine hw.out.mono ?_); rintro e w3 ⟨v3, rfl, rfl, hb3⟩; replace hb3 := bthen hb2 hb3)
    | (go_at_call 8; (with_reducible refine (HR.out _ (bthen hb1 hb3)).mono ?_); rintro e w4 ⟨v4, rfl, rfl, hb4⟩; replace hb4 := bthen hb3 hb4)
    | (go_at_call 9; (with_reducible refine (awake_any _ (HT.out.below (bthen hb1 hb4))).mono ?_); rintro e w5 ⟨v5, rfl, rfl, hb5⟩; replace hb5 := bthen hb4 hb5))
  go_wp2
  go_ret
  exact ⟨_, rfl, rfl, bthen hb1 hb5⟩
set_option maxRecDepth 8000 in
set_option maxHeartbeats 1000000 in
theorem showDisplays_any (x : LD) (w : World) (htab : Tab w) (h : Good w x) (hwt : wtD x ≤ 1073741824) : Calls Tryd.prog 4 #[.agg (encD x).toArray] w (Gives w fun v _ => v = .bool true) := by
  have hcp := fun w' hb => copy_ok w x h hwt w' hb
  have hwr := fun (y : LD) (W : World) (ht : Tab W) (hg : Good W y) (hs : SameD y x) => display_any y W ht hg (by rw [hs.wt]; exact hwt)
  have hrw := fun (W : World) (hb : Below w.heap.size w W) => rdisplay_any x W (h.to hb) hwt
  obtain ⟨T, hT⟩ : ∃ T, T = showL false x := ⟨_, rfl⟩
  have hwr2 : ∀ (y : LD) (W : World), Tab W → Good W y → SameD y x → Calls Tryd.prog 10 #[.agg (encD y).toArray] W (Gives W fun v _ => v = .string ⟨T.toArray⟩) := fun y W ht hg hs => by
    have := hwr y W ht hg hs
    rw [hs.text false, ← hT] at this
    exact this
  simp only [← hT] at hrw
  have HT := As.mk htab
  clear htab hwr hT
  obtain ⟨x0, hx0⟩ : ∃ x0, x0 = x := ⟨_, rfl⟩
  have hwr3 : As (∀ (y : LD) (W : World), Tab W → Good W y → SameD y x0 → Calls Tryd.prog 10 #[.agg (encD y).toArray] W (Gives W fun v _ => v = .string ⟨T.toArray⟩)) := ⟨hx0 ▸ hwr2⟩
  have hcp2 : ∀ w', Below w.heap.size w w' → Calls Tryd.prog 7 #[.agg (encD x).toArray] w' (Gives w' fun v w2 => ∃ y, v = .agg (encD y).toArray ∧ Good w2 y ∧ (∀ b ∈ footD y, w'.heap.size ≤ b) ∧ SameD y x0) := hx0 ▸ hcp
  clear hx0 h hwt hwr2 hcp
  obtain ⟨kind, n, neg, A, c, mag, text, Ai, ci, items, Ar, cr, rest⟩ := x
  simp only [encD] at hcp2 hrw ⊢
  have HC := As.mk hcp2
  have HR := As.mk hrw
  clear hcp2 hrw
  go_enter Tryd.func4, Tryd.ntmps4
  go_wp2_with ((with_reducible refine g_dst 1 ?_); go_must (refine ev_box 1 rfl (cs := [.int .i64 kind, .int .i64 n, .bool neg, .slice A mag.length c, .string ⟨text.toArray⟩, .slice Ai items.length ci, .slice Ar rest.length cr]) (by rfl) ?_); intro g w1 hb1 B1 hg1)
  have hS : ∀ W, Below w1.heap.size w1 W → W.cell? ⟨g, 0, none⟩ = some (.int .i64 kind) ∧ W.cell? ⟨g, 1, none⟩ = some (.int .i64 n) ∧ W.cell? ⟨g, 2, none⟩ = some (.bool neg) ∧ W.cell? ⟨g, 3, none⟩ = some (.slice A mag.length c) ∧ W.cell? ⟨g, 4, none⟩ = some (.string ⟨text.toArray⟩) ∧ W.cell? ⟨g, 5, none⟩ = some (.slice Ai items.length ci) ∧ W.cell? ⟨g, 6, none⟩ = some (.slice Ar rest.length cr) := fun W hb => by
    have B := (B1.below hb).cells
    exact ⟨B 0, B 1, B 2, B 3, B 4, B 5, B 6⟩
  have hd := (Below.refl w1.heap.size w1).drew
  have hS0 := hS _ hd
  go_region_held3 (fun W => W.cell? ⟨g, 0, none⟩ = some (.int .i64 kind) ∧ W.cell? ⟨g, 1, none⟩ = some (.int .i64 n) ∧ W.cell? ⟨g, 2, none⟩ = some (.bool neg) ∧ W.cell? ⟨g, 3, none⟩ = some (.slice A mag.length c) ∧ W.cell? ⟨g, 4, none⟩ = some (.string ⟨text.toArray⟩) ∧ W.cell? ⟨g, 5, none⟩ = some (.slice Ai items.length ci) ∧ W.cell? ⟨g, 6, none⟩ = some (.slice Ar rest.length cr)) (first | assumption | exact hS _ hb2 | exact hS _ hb3 | exact hS _ hb4 | exact hS _ hb5) (first
    | (go_at_call 7; (with_reducible refine (HC.out _ (bthen hb1 hd)).mono ?_); rintro e w2 ⟨v2, rfl, ⟨y, rfl, hgy, hfy, hsy⟩, hb2⟩; replace hb2 := bthen hd hb2; have hw := hwr3.out y _ (HT.out.below (bthen hb1 hb2)) hgy hsy; obtain ⟨kind', n', neg', mA', mc', mag', text', Ai', ci', items', Ar', cr', rest'⟩ := y; simp only [encD] at hw; replace hw := As.mk hw; simp only [encD])
    | (go_at_call 10; (with_reducible refine hw.out.mono ?_); rintro e w3 ⟨v3, rfl, rfl, hb3⟩; replace hb3 := bthen hb2 hb3)
    | (go_at_call 11; (with_reducible refine (HR.out _ (bthen hb1 hb3)).mono ?_); rintro e w4 ⟨v4, rfl, rfl, hb4⟩; replace hb4 := bthen hb3 hb4)
    | (go_at_call 9; (with_reducible refine (awake_any _ (HT.out.below (bthen hb1 hb4))).mono ?_); rintro e w5 ⟨v5, rfl, rfl, hb5⟩; replace hb5 := bthen hb4 hb5))
  go_wp2
  go_ret
  exact ⟨_, rfl, rfl, bthen hb1 hb5⟩
end Go.Proofs.YtgeokccfobmeiaaDoor
