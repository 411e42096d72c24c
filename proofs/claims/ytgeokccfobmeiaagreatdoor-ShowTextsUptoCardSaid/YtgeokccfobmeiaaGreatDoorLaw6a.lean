import Derived.Test.YtgeokccfobmeiaaGreatDoorMO
/- show.Write, Display; tandemref06.Write, Display; tandemlaw06.awake. -/
namespace Go.Proofs.YtgeokccfobmeiaaGreatDoor
open Go.RowKit Go.Proofs.YtgeokccfobmeiaaGreatDoorL Go.Proofs.YtgeokccfobmeiaaGreatDoorM
set_option linter.unusedVariables false
set_option linter.unusedSimpArgs false
theorem write_any (x : LD) (w : World) (htab : Tab w) (h : Good w x) (hwt : wtD x ≤ 1073741824) : Calls Tryz.prog 6 #[.agg (encD x).toArray] w (Gives w fun v _ => v = .string ⟨(showL true x).toArray⟩) := by
  have hs := fun w' hb => shown_ok w htab x h hwt true w' hb
  obtain ⟨T, hT⟩ : ∃ T, T = showL true x := ⟨_, rfl⟩
  simp only [← hT] at hs ⊢
  clear hT h hwt
  obtain ⟨kind, n, neg, A, c, mag, text, Ai, ci, items, Ar, cr, rest⟩ := x
  simp only [encD] at hs ⊢
  have HS := As.mk hs
  clear hs
  go_enter Tryz.func6, Tryz.ntmps6
  go_wp2_with (first
    | ((with_reducible refine g_dst 1 ?_); go_must (refine ev_box 1 rfl (cs := [.int .i64 kind, .int .i64 n, .bool neg, .slice A mag.length c, .string ⟨text.toArray⟩, .slice Ai items.length ci, .slice Ar rest.length cr]) (by rfl) ?_); intro g w1 hb1 B1 hg1; have C1 := B1.cells)
    | (go_at_call 11; (with_reducible refine (HS.out _ hb1).mono ?_); rintro e w2 ⟨v2, rfl, rfl, hb2⟩))
  go_ret
  exact ⟨_, rfl, rfl, bthen hb1 hb2⟩
theorem display_any (x : LD) (w : World) (htab : Tab w) (h : Good w x) (hwt : wtD x ≤ 1073741824) : Calls Tryz.prog 5 #[.agg (encD x).toArray] w (Gives w fun v _ => v = .string ⟨(showL false x).toArray⟩) := by
  have hs := fun w' hb => shown_ok w htab x h hwt false w' hb
  obtain ⟨T, hT⟩ : ∃ T, T = showL false x := ⟨_, rfl⟩
  simp only [← hT] at hs ⊢
  clear hT h hwt
  obtain ⟨kind, n, neg, A, c, mag, text, Ai, ci, items, Ar, cr, rest⟩ := x
  simp only [encD] at hs ⊢
  have HS := As.mk hs
  clear hs
  go_enter Tryz.func5, Tryz.ntmps5
  go_wp2_with (first
    | ((with_reducible refine g_dst 1 ?_); go_must (refine ev_box 1 rfl (cs := [.int .i64 kind, .int .i64 n, .bool neg, .slice A mag.length c, .string ⟨text.toArray⟩, .slice Ai items.length ci, .slice Ar rest.length cr]) (by rfl) ?_); intro g w1 hb1 B1 hg1; have C1 := B1.cells)
    | (go_at_call 11; (with_reducible refine (HS.out _ hb1).mono ?_); rintro e w2 ⟨v2, rfl, rfl, hb2⟩))
  go_ret
  exact ⟨_, rfl, rfl, bthen hb1 hb2⟩
/-- the datum of awake -/
def aD (g : Nat) : LD := .mk 6 0 false none 0 [] [] (some ⟨g, 0, none⟩) 2 [.mk 4 0 false none 0 [] [97] none 0 [] none 0 [], .mk 3 32 false none 0 [] [] none 0 [] none 0 []] none 0 []
theorem aD_write (g : Nat) : showL true (aD g) = [40, 34, 97, 34, 32, 35, 92, 115, 112, 97, 99, 101, 41] := by rfl
theorem aD_display (g : Nat) : showL false (aD g) = [40, 97, 32, 32, 41] := by rfl
theorem aD_wt (g : Nat) : wtD (aD g) = 4 := by rfl
end Go.Proofs.YtgeokccfobmeiaaGreatDoor
