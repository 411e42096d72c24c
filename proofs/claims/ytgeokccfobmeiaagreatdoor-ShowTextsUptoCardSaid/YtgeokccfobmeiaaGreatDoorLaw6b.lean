import Derived.Test.YtgeokccfobmeiaaGreatDoorLaw6a
/- tandemlaw06.awake, ShowWrites, ShowDisplays. -/
namespace Go.Proofs.YtgeokccfobmeiaaGreatDoor
open Go.RowKit Go.Proofs.YtgeokccfobmeiaaGreatDoorL Go.Proofs.YtgeokccfobmeiaaGreatDoorM
set_option linter.unusedVariables false
set_option linter.unusedSimpArgs false
def aX : LD := .mk 4 0 false none 0 [] [97] none 0 [] none 0 []
def aY : LD := .mk 3 32 false none 0 [] [] none 0 [] none 0 []
theorem good_leaf (w : World) (kind n : Int) (text : List UInt8) (h1 : -9223372036854775808 ≤ n) (h2 : n ≤ 9223372036854775807) : Good w (.mk kind n false none 0 [] text none 0 [] none 0 []) :=
  .mk h1 h2 ⟨Rd.nil _ _ _ _, fun x hx => (nomatch hx), Nat.le_refl _, fun _ => rfl, by simp⟩ (Rd.nil _ _ _ _) (Nat.le_refl _) (fun _ => rfl) (Rd.nil _ _ _ _) (Nat.le_refl _) (fun _ => rfl) (fun x hx => (nomatch hx)) (fun x hx => (nomatch hx))
theorem aD_good {w : World} {g : Nat} (B : Blk w g (encD aX ++ encD aY) 27) : Good w (aD g) := by
  refine .mk (by omega) (by omega) ⟨Rd.nil _ _ _ _, fun x hx => (nomatch hx), Nat.le_refl _, fun _ => rfl, by simp⟩ (B.rd (l := [aX, aY]) lenD (by simp)) (Nat.le_refl _) (fun h => by cases h) (Rd.nil _ _ _ _) (Nat.le_refl _) (fun _ => rfl) (fun x hx => ?_) (fun x hx => (nomatch hx))
  simp only [List.mem_cons, List.not_mem_nil, or_false] at hx
  rcases hx with rfl | rfl
  · exact good_leaf w 4 0 [97] (by omega) (by omega)
  · exact good_leaf w 3 32 [] (by omega) (by omega)
set_option maxHeartbeats 1000000 in
theorem awake_any (w : World) (htab : Tab w) : Calls Tryz.prog 9 #[] w (Gives w fun v _ => v = .bool true) := by
  have hwr : As (∀ (W : World) (g : Nat), Tab W → Good W (aD g) → Calls Tryz.prog 6 #[.agg #[.int .i64 6, .int .i64 0, .bool false, .slice none 0 0, .string ⟨#[]⟩, .slice (some ⟨g, 0, none⟩) 2 2, .slice none 0 0]] W (Gives W fun v _ => v = .string ⟨#[40, 34, 97, 34, 32, 35, 92, 115, 112, 97, 99, 101, 41]⟩)) := ⟨fun W g ht hg => write_any (aD g) W ht hg (by rw [aD_wt]; omega)⟩
  have hdi : As (∀ (W : World) (g : Nat), Tab W → Good W (aD g) → Calls Tryz.prog 5 #[.agg #[.int .i64 6, .int .i64 0, .bool false, .slice none 0 0, .string ⟨#[]⟩, .slice (some ⟨g, 0, none⟩) 2 2, .slice none 0 0]] W (Gives W fun v _ => v = .string ⟨#[40, 97, 32, 32, 41]⟩)) := ⟨fun W g ht hg => display_any (aD g) W ht hg (by rw [aD_wt]; omega)⟩
  have HT := As.mk htab
  clear htab
  go_enter Tryz.func9, Tryz.ntmps9
  go_wp2_with (first
    | ((with_reducible refine g_dst 4 ?_); go_must (refine ev_lit (v := fun g => .slice (some ⟨g, 0, none⟩) 2 2) 4 rfl (cs := encD aX ++ encD aY) (t := 27) (by go_simp; rfl) ?_); intro g w1 hb1 B1 hg1)
    | ((with_reducible refine g_dst 1 ?_); go_must (refine ev_alloc 1 rfl infoD (cs := [.int .i64 0, .int .i64 0, .bool false, .slice none 0 0, .string ⟨#[]⟩, .slice none 0 0, .slice none 0 0]) rfl ?_); intro g2 w2 hb2 B2 hg2; have hne : g ≠ g2 := Nat.ne_of_lt (Nat.lt_of_lt_of_le B1.lt hg2); replace B1 := B1.below hb2; replace hg2 := Nat.le_trans hb1.size hg2; have hgl := B1.lt; replace hb2 := bthen hb1 hb2)
    | ((with_reducible refine g_store 1 ?_); go_must (refine ev_store rfl rfl B2 (news := encD (aD g)) (by rfl) infoD (by simp [encD, aD]) (by simp [encD, aD, Value.oneCell']) ?_); intro w3 ho3 B3; simp only [aD, encD, List.take_zero, List.nil_append, List.length_cons, List.length_nil, List.drop_succ_cons, List.drop_zero, List.append_nil, List.cons_append] at B3; have C3 := B3.cells; have hb3 := hb2.trans (ho3.below hg2); have Hg3 := As.mk (aD_good (B1.only ho3 hne)))
    | (go_at_call 6; (with_reducible refine (hwr.out _ g (HT.out.below hb3) Hg3.out).mono ?_); rintro e w4 ⟨v4, rfl, rfl, hb4⟩; replace B3 := B3.below hb4; clear C3; have C3 := B3.cells; have hb4' := bthen hb3 hb4; have Hg4 := As.mk (Hg3.out.to hb4))
    | (go_at_call 5; (with_reducible refine (hdi.out _ g (HT.out.below hb4') Hg4.out).mono ?_); rintro e w5 ⟨v5, rfl, rfl, hb5⟩))
  go_ret
  exact ⟨_, rfl, rfl, bthen hb4' hb5⟩
end Go.Proofs.YtgeokccfobmeiaaGreatDoor
