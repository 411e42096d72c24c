/- A part of the proof. -/
import Derived.Test.YtdapbegadhcpcaaGreatDoorRfJ
import Derived.Test.YtdapbegadhcpcaaGreatDoorRdT
import Derived.Test.YtdapbegadhcpcaaGreatDoorMM
import Derived.Test.YtdapbegadhcpcaaGreatDoorSames
import Derived.Test.YtdapbegadhcpcaaGreatDoorRead14
set_option linter.unusedVariables false
set_option linter.unusedSimpArgs false
namespace Go.Proofs.YtdapbegadhcpcaaGreatDoor
open Go.RowKit Go.Proofs.YtdapbegadhcpcaaGreatDoorL Go.Proofs.YtdapbegadhcpcaaGreatDoorM
def rsX : Rs → DV
 | .ok (x, _) => x
 | .error _ => erD ldZ
def rsP : Rs → Int
 | .ok (_, e) => (e : Int)
 | .error (p, _) => (p : Int)
def rsC : Rs → Int
 | .ok _ => 0
 | .error (_, c) => (c : Int)
theorem oneP_G {base : Nat} {w : World} {v : Value} {q : Rs} (h : OneP base w v q) : ∃ y, v = .tuple #[.agg (encD y).toArray, .int .i64 (rsP q), .int .i64 (rsC q)] ∧ Good w y ∧ erD y = rsX q := by
 cases q with
 | ok xe =>
   obtain ⟨x, e⟩ := xe
   obtain ⟨y, h1, h2, h3, h4⟩ := h
   exact ⟨y, h1, h2, h4⟩
 | error pc =>
   obtain ⟨p, c⟩ := pc
   exact ⟨ldZ, h, good_z _ _ _ (by decide) (by decide) _, rfl⟩
theorem one_two (T : ByteArray) (a : Int) : ∃ (X : DV) (P C : Int), wtV X ≤ 1099511627776 ∧ (∀ w : World, Calls Tryz.prog 9 #[.string T, .int .i64 a] w (Gives w fun v w' => ∃ y, v = .tuple #[.agg (encD y).toArray, .int .i64 P, .int .i64 C] ∧ Good w' y ∧ erD y = X)) ∧ (∀ w : World, Calls Tryz.prog 10 #[.string T, .int .i64 a] w (Gives w fun v w' => ∃ y, v = .tuple #[.agg (encD y).toArray, .int .i64 P, .int .i64 C] ∧ Good w' y ∧ erD y = X)) := by
 have hz : wtV (erD ldZ) ≤ 1099511627776 := by simp [ldZ, erD, erAll, wtV, wtVs]
 by_cases hT : T.size ≤ 65536
 case neg =>
  refine ⟨erD ldZ, 0, 2, hz, fun w => (one_long hT a).mono fun e w' ⟨v, he, hv, hb⟩ => ⟨v, he, ⟨ldZ, hv, good_z _ _ _ (by decide) (by decide) _, rfl⟩, hb⟩, fun w => (rone_long hT a).mono fun e w' ⟨v, he, hv, hb⟩ => ⟨v, he, ⟨ldZ, hv, good_z _ _ _ (by decide) (by decide) _, rfl⟩, hb⟩⟩
 have hsl := size_list T
 have wt : ∀ (i : Nat) (q : Rs), Run T.data.toList (.next 0 i) q → wtV (rsX q) ≤ 1099511627776 := fun i q hq => by
  cases q with
  | ok xe =>
    obtain ⟨x, e⟩ := xe
    have h9 : wtV x ≤ 3 * (e - i) := run_wt hq
    have h8 : e ≤ T.data.toList.length := run_le hq rfl trivial
    show wtV x ≤ 1099511627776
    omega
  | error pc => exact hz
 by_cases h1 : a < 0
 · obtain ⟨q, hq⟩ := run_all T.data.toList (wtJ T.data.toList (.next 0 T.size) + 1) (.next 0 T.size) (Nat.lt_succ_self _)
   exact ⟨_, _, _, wt _ q hq, fun w => (one_neg hT a h1 q hq).mono fun e w' ⟨v, he, hv, hb⟩ => ⟨v, he, oneP_G hv, hb⟩, fun w => (rone_neg hT a h1 q hq).mono fun e w' ⟨v, he, hv, hb⟩ => ⟨v, he, oneP_G hv, hb⟩⟩
 by_cases h2 : (T.size : Int) < a
 · obtain ⟨q, hq⟩ := run_all T.data.toList (wtJ T.data.toList (.next 0 T.size) + 1) (.next 0 T.size) (Nat.lt_succ_self _)
   exact ⟨_, _, _, wt _ q hq, fun w => (one_big hT a h2 q hq).mono fun e w' ⟨v, he, hv, hb⟩ => ⟨v, he, oneP_G hv, hb⟩, fun w => (rone_big hT a h2 q hq).mono fun e w' ⟨v, he, hv, hb⟩ => ⟨v, he, oneP_G hv, hb⟩⟩
 · obtain ⟨i, rfl⟩ : ∃ i : Nat, a = (i : Int) := ⟨a.toNat, by omega⟩
   obtain ⟨q, hq⟩ := run_all T.data.toList (wtJ T.data.toList (.next 0 i) + 1) (.next 0 i) (Nat.lt_succ_self _)
   exact ⟨_, _, _, wt _ q hq, fun w => (one_any hT i (by omega) q hq).mono fun e w' ⟨v, he, hv, hb⟩ => ⟨v, he, oneP_G hv, hb⟩, fun w => (rone_any hT i (by omega) q hq).mono fun e w' ⟨v, he, hv, hb⟩ => ⟨v, he, oneP_G hv, hb⟩⟩
set_option maxRecDepth 16000 in
set_option maxHeartbeats 8000000 in
theorem readOnes_any (T : ByteArray) (a : Int) (w : World) : Calls Tryz.prog 4 #[.string T, .int .i64 a] w (Gives w fun v _ => v = .bool true) := by
 obtain ⟨X, P, C, hX, h1, h2⟩ := one_two T a
 have HA := As.mk h1
 have HB := As.mk h2
 have HX := As.mk hX
 clear h1 h2 hX
 go_enter Tryz.func4, Tryz.ntmps4
 go_wp2_with (first
  | (go_at_call 9; (with_reducible refine (HA.out _).mono ?_); rintro e1 w1 ⟨v1, rfl, ⟨y1, rfl, hgy1, hed1⟩, hb1⟩; have HE1 := As.mk hed1; clear hed1; obtain ⟨kind1, n1, neg1, mA1, mc1, mag1, text1, Ai1, ci1, items1, Ar1, cr1, rest1⟩ := y1)
  | ((with_reducible refine g_dst 5 ?_); go_must (refine ev_alloc 5 rfl infoD (cs := [.int .i64 0, .int .i64 0, .bool false, .slice none 0 0, .string ⟨#[]⟩, .slice none 0 0, .slice none 0 0]) rfl ?_); intro g5 wn hb B5 hg5; have hs5 := Nat.le_trans hb1.size hg5; have hy5 : ∀ b ∈ footD (.mk kind1 n1 neg1 mA1 mc1 mag1 text1 Ai1 ci1 items1 Ar1 cr1 rest1), b ≠ g5 := (fun b hb => by have := good_lt hgy1 b hb; omega); replace hgy1 := hgy1.to hb; replace hb1 := bthen hb1 hb; clear hb hg5)
  | ((with_reducible refine g_store 5 ?_); go_must (refine ev_store rfl rfl B5 (news := [.int .i64 kind1, .int .i64 n1, .bool neg1, .slice mA1 mag1.length mc1, .string ⟨text1.toArray⟩, .slice Ai1 items1.length ci1, .slice Ar1 rest1.length cr1]) (by first | rfl | (go_simp; try rfl)) infoD (by simp) (by simp [Value.oneCell']) ?_); intro wn ho Bn; simp only [encD, zA, zB, zC, zD, zE, zF, zG, zH] at Bn; replace hb1 := hb1.trans (ho.below hs5); replace hgy1 := good_only hgy1 ho hy5; replace B5 := Bn; clear Bn ho; have C5 := B5.cells)
  | (go_at_call 10; (with_reducible refine (HB.out _).mono ?_); rintro e2 w2 ⟨v2, rfl, ⟨y2, rfl, hgy2, hed2⟩, hb⟩; have HE2 := As.mk hed2; clear hed2 C5; replace B5 := B5.below hb; have C5 := B5.cells; replace hgy1 := hgy1.to hb; replace hb1 := bthen hb1 hb; clear hb; obtain ⟨kind2, n2, neg2, mA2, mc2, mag2, text2, Ai2, ci2, items2, Ar2, cr2, rest2⟩ := y2)
  | ((with_reducible refine g_dst 8 ?_); go_must (refine ev_alloc 8 rfl infoD (cs := [.int .i64 0, .int .i64 0, .bool false, .slice none 0 0, .string ⟨#[]⟩, .slice none 0 0, .slice none 0 0]) rfl ?_); intro g8 wn hb B8 hg8; have hs8 := Nat.le_trans hb1.size hg8; have hy8 : ∀ b ∈ footD (.mk kind2 n2 neg2 mA2 mc2 mag2 text2 Ai2 ci2 items2 Ar2 cr2 rest2), b ≠ g8 := (fun b hb => by have := good_lt hgy2 b hb; omega); replace hgy2 := hgy2.to hb; have hn58 : g5 ≠ g8 := (fun h => by have := B5.lt; omega); have hy81 : ∀ b ∈ footD (.mk kind1 n1 neg1 mA1 mc1 mag1 text1 Ai1 ci1 items1 Ar1 cr1 rest1), b ≠ g8 := (fun b hb => by have := good_lt hgy1 b hb; omega); replace B5 := B5.below hb; clear C5; have C5 := B5.cells; replace hgy1 := hgy1.to hb; replace hb1 := bthen hb1 hb; clear hb hg8)
  | ((with_reducible refine g_store 8 ?_); go_must (refine ev_store rfl rfl B8 (news := [.int .i64 kind2, .int .i64 n2, .bool neg2, .slice mA2 mag2.length mc2, .string ⟨text2.toArray⟩, .slice Ai2 items2.length ci2, .slice Ar2 rest2.length cr2]) (by first | rfl | (go_simp; try rfl)) infoD (by simp) (by simp [Value.oneCell']) ?_); intro wn ho Bn; simp only [encD, zA, zB, zC, zD, zE, zF, zG, zH] at Bn; replace hb1 := hb1.trans (ho.below hs8); replace hgy2 := good_only hgy2 ho hy8; replace B5 := B5.only ho hn58; clear C5; have C5 := B5.cells; replace hgy1 := good_only hgy1 ho hy81; replace B8 := Bn; clear Bn ho; have C8 := B8.cells; have HC := As.mk (same_ok _ _ hgy1 (by rw [HE1.out]; exact HX.out) _ _ (Below.refl _ _) hgy2 (by rw [HE1.out, HE2.out])); simp only [encD] at HC)
  | (go_at_call 11; (with_reducible refine HC.out.mono ?_); rintro e7 w7 ⟨v7, rfl, rfl, hb7⟩; replace hb1 := bthen hb1 hb7)
  | (go_at_call 8; (with_reducible refine (awake_any _).mono ?_); rintro e3 w3 ⟨v3, rfl, rfl, hb3⟩; replace hb1 := bthen hb1 hb3))
 go_ret
 exact ⟨_, rfl, by first | rfl | simp, hb1⟩
end Go.Proofs.YtdapbegadhcpcaaGreatDoor
