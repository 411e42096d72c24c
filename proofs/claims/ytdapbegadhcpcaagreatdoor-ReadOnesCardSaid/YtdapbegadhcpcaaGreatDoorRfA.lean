/- A part of the proof. -/
import Derived.StillTailTactics
import Derived.Test.YtdapbegadhcpcaaGreatDoorMG
import Derived.Test.YtdapbegadhcpcaaGreatDoorMJ
set_option linter.unusedVariables false
set_option linter.unusedSimpArgs false
namespace Go.Proofs.YtdapbegadhcpcaaGreatDoor
open Go.RowKit Go.Proofs.YtdapbegadhcpcaaGreatDoorL Go.Proofs.YtdapbegadhcpcaaGreatDoorM
structure RR (w : World) (g : Nat) (T : ByteArray) (i : Nat) (p c : Int) : Prop where
 out : Blk w g [.string T, .int .i64 (i : Int), .int .i64 c, .int .i64 p] 53
theorem RR.below {w w1 : World} {g i : Nat} {p c : Int} {T : ByteArray} (h : RR w g T i p c) (hb : Below w.heap.size w w1) : RR w1 g T i p c := ⟨h.out.below hb⟩
theorem RR.lt {w : World} {g i : Nat} {p c : Int} {T : ByteArray} (h : RR w g T i p c) : g < w.heap.size := h.out.lt
theorem RR.at_ {w : World} {g i : Nat} {p c : Int} {T : ByteArray} (R : RR w g T i p c) : atOf w g = i := by
 rw [atOf, R.out.cells]; simp
def errR (w : World) (g : Nat) : Int := match w.cell? ⟨g, 2, none⟩ with | some (.int _ k) => k | _ => 0
theorem RR.err {w : World} {g i : Nat} {p c : Int} {T : ByteArray} (R : RR w g T i p c) : errR w g = c := by
 rw [errR, R.out.cells]; simp
theorem dleR (a b : Nat) : decide ((a : Int) ≤ (b : Int)) = decide (a ≤ b) := by
 by_cases h : a ≤ b
 · rw [decide_eq_true h, decide_eq_true (by omega)]
 · rw [decide_eq_false h, decide_eq_false (by omega)]
theorem u8R (c : UInt8) (n : Nat) (h : n < 256) : ((c.toNat : Int) == (n : Int)) = (c == UInt8.ofNat n) := by
 rw [Bool.eq_iff_iff, beq_iff_eq, beq_iff_eq]
 constructor
 · intro e
   have e2 : c.toNat = n := by omega
   rw [← e2]; simp
 · rintro rfl
   simp [UInt8.toNat_ofNat', Nat.mod_eq_of_lt h]
theorem rend_b {w : World} {g i : Nat} {p c : Int} {T : ByteArray} (R : RR w g T i p c) (b : Bool) (h : decide (T.size ≤ i) = b) :
 Calls Tryz.prog 16 #[.pointer (some ⟨g, 0, none⟩)] w (Gives w fun v _ => v = .bool b) := by
 have C := R.out.cells
 have hd := dleR T.size i
 rw [h] at hd
 go_enter Tryz.func16, Tryz.ntmps16
 go_wp2
 go_quiet (fail)
 go_wp2
 go_ret
 exact ⟨_, rfl, by first | rfl | simp [hd] | simp [h], dr (Below.refl _ _) _⟩
theorem rfail_ok {w : World} {g i : Nat} {p : Int} {T : ByteArray} (R : RR w g T i p 0) (e a : Int) :
 Calls Tryz.prog 31 #[.pointer (some ⟨g, 0, none⟩), .int .i64 e, .int .i64 a] w fun x w' => x = .returned (.tuple #[]) ∧ Only g w w' ∧ RR w' g T i a e := by
 have B := R.out
 have C := B.cells
 go_enter Tryz.func31, Tryz.ntmps31
 go_wp2_with (first
  | ((with_reducible refine g_store 14 ?_); go_must (refine ev_store rfl rfl B (news := [.int .i64 e]) (by rfl) infoI (by simp) (by simp [Value.oneCell']) ?_); intro w1 ho Bn; simp only [zI, zA, zC, zD, zE, zF, zH, zB, zG, Nat.reduceAdd] at Bn; clear C B; have B := Bn; clear Bn; have C := B.cells)
  | ((with_reducible refine g_store 18 ?_); go_must (refine ev_store rfl rfl B (news := [.int .i64 a]) (by rfl) infoI (by simp) (by simp [Value.oneCell']) ?_); intro w2 ho2 Bn; simp only [zI, zA, zC, zD, zE, zF, zH, zB, zG, Nat.reduceAdd] at Bn; clear C B; have B := Bn; clear Bn; have C := B.cells))
 go_end0
 exact ⟨rfl, ho.trans ho2, ⟨B⟩⟩
theorem rblank_any (c : UInt8) (w : World) : Calls Tryz.prog 28 #[.int .u8 (c.toNat : Int)] w (Gives w fun v _ => v = .bool (isBl c)) := by
 have hI : isBl c = (((c.toNat : Int) == 32) || ((c.toNat : Int) == 9) || ((c.toNat : Int) == 10) || ((c.toNat : Int) == 13)) := by
  rw [isBl, show ((32 : Int)) = ((32 : Nat) : Int) by rfl, show ((9 : Int)) = ((9 : Nat) : Int) by rfl, show ((10 : Int)) = ((10 : Nat) : Int) by rfl, show ((13 : Int)) = ((13 : Nat) : Int) by rfl, u8R c 32 (by omega), u8R c 9 (by omega), u8R c 10 (by omega), u8R c 13 (by omega)]; rfl
 cases e0 : ((c.toNat : Int) == 32) with
 | true =>
   go_enter Tryz.func28, Tryz.ntmps28
   go_wp2
   go_ret
   exact ⟨_, rfl, by rw [hI, e0]; simp, Below.refl _ _⟩
 | false =>
   cases e1 : ((c.toNat : Int) == 9) with
   | true =>
     go_enter Tryz.func28, Tryz.ntmps28
     go_wp2
     go_ret
     exact ⟨_, rfl, by rw [hI, e0, e1]; simp, Below.refl _ _⟩
   | false =>
     cases e2 : ((c.toNat : Int) == 10) with
     | true =>
       go_enter Tryz.func28, Tryz.ntmps28
       go_wp2
       go_ret
       exact ⟨_, rfl, by rw [hI, e0, e1, e2]; simp, Below.refl _ _⟩
     | false =>
       cases e3 : ((c.toNat : Int) == 13) with
       | true =>
         go_enter Tryz.func28, Tryz.ntmps28
         go_wp2
         go_ret
         exact ⟨_, rfl, by rw [hI, e0, e1, e2, e3]; simp, Below.refl _ _⟩
       | false =>
         go_enter Tryz.func28, Tryz.ntmps28
         go_wp2
         go_ret
         exact ⟨_, rfl, by rw [hI, e0, e1, e2, e3]; rfl, Below.refl _ _⟩
theorem rblank_b (c : UInt8) (b : Bool) (h : isBl c = b) (w : World) : Calls Tryz.prog 28 #[.int .u8 (c.toNat : Int)] w (Gives w fun v _ => v = .bool b) := h ▸ rblank_any c w
theorem rdelim_any (c : UInt8) (w : World) : Calls Tryz.prog 52 #[.int .u8 (c.toNat : Int)] w (Gives w fun v _ => v = .bool (isDl c)) := by
 have hI : isDl c = (isBl c || ((c.toNat : Int) == 40) || ((c.toNat : Int) == 41) || ((c.toNat : Int) == 34) || ((c.toNat : Int) == 59) || ((c.toNat : Int) == 39)) := by
  rw [isDl, show ((40 : Int)) = ((40 : Nat) : Int) by rfl, show ((41 : Int)) = ((41 : Nat) : Int) by rfl, show ((34 : Int)) = ((34 : Nat) : Int) by rfl, show ((59 : Int)) = ((59 : Nat) : Int) by rfl, show ((39 : Int)) = ((39 : Nat) : Int) by rfl, u8R c 40 (by omega), u8R c 41 (by omega), u8R c 34 (by omega), u8R c 59 (by omega), u8R c 39 (by omega)]; rfl
 cases eb : isBl c
 case true =>
  go_enter Tryz.func52, Tryz.ntmps52
  go_wp2_with (go_at_call 28; (with_reducible refine (rblank_b c true eb _).mono ?_); rintro e w1 ⟨v1, rfl, rfl, hb1⟩)
  go_ret
  exact ⟨_, rfl, by rw [hI, eb]; simp, hb1⟩
 cases e0 : ((c.toNat : Int) == 40) with
 | true =>
   go_enter Tryz.func52, Tryz.ntmps52
   go_wp2_with (go_at_call 28; (with_reducible refine (rblank_b c false eb _).mono ?_); rintro e w1 ⟨v1, rfl, rfl, hb1⟩)
   go_ret
   exact ⟨_, rfl, by rw [hI, eb, e0]; simp, hb1⟩
 | false =>
   cases e1 : ((c.toNat : Int) == 41) with
   | true =>
     go_enter Tryz.func52, Tryz.ntmps52
     go_wp2_with (go_at_call 28; (with_reducible refine (rblank_b c false eb _).mono ?_); rintro e w1 ⟨v1, rfl, rfl, hb1⟩)
     go_ret
     exact ⟨_, rfl, by rw [hI, eb, e0, e1]; simp, hb1⟩
   | false =>
     cases e2 : ((c.toNat : Int) == 34) with
     | true =>
       go_enter Tryz.func52, Tryz.ntmps52
       go_wp2_with (go_at_call 28; (with_reducible refine (rblank_b c false eb _).mono ?_); rintro e w1 ⟨v1, rfl, rfl, hb1⟩)
       go_ret
       exact ⟨_, rfl, by rw [hI, eb, e0, e1, e2]; simp, hb1⟩
     | false =>
       cases e3 : ((c.toNat : Int) == 59) with
       | true =>
         go_enter Tryz.func52, Tryz.ntmps52
         go_wp2_with (go_at_call 28; (with_reducible refine (rblank_b c false eb _).mono ?_); rintro e w1 ⟨v1, rfl, rfl, hb1⟩)
         go_ret
         exact ⟨_, rfl, by rw [hI, eb, e0, e1, e2, e3]; simp, hb1⟩
       | false =>
         cases e4 : ((c.toNat : Int) == 39) with
         | true =>
           go_enter Tryz.func52, Tryz.ntmps52
           go_wp2_with (go_at_call 28; (with_reducible refine (rblank_b c false eb _).mono ?_); rintro e w1 ⟨v1, rfl, rfl, hb1⟩)
           go_ret
           exact ⟨_, rfl, by rw [hI, eb, e0, e1, e2, e3, e4]; simp, hb1⟩
         | false =>
           go_enter Tryz.func52, Tryz.ntmps52
           go_wp2_with (go_at_call 28; (with_reducible refine (rblank_b c false eb _).mono ?_); rintro e w1 ⟨v1, rfl, rfl, hb1⟩)
           go_ret
           exact ⟨_, rfl, by rw [hI, eb, e0, e1, e2, e3, e4]; rfl, hb1⟩
theorem rdelim_b (c : UInt8) (b : Bool) (h : isDl c = b) (w : World) : Calls Tryz.prog 52 #[.int .u8 (c.toNat : Int)] w (Gives w fun v _ => v = .bool b) := h ▸ rdelim_any c w
def hexI (c : UInt8) : Int := match hexD c with | some a => (a : Int) | none => -1
theorem rhex_any (c : UInt8) (w : World) : Calls Tryz.prog 49 #[.int .u8 (c.toNat : Int)] w (Gives w fun v _ => v = .int .i64 (hexI c)) := by
 have hlt := c.toNat_lt
 by_cases h1 : 48 ≤ c.toNat
 · have i1 : (48 : Int) ≤ (c.toNat : Int) := by omega
   by_cases h2 : c.toNat ≤ 57
   · have i2 : (c.toNat : Int) ≤ 57 := by omega
     have hH : hexI c = (c.toNat : Int) - 48 := by rw [hexI, hexD, if_pos ⟨h1, h2⟩]; simp only; omega
     go_enter Tryz.func49, Tryz.ntmps49
     go_wp2
     go_ret
     exact ⟨_, rfl, by first | rfl | (rw [hH]; first | rfl | go_num | (congr 1; omega)), Below.refl _ _⟩
   · have i2 : ¬ (c.toNat : Int) ≤ 57 := by omega
     by_cases h3 : 97 ≤ c.toNat
     · have i3 : (97 : Int) ≤ (c.toNat : Int) := by omega
       by_cases h4 : c.toNat ≤ 102
       · have i4 : (c.toNat : Int) ≤ 102 := by omega
         have hH : hexI c = (c.toNat : Int) - 97 + 10 := by rw [hexI, hexD, if_neg (by omega), if_pos ⟨h3, h4⟩]; simp only; omega
         go_enter Tryz.func49, Tryz.ntmps49
         go_wp2
         go_ret
         exact ⟨_, rfl, by first | rfl | (rw [hH]; first | rfl | go_num | (congr 1; omega)), Below.refl _ _⟩
       · have i4 : ¬ (c.toNat : Int) ≤ 102 := by omega
         have hH : hexI c = -1 := by rw [hexI, hexD, if_neg (by omega), if_neg (by omega)]
         go_enter Tryz.func49, Tryz.ntmps49
         go_wp2
         go_ret
         exact ⟨_, rfl, by first | rfl | rw [hH], Below.refl _ _⟩
     · have i3 : ¬ (97 : Int) ≤ (c.toNat : Int) := by omega
       have hH : hexI c = -1 := by rw [hexI, hexD, if_neg (by omega), if_neg (by omega)]
       go_enter Tryz.func49, Tryz.ntmps49
       go_wp2
       go_ret
       exact ⟨_, rfl, by first | rfl | rw [hH], Below.refl _ _⟩
 · have i1 : ¬ (48 : Int) ≤ (c.toNat : Int) := by omega
   have i3 : ¬ (97 : Int) ≤ (c.toNat : Int) := by omega
   have hH : hexI c = -1 := by rw [hexI, hexD, if_neg (by omega), if_neg (by omega)]
   go_enter Tryz.func49, Tryz.ntmps49
   go_wp2
   go_ret
   exact ⟨_, rfl, by first | rfl | rw [hH], Below.refl _ _⟩
theorem rhex_b (c : UInt8) (k : Int) (h : hexI c = k) (w : World) : Calls Tryz.prog 49 #[.int .u8 (c.toNat : Int)] w (Gives w fun v _ => v = .int .i64 k) := h ▸ rhex_any c w
theorem rsymbol_any (s : ByteArray) (w : World) : Calls Tryz.prog 50 #[.string s] w (Gives w fun v _ => v = .agg #[.int .i64 5, .int .i64 0, .bool false, .slice none 0 0, .string s, .slice none 0 0, .slice none 0 0]) := by
 go_enter Tryz.func50, Tryz.ntmps50
 go_wp2_with (first
  | ((with_reducible refine g_dst 2 ?_); go_must (refine ev_alloc 2 rfl infoD (cs := [.int .i64 0, .int .i64 0, .bool false, .slice none 0 0, .string ⟨#[]⟩, .slice none 0 0, .slice none 0 0]) rfl ?_); intro g2 w1 hb B2 hg2)
  | ((with_reducible refine g_store 2 ?_); go_must (refine ev_store rfl rfl B2 (news := [.int .i64 5, .int .i64 0, .bool false, .slice none 0 0, .string s, .slice none 0 0, .slice none 0 0]) (by rfl) infoD (by simp) (by simp [Value.oneCell']) ?_); intro w2 ho Bn; simp only [encD, zA, zB, zC, zD, zE, zF, zG, zH] at Bn; replace hb := hb.trans (ho.below hg2)))
 refine bodyPost_ret (results_cell_row rfl _ _ g2 35 ([.int .i64 5, .int .i64 0, .bool false, .slice none 0 0, .string s, .slice none 0 0, .slice none 0 0] : List Value).toArray (0, 0) _ rfl Bn.h Tryz.underlying35 rfl (by kernel_rfl)) rfl ?_
 exact ⟨_, rfl, rfl, hb⟩
theorem pre2_end {s : List UInt8} {i : Nat} {x y : UInt8} (h : ¬ i + 2 ≤ s.length) : pre s i [x, y] = false := by
 cases h0 : s[i]? with
 | none => exact pre_end (List.getElem?_eq_none_iff.1 h0) _ _
 | some c =>
   rw [pre2 h0, show s[i + 1]? = none from List.getElem?_eq_none_iff.2 (by omega)]
   simp
theorem two_ext (T : ByteArray) {i : Nat} (h : i + 2 ≤ T.size) (x y : UInt8) (L : ByteArray) (hL : L.data.toList = [x, y]) : ((T.extract i (i + 2)).toList == L.toList) = pre T.data.toList i [x, y] := by
 have hl := size_list T
 have h0 : T.data.toList[i]? = some T.data.toList[i] := List.getElem?_eq_getElem (by omega)
 have h1 : T.data.toList[i + 1]? = some T.data.toList[i + 1] := List.getElem?_eq_getElem (by omega)
 have he : (T.extract i (i + 2)).data.toList = [T.data.toList[i], T.data.toList[i + 1]] := by
  rw [ByteArray.data_extract, Array.toList_extract, List.extract_eq_take_drop, show i + 2 - i = 2 by omega, List.drop_eq_getElem_cons (by omega), List.drop_eq_getElem_cons (by omega)]
  rfl
 rw [Lib.toList_data, Lib.toList_data, he, hL, pre2 h0, h1, Bool.eq_iff_iff, beq_iff_eq]
 simp only [List.cons.injEq, and_true, Bool.and_eq_true, beq_iff_eq, Option.some.injEq]
 exact ⟨fun h => ⟨h.1.symm, h.2⟩, fun h => ⟨h.1.symm, h.2⟩⟩
set_option maxRecDepth 8000 in
set_option maxHeartbeats 1000000 in
theorem rtwo_any {w : World} {g i : Nat} {p c : Int} {T : ByteArray} (R : RR w g T i p c) (hi : i ≤ T.size) (hT : T.size ≤ 65536) (x y : UInt8) :
 Calls Tryz.prog 29 #[.pointer (some ⟨g, 0, none⟩), .string ⟨#[x, y]⟩] w (Gives w fun v _ => v = .bool (pre T.data.toList i [x, y])) := by
 have C := R.out.cells
 have hl : (⟨#[x, y]⟩ : ByteArray).data.toList = [x, y] := rfl
 obtain ⟨L, hL⟩ : ∃ L : ByteArray, L = ⟨#[x, y]⟩ := ⟨_, rfl⟩
 rw [← hL] at hl ⊢
 have Hl := As.mk hl
 have hsl := As.mk (size_list T)
 clear hl hL
 obtain ⟨k, hk⟩ : ∃ k, k = i + 2 := ⟨_, rfl⟩
 have hwk : IntKind.i64.wrap ((i : Int) + 2) = (k : Int) := (IntWalk.i64_in _ (by omega)).trans (by omega)
 by_cases h2 : k ≤ T.size
 · have h2i : (k : Int) ≤ (T.size : Int) := by omega
   have h2k : (i : Int) ≤ (k : Int) := by omega
   have HT := As.mk (two_ext T (i := i) (by omega) x y L Hl.out)
   rw [← hk] at HT
   clear hk
   go_enter Tryz.func29, Tryz.ntmps29
   go_wp2
   go_quiet (fail)
   go_wp2
   go_ret
   exact ⟨_, rfl, by rw [← HT.out]; first | rfl | simp, dr (Below.refl _ _) _⟩
 · have h2i : decide ((k : Int) ≤ (T.size : Int)) = false := decide_eq_false (by omega)
   have h2n : decide (k ≤ T.size) = false := decide_eq_false h2
   clear h2
   have HP : As (pre T.data.toList i [x, y] = false) := ⟨pre2_end (by rw [hsl.out]; have := of_decide_eq_false h2n; omega)⟩
   clear hk
   go_enter Tryz.func29, Tryz.ntmps29
   go_wp2
   have hbw := (Below.refl (World.heap w).size w).drew
   replace R := R.below hbw
   clear C
   have hS0 : w.drew.cell? ⟨g, 0, none⟩ = some (.string T) ∧ w.drew.cell? ⟨g, 1, none⟩ = some (.int .i64 (i : Int)) := ⟨R.out.cells 0, R.out.cells 1⟩
   refine wp_gen2 (fun Q7 hQ7 => ?_)
   refine wp_region_held_drew (S := fun W => W.cell? ⟨g, 0, none⟩ = some (.string T) ∧ W.cell? ⟨g, 1, none⟩ = some (.int .i64 (i : Int))) (by kernel_rfl) (hS0) (fun hHeld => ?_)
   refine ta 0 (.pointer (some ⟨g, 0, none⟩)) ?_
   refine ta 1 (.pointer (some ⟨g, 0, none⟩)) ?_
   refine ta 2 (.pointer (some ⟨g, 1, none⟩)) ?_
   refine ta 3 (.int .i64 (i : Int)) ?_
   refine ta 4 (.int .i64 (k : Int)) ?_
   refine ta 5 (.pointer (some ⟨g, 0, none⟩)) ?_
   refine ta 6 (.pointer (some ⟨g, 0, none⟩)) ?_
   refine ta 7 (.pointer (some ⟨g, 0, none⟩)) ?_
   refine ta 8 (.string T) ?_
   refine ta 9 (.int .i64 (T.size : Int)) ?_
   refine ta 10 (.bool false) ?_
   refine ta 11 (.bool false) ?_
   refine tu 12 ?_
   refine tu 13 ?_
   refine tu 14 ?_
   refine tu 15 ?_
   refine tu 16 ?_
   refine tu 17 ?_
   refine tu 18 ?_
   refine tu 19 ?_
   refine tu 20 ?_
   refine tu 21 ?_
   refine tu 22 ?_
   refine tu 23 ?_
   refine tu 24 ?_
   refine tu 25 ?_
   refine tu 26 ?_
   refine tu 27 ?_
   refine ta 28 (.bool false) ?_
   refine ta 29 (.bool false) ?_
   refine wpAnyH_done (by kernel_rfl) ?_ _
   refine NoPanic.normal ?_
   obtain ⟨rfl⟩ := hQ7
   go_wp2
   go_ret
   exact ⟨_, rfl, by rw [HP.out]; rfl, hbw⟩
theorem rtwo_b {w : World} {g i : Nat} {p c : Int} {T : ByteArray} (R : RR w g T i p c) (hi : i ≤ T.size) (hT : T.size ≤ 65536) (x y : UInt8) (b : Bool) (h : pre T.data.toList i [x, y] = b) :
 Calls Tryz.prog 29 #[.pointer (some ⟨g, 0, none⟩), .string ⟨#[x, y]⟩] w (Gives w fun v _ => v = .bool b) := h ▸ rtwo_any R hi hT x y
end Go.Proofs.YtdapbegadhcpcaaGreatDoor
