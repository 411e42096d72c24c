/- Package num: told, cmp, add, mul of two; of an int64. -/
import Derived.Test.YtigoofeodbbbhaaDoorNat7
import Derived.Test.YtigoofeodbbbhaaDoorNum2
import Derived.Test.YtigoofeodbbbhaaDoorLib4
import Derived.Test.YtigoofeodbbbhaaDoorKeep
import Derived.Test.YtigoofeodbbbhaaDoorMath9
import Derived.BigQuiet
import Derived.Deep.RegionHeld3
namespace Go.Proofs.YtigoofeodbbbhaaDoor
open Go.RowKit Go.Proofs.YtigoofeodbbbhaaDoorL Go.Proofs.YtigoofeodbbbhaaDoorM
set_option linter.unusedVariables false
set_option linter.unusedSimpArgs false
theorem lim_nil (w : World) : Lim w none 0 [] := ⟨Rd.nil _ _ _ _, fun x hx => (nomatch hx), Nat.le_refl _, fun _ => rfl, by simp⟩
/-- a whole number as an answer: canonical, in memory of its own -/
def Told (base : Nat) (w : World) (v : Value) (z : Int) : Prop := ∃ m, v = .agg #[.bool (decide (z < 0)), m] ∧ Ow encU 1 62 base w m (digB 4294967296 z.natAbs)
/-- a number that is worked at -/
def NumO (base : Nat) (w : World) (v : Value) (z : Int) : Prop := ∃ m nb N, v = .agg #[m, .bool nb] ∧ Ow encU 1 62 base w m (digB 4294967296 N) ∧ sval nb N = z
theorem Told.below {base : Nat} {w w1 : World} {v : Value} {z : Int} (h : Told base w v z) (hb : Below w.heap.size w w1) : Told base w1 v z := by
  obtain ⟨m, rfl, ho⟩ := h
  exact ⟨m, rfl, ho.below hb⟩
/-- of so many limbs -/
def Sm (k : Nat) (z : Int) : Prop := z.natAbs < 4294967296 ^ k
theorem Sm.len {k : Nat} {z : Int} (h : Sm k z) : (digB 4294967296 z.natAbs).length ≤ k := digB_len_lt _ (by omega) k _ h
theorem Sm.mono {k n : Nat} {z : Int} (h : Sm k z) (hk : k ≤ n) : Sm n z := Nat.lt_of_lt_of_le h (Nat.pow_le_pow_right (by omega) hk)
theorem Sm.add {k : Nat} {y z : Int} (h : Sm k y) (h2 : Sm k z) : Sm (k + 1) (y + z) := by
  unfold Sm at *
  have := Int.natAbs_add_le y z
  rw [Nat.pow_succ]; omega
theorem Sm.neg {k : Nat} {z : Int} (h : Sm k z) : Sm k (-z) := by unfold Sm at *; rwa [Int.natAbs_neg]
theorem Sm.mul {k n : Nat} {y z : Int} (h : Sm k y) (h2 : Sm n z) : Sm (k + n) (y * z) := by
  unfold Sm at *
  rw [Int.natAbs_mul, Nat.pow_add]
  exact Nat.mul_lt_mul'' h h2
theorem Sm.of (neg : Bool) (l : List Nat) (h : ∀ x ∈ l, x < 4294967296) : Sm l.length (sval neg (valB 4294967296 l)) := by
  unfold Sm; rw [sval_abs]; exact valB_lt _ (by omega) l h
/-- a told number opened: what is asked of it as an argument -/
theorem Told.open {base : Nat} {w : World} {v : Value} {z : Int} (h : Told base w v z) (hs : (digB 4294967296 z.natAbs).length ≤ 274877906944) :
    ∃ (A : Option Addr) (c : Nat) (l : List Nat), v = .agg #[.bool (decide (z < 0)), .slice A l.length c] ∧ Lim w A c l ∧ sval (decide (z < 0)) (valB 4294967296 l) = z ∧ l = digB 4294967296 z.natAbs ∧ Ow encU 1 62 base w (.slice A l.length c) l := by
  obtain ⟨m, rfl, ho⟩ := h
  obtain ⟨A, c, rfl, h1, h2⟩ := ho.form
  exact ⟨A, c, _, rfl, Ow.lim ho h1 hs, by rw [digB_val _ (by omega)]; exact sval_of z, rfl, ho⟩
theorem infoNm : (Tryd.prog.info? 52).map (fun i => (i.zero, i.size, i.bytes)) = some (some (.agg #[.slice none 0 0, .bool false]), 2, 32) := infoNumber
theorem infoBl : (Tryd.prog.info? 4).map (fun i => (i.zero, i.size, i.bytes)) = some (some (.bool false), 1, 1) := by kernel_rfl
set_option maxHeartbeats 400000 in
theorem scmp_any (l m : List Nat) (A A2 : Option Addr) (c c2 : Nat) (w : World) (h : Lim w A c l) (h2 : Lim w A2 c2 m) :
    Calls Tryd.prog 69 #[.agg #[.slice A l.length c], .agg #[.slice A2 m.length c2]] w (Gives w fun v w' => v = .int .i64 (cmpN (valB 4294967296 l) (valB 4294967296 m))) := by
  have HC := As.mk (fun w1 (hb : Below w.heap.size w w1) => natCmp_any l m A A2 c c2 w1 (h.rd.below hb) (h2.rd.below hb) ⟨h.lt, h2.lt⟩ h.cap h2.cap (Nat.le_trans h.max (by omega)) (Nat.le_trans h2.max (by omega)))
  obtain ⟨cv, hcv⟩ : ∃ cv, cv = cmpN (valB 4294967296 l) (valB 4294967296 m) := ⟨_, rfl⟩
  rw [← hcv] at HC ⊢
  clear hcv
  go_enter Tryd.func69, Tryd.ntmps69
  go_wp2_with (first
    | ((with_reducible refine g_dst 2 ?_); go_must (refine ev_box 2 rfl (cs := [.slice A l.length c]) (by rfl) ?_); intro g w1 hb1 B1 hg1; have C1 := B1.cells)
    | ((with_reducible refine g_dst 3 ?_); go_must (refine ev_box 3 rfl (cs := [.slice A2 m.length c2]) (by rfl) ?_); intro g2 w2 hb2 B2 hg2; replace B1 := B1.below hb2; clear C1; have C1 := B1.cells; have C2 := B2.cells; replace hb2 := bthen hb1 hb2)
    | (go_at_call 74; (with_reducible refine (HC.out _ hb2).mono ?_); rintro e w3 ⟨v3, rfl, rfl, hb3⟩))
  go_ret
  exact ⟨_, rfl, rfl, bthen hb2 hb3⟩
theorem sk2 {w : World} {g k : Nat} {a b a2 b2 : Value} {t t2 : TypeId} (B : Blk w g [a, b] t) (B2 : Blk w k [a2, b2] t2) (hne : g ≠ k) (v u : Value) : ((w.setCell ⟨k, 0, none⟩ v).setCell ⟨k, 1, none⟩ u).cell? ⟨g, 0, none⟩ = some a ∧ ((w.setCell ⟨k, 0, none⟩ v).setCell ⟨k, 1, none⟩ u).cell? ⟨g, 1, none⟩ = some b :=
  ⟨(B.only (set2_gen B2 v u).1 hne).cells 0, (B.only (set2_gen B2 v u).1 hne).cells 1⟩
set_option maxHeartbeats 1000000 in
theorem told_any (l : List Nat) (neg : Bool) (A : Option Addr) (c : Nat) (w : World) (h : Lim w A c l) :
    Calls Tryd.prog 48 #[.agg #[.slice A l.length c, .bool neg]] w (Gives w fun v w' => Told w.heap.size w' v (sval neg (valB 4294967296 l))) := by
  have hz := fun w1 (hb : Below w.heap.size w w1) => szero_any l A c w1 (h.below hb)
  have HA := As.mk (fun w1 (hb : Below w.heap.size w w1) => natAdd_any l [] l.length 0 0 rfl rfl [] rfl A none none c 0 0 w1 (h.below hb) (lim_nil w1) (Rd.nil _ _ _ _) (fun s hs => (nomatch hs)) (Nat.le_refl _) (by omega))
  obtain ⟨V, hV⟩ : ∃ V, V = valB 4294967296 l := ⟨_, rfl⟩
  simp only [valB_nil, List.map_nil, sumV, Nat.add_zero, ← hV] at HA hz ⊢
  by_cases h0 : V = 0
  · simp only [h0, decide_true] at hz
    have HZ := As.mk hz
    have H0 := As.mk h0
    clear hz HA hV h0
    go_enter Tryd.func48, Tryd.ntmps48
    go_wp2_with (first
      | ((with_reducible refine g_dst 1 ?_); go_must (refine ev_box 1 rfl (cs := [.slice A l.length c, .bool neg]) (by rfl) ?_); intro g w1 hb1 B1 hg1)
      | ((with_reducible refine g_dst 2 ?_); go_must (refine ev_alloc 2 rfl infoNum (cs := [.bool false, .slice none 0 0]) rfl ?_); intro g2 w2 hb2 B2 hg2; replace B1 := B1.below hb2; have C1 := B1.cells; replace hg2 := Nat.le_trans hb1.size hg2; replace hb2 := bthen hb1 hb2)
      | (go_at_call 55; (with_reducible refine (HZ.out _ hb2).mono ?_); rintro e w3 ⟨v3, rfl, rfl, hb3⟩; replace B2 := B2.below hb3; replace hb3 := bthen hb2 hb3)
      | ((with_reducible refine g_store 2 ?_); go_must (refine ev_store rfl rfl B2 (news := [.bool false, .slice none 0 0]) (by rfl) infoNum (by simp) (by simp [Value.oneCell']) ?_); intro w4 ho4 B4; simp only [List.take_zero, List.nil_append, List.length_cons, List.length_nil, List.drop_succ_cons, List.drop_zero, List.append_nil, List.cons_append] at B4))
    refine bodyPost_ret (results_cell_row rfl _ _ g2 26 #[.bool false, .slice none 0 0] (0, 0) _ rfl B4.h Tryd.underlying26 rfl (by kernel_rfl)) rfl ?_
    refine ⟨_, rfl, ⟨.slice none 0 0, ?_, ?_⟩, hb3.trans (ho4.below hg2)⟩
    · rw [H0.out]; cases neg <;> rfl
    · rw [H0.out, show (sval neg 0).natAbs = 0 from sval_abs neg 0, digB_zero]; exact Ow.nil _ _ _ _ _
  · simp only [decide_eq_false h0] at hz
    have HZ := As.mk hz
    have hs : As (decide (sval neg V < 0) = neg ∧ (sval neg V).natAbs = V) := ⟨by rw [sval_lt]; simp; intro _; omega, sval_abs neg V⟩
    obtain ⟨L, hL⟩ : ∃ L, L = digB 4294967296 V := ⟨_, rfl⟩
    rw [← hL] at HA
    have HL := As.mk hL
    clear hz hV h0 hL
    go_enter Tryd.func48, Tryd.ntmps48
    go_wp2_with (first
      | ((with_reducible refine g_dst 1 ?_); go_must (refine ev_box 1 rfl (cs := [.slice A l.length c, .bool neg]) (by rfl) ?_); intro g w1 hb1 B1 hg1)
      | ((with_reducible refine g_dst 2 ?_); go_must (refine ev_alloc 2 rfl infoNum (cs := [.bool false, .slice none 0 0]) rfl ?_); intro g2 w2 hb2 B2 hg2; have hne : g ≠ g2 := Nat.ne_of_lt (Nat.lt_of_lt_of_le B1.lt hg2); replace B1 := B1.below hb2; have C1 := B1.cells; replace hg2 := Nat.le_trans hb1.size hg2; replace hb2 := bthen hb1 hb2)
      | (go_at_call 55; (with_reducible refine (HZ.out _ hb2).mono ?_); rintro e w3 ⟨v3, rfl, rfl, hb3⟩; replace B2 := B2.below hb3; replace B1 := B1.below hb3; clear C1; replace hb3 := bthen hb2 hb3))
    have hS : ∀ W, Below w3.heap.size w3 W → W.cell? ⟨g, 0, none⟩ = some (.slice A l.length c) ∧ W.cell? ⟨g, 1, none⟩ = some (.bool neg) := fun W hb => ⟨(B1.below hb).cells 0, (B1.below hb).cells 1⟩
    have hd := (Below.refl w3.heap.size w3).drew
    have hS0 := hS _ hd
    have hgl := B2.lt
    refine wp_gen (fun Q7 hQ7 => ?_)
    go_region_held3 (fun W => W.cell? ⟨g, 0, none⟩ = some (.slice A l.length c) ∧ W.cell? ⟨g, 1, none⟩ = some (.bool neg)) (first | assumption | exact hS _ hb4 | exact hSk _ _) (first
      | (go_at_call 68; (with_reducible refine (HA.out _ (bthen hb3 hd)).mono ?_); rintro e w4 ⟨v4, rfl, ho4, hb4⟩; replace hb4 := bthen hd hb4; replace B2 := B2.below hb4; have C2 := B2.cells; have F2 := B2.free; have hSk := sk2 (B1.below hb4) B2 hne; obtain ⟨A4, c4, rfl, h41, h42⟩ := ho4.form))
    obtain ⟨ho5, B5⟩ := set2_gen B2 (.bool neg) (.slice A4 L.length c4)
    generalize (w4.setCell ⟨g2, 0, none⟩ (.bool neg)).setCell ⟨g2, 1, none⟩ (.slice A4 L.length c4) = w5 at ho5 B5 ⊢
    obtain ⟨rfl⟩ := hQ7
    go_wp2
    refine bodyPost_ret (results_cell_row rfl _ _ g2 26 #[.bool neg, .slice A4 L.length c4] (0, 0) _ rfl B5.h Tryd.underlying26 rfl (by kernel_rfl)) rfl ?_
    refine ⟨_, rfl, ⟨.slice A4 L.length c4, ?_, ?_⟩, (bthen hb3 hb4).trans (ho5.below hg2)⟩
    · rw [hs.out.1]
    · rw [hs.out.2, ← HL.out]
      exact ow_only ho4 ho5 hgl (hb3.size)
end Go.Proofs.YtigoofeodbbbhaaDoor
