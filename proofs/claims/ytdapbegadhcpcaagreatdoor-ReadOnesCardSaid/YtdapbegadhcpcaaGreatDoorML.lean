/- A part of the proof. -/
import Derived.Test.YtdapbegadhcpcaaGreatDoorMC
import Derived.Test.YtdapbegadhcpcaaGreatDoorMK
import Derived.Test.YtdapbegadhcpcaaGreatDoorMD
import Derived.BigQuiet
import Derived.Deep.RegionHeld3
import Derived.Deep.RegionWith
import Derived.Test.YtdapbegadhcpcaaGreatDoorMJ
set_option linter.unusedVariables false
set_option linter.unusedSimpArgs false
namespace Go.Proofs.YtdapbegadhcpcaaGreatDoor
open Go.RowKit Go.Proofs.YtdapbegadhcpcaaGreatDoorL Go.Proofs.YtdapbegadhcpcaaGreatDoorM
theorem infoNum : (Tryz.prog.info? 33).map (fun i => (i.zero, i.size, i.bytes)) = some (some (.agg #[.bool false, .slice none 0 0]), 2, 32) := by kernel_rfl
theorem ow_only {α : Type} {enc : α → List Value} {sz : Nat} {e : TypeId} {base base2 g : Nat} {w w1 : World} {v : Value} {l : List α} (f : Ow enc sz e base2 w v l) (h : Only g w w1) (hg : g < base2) (hb : base ≤ base2) : Ow enc sz e base w1 v l :=
 Ow.lower ⟨f.own.kept (row := some g) ⟨h.os, h.tape, h.output, Nat.le_of_eq h.size.symm, fun k _ hk => h.block k (fun e => hk (by rw [e]))⟩ (by
  cases hv : v.ownBlock with
  | none => exact .inl rfl
  | some k =>
    refine .inr (fun e => ?_)
    have h1 := (f.own.lt k hv).1
    simp only [Option.some.injEq] at e
    omega)⟩ hb
set_option maxHeartbeats 400000 in
theorem of_any (l : List Nat) (neg : Bool) (A : Option Addr) (c : Nat) (w : World) (h : Lim w A c l) :
 Calls Tryz.prog 62 #[.bool neg, .slice A l.length c] w (Gives w fun v w' => ∃ m, v = .agg #[.bool (neg && decide (0 < valB 4294967296 l)), m] ∧ Ow encU 1 77 w.heap.size w' m (digB 4294967296 (valB 4294967296 l))) := by
 have hadd := fun w g (h : Lim w A c l) (hr : Rd encS 1 w (some ⟨g, 0, none⟩) [⟨A, c, l⟩]) => rAdd_any [⟨A, c, l⟩] 1 rfl (some ⟨g, 0, none⟩) 1 w hr (fun s hs => by
  simp only [List.mem_singleton] at hs
  subst hs
  exact ⟨h.rd, h.lt, h.cap, h.max, h.none⟩) (by omega) (by omega)
 simp only [List.map_cons, List.map_nil, sumV, Nat.add_zero] at hadd
 obtain ⟨V, hV⟩ : ∃ V, V = valB 4294967296 l := ⟨_, rfl⟩
 simp only [← hV] at hadd ⊢
 obtain ⟨L, hL⟩ : ∃ L, L = digB 4294967296 V := ⟨_, rfl⟩
 simp only [← hL] at hadd ⊢
 have hp : As (decide (0 < L.length) = decide (0 < V)) := ⟨by
  rw [Bool.eq_iff_iff, decide_eq_true_iff, decide_eq_true_iff]
  have e1 := digB_eq_nil 4294967296 V (by omega)
  rw [← hL, ← List.length_eq_zero_iff] at e1
  omega⟩
 have HA := As.mk hadd
 clear hadd hV hL
 cases neg with
 | true =>
   go_enter Tryz.func62, Tryz.ntmps62
   go_wp2_with (first
    | ((with_reducible refine g_dst 4 ?_); go_must (refine ev_alloc 4 rfl infoNum (cs := [.bool false, .slice none 0 0]) rfl ?_); intro g w1 hb1 B1 hg1)
    | ((with_reducible refine g_dst 7 ?_); go_must (refine ev_lit (v := fun g => .slice (some ⟨g, 0, none⟩) 1 1) 7 rfl (cs := [valS ⟨A, c, l⟩]) (t := 31) (by go_simp; rfl) ?_); intro g2 w2 hb2 B2 hg2; have hgl := B1.lt; replace B1 := B1.below hb2; have hgl2 := Nat.lt_of_lt_of_le hgl hb2.size; replace hb2 := bthen hb1 hb2)
    | (go_at_call 75; (with_reducible refine (HA.out _ _ (h.below hb2) (B2.rdm (l := [⟨A, c, l⟩]) encS_one)).mono ?_); rintro e w3 ⟨v3, rfl, ho3, hb3⟩; replace B1 := B1.below hb3; replace hb3 := bthen hb2 hb3; obtain ⟨A3, c3, rfl, h31, h32⟩ := ho3.form)
    | ((with_reducible refine g_store 4 ?_); go_must (refine ev_store rfl rfl B1 (news := [.bool (decide (0 < L.length)), .slice A3 L.length c3]) (by rfl) infoNum (by simp) (by simp [Value.oneCell']) ?_); intro w4 ho4 B4; simp only [zA, zB, zC, zD, zE, zF, zG, zH] at B4))
   refine bodyPost_ret (results_cell_row rfl _ _ g 33 #[.bool (decide (0 < L.length)), .slice A3 L.length c3] (0, 0) _ rfl B4.h Tryz.underlying33 rfl (by kernel_rfl)) rfl ?_
   exact ⟨_, rfl, ⟨_, by rw [hp.out, Bool.true_and], ow_only ho3 ho4 hgl2 hb2.size⟩, hb3.trans (ho4.below hg1)⟩
 | false =>
   go_enter Tryz.func62, Tryz.ntmps62
   go_wp2_with (first
    | ((with_reducible refine g_dst 4 ?_); go_must (refine ev_alloc 4 rfl infoNum (cs := [.bool false, .slice none 0 0]) rfl ?_); intro g w1 hb1 B1 hg1)
    | ((with_reducible refine g_dst 7 ?_); go_must (refine ev_lit (v := fun g => .slice (some ⟨g, 0, none⟩) 1 1) 7 rfl (cs := [valS ⟨A, c, l⟩]) (t := 31) (by go_simp; rfl) ?_); intro g2 w2 hb2 B2 hg2; have hgl := B1.lt; replace B1 := B1.below hb2; have hgl2 := Nat.lt_of_lt_of_le hgl hb2.size; replace hb2 := bthen hb1 hb2)
    | (go_at_call 75; (with_reducible refine (HA.out _ _ (h.below hb2) (B2.rdm (l := [⟨A, c, l⟩]) encS_one)).mono ?_); rintro e w3 ⟨v3, rfl, ho3, hb3⟩; replace B1 := B1.below hb3; replace hb3 := bthen hb2 hb3; obtain ⟨A3, c3, rfl, h31, h32⟩ := ho3.form)
    | ((with_reducible refine g_store 4 ?_); go_must (refine ev_store rfl rfl B1 (news := [.bool (false), .slice A3 L.length c3]) (by rfl) infoNum (by simp) (by simp [Value.oneCell']) ?_); intro w4 ho4 B4; simp only [zA, zB, zC, zD, zE, zF, zG, zH] at B4))
   refine bodyPost_ret (results_cell_row rfl _ _ g 33 #[.bool (false), .slice A3 L.length c3] (0, 0) _ rfl B4.h Tryz.underlying33 rfl (by kernel_rfl)) rfl ?_
   exact ⟨_, rfl, ⟨_, rfl, ow_only ho3 ho4 hgl2 hb2.size⟩, hb3.trans (ho4.below hg1)⟩
theorem lim_nil (w : World) : Lim w none 0 [] := ⟨Rd.nil _ _ _ _, fun x hx => (nomatch hx), Nat.le_refl _, fun _ => rfl, by simp⟩
def Told (base : Nat) (w : World) (v : Value) (z : Int) : Prop := ∃ m, v = .agg #[.bool (decide (z < 0)), m] ∧ Ow encU 1 77 base w m (digB 4294967296 z.natAbs)
theorem Told.below {base : Nat} {w w1 : World} {v : Value} {z : Int} (h : Told base w v z) (hb : Below w.heap.size w w1) : Told base w1 v z := by
 obtain ⟨m, rfl, ho⟩ := h
 exact ⟨m, rfl, ho.below hb⟩
def Sm (k : Nat) (z : Int) : Prop := z.natAbs < 4294967296 ^ k
theorem Sm.len {k : Nat} {z : Int} (h : Sm k z) : (digB 4294967296 z.natAbs).length ≤ k := digB_len_lt _ (by omega) k _ h
theorem Sm.mono {k n : Nat} {z : Int} (h : Sm k z) (hk : k ≤ n) : Sm n z := Nat.lt_of_lt_of_le h (Nat.pow_le_pow_right (by omega) hk)
theorem Sm.add {k : Nat} {y z : Int} (h : Sm k y) (h2 : Sm k z) : Sm (k + 1) (y + z) := by
 unfold Sm at *
 have := Int.natAbs_add_le y z
 rw [Nat.pow_succ]; omega
theorem Sm.neg {k : Nat} {z : Int} (h : Sm k z) : Sm k (-z) := by unfold Sm at *; rwa [Int.natAbs_neg]
theorem Sm.of (neg : Bool) (l : List Nat) (h : ∀ x ∈ l, x < 4294967296) : Sm l.length (sval neg (valB 4294967296 l)) := by
 unfold Sm; rw [sval_abs]; exact valB_lt _ (by omega) l h
theorem Told.open {base : Nat} {w : World} {v : Value} {z : Int} (h : Told base w v z) (hs : (digB 4294967296 z.natAbs).length ≤ 274877906944) :
 ∃ (A : Option Addr) (c : Nat) (l : List Nat), v = .agg #[.bool (decide (z < 0)), .slice A l.length c] ∧ Lim w A c l ∧ sval (decide (z < 0)) (valB 4294967296 l) = z ∧ l = digB 4294967296 z.natAbs ∧ Ow encU 1 77 base w (.slice A l.length c) l := by
 obtain ⟨m, rfl, ho⟩ := h
 obtain ⟨A, c, rfl, h1, h2⟩ := ho.form
 exact ⟨A, c, _, rfl, Ow.lim ho h1 hs, by rw [digB_val _ (by omega)]; exact sval_of z, rfl, ho⟩
theorem sk2 {w : World} {g k : Nat} {a b a2 b2 : Value} {t t2 : TypeId} (B : Blk w g [a, b] t) (B2 : Blk w k [a2, b2] t2) (hne : g ≠ k) (v u : Value) : ((w.setCell ⟨k, 0, none⟩ v).setCell ⟨k, 1, none⟩ u).cell? ⟨g, 0, none⟩ = some a ∧ ((w.setCell ⟨k, 0, none⟩ v).setCell ⟨k, 1, none⟩ u).cell? ⟨g, 1, none⟩ = some b :=
 ⟨(B.only (set2_gen B2 v u).1 hne).cells 0, (B.only (set2_gen B2 v u).1 hne).cells 1⟩
set_option maxHeartbeats 1000000 in
theorem told_any (l : List Nat) (neg : Bool) (A : Option Addr) (c : Nat) (w : World) (h : Lim w A c l) :
 Calls Tryz.prog 60 #[.agg #[.slice A l.length c, .bool neg]] w (Gives w fun v w' => Told w.heap.size w' v (sval neg (valB 4294967296 l))) := by
 have hz := fun w1 (hb : Below w.heap.size w w1) => szero_any l A c w1 (h.below hb)
 have HA := As.mk (fun w1 (hb : Below w.heap.size w w1) => natAdd_any l [] l.length 0 0 rfl rfl [] rfl A none none c 0 0 w1 (h.below hb) (lim_nil w1) (Rd.nil _ _ _ _) (fun s hs => (nomatch hs)) (Nat.le_refl _) (by omega))
 obtain ⟨V, hV⟩ : ∃ V, V = valB 4294967296 l := ⟨_, rfl⟩
 simp only [valB_nil, List.map_nil, sumV, Nat.add_zero, ← hV] at HA hz ⊢
 by_cases h0 : V = 0
 · simp only [h0, decide_true] at hz
   have HZ := As.mk hz
   have H0 := As.mk h0
   clear hz HA hV h0
   go_enter Tryz.func60, Tryz.ntmps60
   go_wp2_with (first
    | ((with_reducible refine g_dst 1 ?_); go_must (refine ev_box 1 rfl (cs := [.slice A l.length c, .bool neg]) (by rfl) ?_); intro g w1 hb1 B1 hg1)
    | ((with_reducible refine g_dst 2 ?_); go_must (refine ev_alloc 2 rfl infoNum (cs := [.bool false, .slice none 0 0]) rfl ?_); intro g2 w2 hb2 B2 hg2; replace B1 := B1.below hb2; have C1 := B1.cells; replace hg2 := Nat.le_trans hb1.size hg2; replace hb2 := bthen hb1 hb2)
    | (go_at_call 70; (with_reducible refine (HZ.out _ hb2).mono ?_); rintro e w3 ⟨v3, rfl, rfl, hb3⟩; replace B2 := B2.below hb3; replace hb3 := bthen hb2 hb3)
    | ((with_reducible refine g_store 2 ?_); go_must (refine ev_store rfl rfl B2 (news := [.bool false, .slice none 0 0]) (by rfl) infoNum (by simp) (by simp [Value.oneCell']) ?_); intro w4 ho4 B4; simp only [zA, zB, zC, zD, zE, zF, zG, zH] at B4))
   refine bodyPost_ret (results_cell_row rfl _ _ g2 33 #[.bool false, .slice none 0 0] (0, 0) _ rfl B4.h Tryz.underlying33 rfl (by kernel_rfl)) rfl ?_
   refine ⟨_, rfl, ⟨.slice none 0 0, ?_, ?_⟩, hb3.trans (ho4.below hg2)⟩
   · rw [H0.out]; cases neg <;> rfl
   · rw [H0.out, show (sval neg 0).natAbs = 0 from sval_abs neg 0, digB_zero]; exact Ow.nil _ _ _ _ _
 · simp only [decide_eq_false h0] at hz
   have HZ := As.mk hz
   have hs : As (decide (sval neg V < 0) = neg ∧ (sval neg V).natAbs = V) := ⟨by rw [sval_lt]; simp; intro _; omega, sval_abs neg V⟩
   obtain ⟨L, hL⟩ : ∃ L, L = digB 4294967296 V := ⟨_, rfl⟩
   rw [← hL] at HA
   have HL := As.mk hL
   clear hz hV h0 hL
   go_enter Tryz.func60, Tryz.ntmps60
   go_wp2_with (first
    | ((with_reducible refine g_dst 1 ?_); go_must (refine ev_box 1 rfl (cs := [.slice A l.length c, .bool neg]) (by rfl) ?_); intro g w1 hb1 B1 hg1)
    | ((with_reducible refine g_dst 2 ?_); go_must (refine ev_alloc 2 rfl infoNum (cs := [.bool false, .slice none 0 0]) rfl ?_); intro g2 w2 hb2 B2 hg2; have hne : g ≠ g2 := Nat.ne_of_lt (Nat.lt_of_lt_of_le B1.lt hg2); replace B1 := B1.below hb2; have C1 := B1.cells; replace hg2 := Nat.le_trans hb1.size hg2; replace hb2 := bthen hb1 hb2)
    | (go_at_call 70; (with_reducible refine (HZ.out _ hb2).mono ?_); rintro e w3 ⟨v3, rfl, rfl, hb3⟩; replace B2 := B2.below hb3; replace B1 := B1.below hb3; clear C1; replace hb3 := bthen hb2 hb3))
   have hS : ∀ W, Below w3.heap.size w3 W → W.cell? ⟨g, 0, none⟩ = some (.slice A l.length c) ∧ W.cell? ⟨g, 1, none⟩ = some (.bool neg) := fun W hb => ⟨(B1.below hb).cells 0, (B1.below hb).cells 1⟩
   have hd := (Below.refl w3.heap.size w3).drew
   have hS0 := hS _ hd
   have hgl := B2.lt
   refine wp_gen (fun Q7 hQ7 => ?_)
   go_region_held3 (fun W => W.cell? ⟨g, 0, none⟩ = some (.slice A l.length c) ∧ W.cell? ⟨g, 1, none⟩ = some (.bool neg)) (first | assumption | exact hS _ hb4 | exact hSk _ _) (first
    | (go_at_call 71; (with_reducible refine (HA.out _ (bthen hb3 hd)).mono ?_); rintro e w4 ⟨v4, rfl, ho4, hb4⟩; replace hb4 := bthen hd hb4; replace B2 := B2.below hb4; have C2 := B2.cells; have F2 := B2.free; have hSk := sk2 (B1.below hb4) B2 hne; obtain ⟨A4, c4, rfl, h41, h42⟩ := ho4.form))
   obtain ⟨ho5, B5⟩ := set2_gen B2 (.bool neg) (.slice A4 L.length c4)
   generalize (w4.setCell ⟨g2, 0, none⟩ (.bool neg)).setCell ⟨g2, 1, none⟩ (.slice A4 L.length c4) = w5 at ho5 B5 ⊢
   obtain ⟨rfl⟩ := hQ7
   go_wp2
   refine bodyPost_ret (results_cell_row rfl _ _ g2 33 #[.bool neg, .slice A4 L.length c4] (0, 0) _ rfl B5.h Tryz.underlying33 rfl (by kernel_rfl)) rfl ?_
   refine ⟨_, rfl, ⟨.slice A4 L.length c4, ?_, ?_⟩, (bthen hb3 hb4).trans (ho5.below hg2)⟩
   · rw [hs.out.1]
   · rw [hs.out.2, ← HL.out]
     exact ow_only ho4 ho5 hgl (hb3.size)
theorem told_sl {base : Nat} {w : World} {v : Value} {z : Int} (h : Told base w v z) : ∃ A c L, v = .agg #[.bool (decide (z < 0)), .slice A L.length c] ∧ Ow encU 1 77 base w (.slice A L.length c) L ∧ As (L = digB 4294967296 z.natAbs) ∧ L.length ≤ c := by
 obtain ⟨m, rfl, ho⟩ := h
 obtain ⟨A, c, rfl, h1, _⟩ := ho.form
 exact ⟨A, c, _, rfl, ho, ⟨rfl⟩, h1⟩
structure LN where
 neg : Bool
 A : Option Addr
 c : Nat
 mag : List Nat
def encN (x : LN) : List Value := [.bool x.neg, .slice x.A x.mag.length x.c]
def LimN (w : World) (x : LN) : Prop := Lim w x.A x.c x.mag
theorem LimN.below {w w1 : World} {x : LN} (h : LimN w x) (hb : Below w.heap.size w w1) : LimN w1 x := Lim.below h hb
theorem Rd.n {w : World} {b off : Nat} {l : List LN} (f : Rd encN 2 w (some ⟨b, off, none⟩) l) (i : Nat) (hi : i < l.length) : w.cell? ⟨b, off + i * 2, none⟩ = some (.bool l[i].neg) ∧ w.cell? ⟨b, off + i * 2 + 1, none⟩ = some (.slice l[i].A l[i].mag.length l[i].c) :=
 ⟨by simpa using f.cell i hi 0 _ rfl, by simpa using f.cell i hi 1 _ rfl⟩
theorem results_ct {P : Program} {fn : Func} {p u : Tmp} {ty : TypeId} (h : fn.results = #[.cell p ty, .tmp u]) (tmps : Array Value) (w : World) (g : Nat) (t : TypeId) (cs : Array Value) (fr : Nat × Nat) (d : TypeDesc)
 (hp : tmps.getD p undef = .pointer (some ⟨g, 0, none⟩)) (hg : w.heap[g]? = some (.cells cs t fr))
 (hu : P.underlying ty = some d) (hd : (match d with | .struct _ | .array _ _ => true | _ => false) = true) (hi : (P.info? ty).map (·.size) = some cs.size) :
 (results fn tmps).run P w = .ok (.tuple #[.agg cs, tmps.getD u undef]) w := by
 have hp' : tmps[p]?.getD undef = .pointer (some ⟨g, 0, none⟩) := by simpa using hp
 simp [results, h, hp', asAddr, run_loadVar_row w g t ty cs fr d hg hu hd hi]
def allD (u : ByteArray) : Bool := u.data.toList.all isD
def valD (u : ByteArray) : Nat := if allD u then numV 0 u.data.toList else 0
def okD (u : ByteArray) : Bool := allD u && decide (0 < u.size)
theorem allD_iff (u : ByteArray) : allD u = true ↔ ∀ c ∈ u.data.toList, isD c = true := by rw [allD, List.all_eq_true]
theorem valD_lt (u : ByteArray) : valD u < 4294967296 ^ u.size := by
 unfold valD
 by_cases h : allD u = true
 · rw [if_pos h]
   have h1 := numV_lt0 _ ((allD_iff u).1 h)
   have hsl : u.data.toList.length = u.size := by rw [Array.length_toList]; rfl
   rw [hsl] at h1
   exact Nat.lt_of_lt_of_le h1 (Nat.pow_le_pow_left (by omega) _)
 · rw [if_neg h]; exact Nat.pow_pos (by omega)
theorem parse_uni (u : ByteArray) (w : World) (hs : u.size ≤ 1073741824) :
 Calls Tryz.prog 59 #[.string u] w (Gives w fun v w' => ∃ q, v = .tuple #[q, .bool (okD u)] ∧ Ow encU 1 77 w.heap.size w' q (digB 4294967296 (valD u))) := by
 unfold okD valD
 by_cases h : allD u = true
 · simp only [h, Bool.true_and, if_true]
   exact parse_yes u w hs ((allD_iff u).1 h)
 · have h2 : allD u = false := by simpa using h
   simp only [h2, Bool.false_and, if_false, Bool.false_eq_true, digB_zero]
   refine (parse_no u w hs (fun hh => h ((allD_iff u).2 hh))).mono ?_
   rintro e w' ⟨v, rfl, rfl, hb⟩
   exact ⟨_, rfl, ⟨_, rfl, Ow.nil _ _ _ _ _⟩, hb⟩
theorem rparse_uni (u : ByteArray) (w : World) (hs : u.size ≤ 1073741824) :
 Calls Tryz.prog 61 #[.string u] w (Gives w fun v w' => ∃ q, v = .tuple #[q, .bool (okD u)] ∧ Ow encU 1 77 w.heap.size w' q (digB 4294967296 (valD u))) := by
 unfold okD valD
 by_cases h : allD u = true
 · simp only [h, Bool.true_and, if_true]
   exact rParse_yes u w hs ((allD_iff u).1 h)
 · have h2 : allD u = false := by simpa using h
   simp only [h2, Bool.false_and, if_false, Bool.false_eq_true, digB_zero]
   refine (rParse_no u w hs (fun hh => h ((allD_iff u).2 hh))).mono ?_
   rintro e w' ⟨v, rfl, rfl, hb⟩
   exact ⟨_, rfl, ⟨_, rfl, Ow.nil _ _ _ _ _⟩, hb⟩
inductive Shape (s : ByteArray) : ByteArray → Bool → Prop where
 | empty (h : s.size = 0) : Shape s s false
 | plus (h : 0 < s.size) (h0 : (s[0]'h).toNat = 43) : Shape s (s.extract 1 s.size) false
 | minus (h : 0 < s.size) (h0 : (s[0]'h).toNat = 45) : Shape s (s.extract 1 s.size) true
 | other (h : 0 < s.size) (h0 : (s[0]'h).toNat ≠ 43) (h1 : (s[0]'h).toNat ≠ 45) : Shape s s false
theorem shape_ex (s : ByteArray) : ∃ u neg, Shape s u neg := by
 rcases Nat.eq_zero_or_pos s.size with h | h
 · exact ⟨_, _, .empty h⟩
 · by_cases h0 : (s[0]'h).toNat = 43
   · exact ⟨_, _, .plus h h0⟩
   · by_cases h1 : (s[0]'h).toNat = 45
     · exact ⟨_, _, .minus h h1⟩
     · exact ⟨_, _, .other h h0 h1⟩
theorem Shape.le {s u : ByteArray} {neg : Bool} (h : Shape s u neg) : u.size ≤ s.size := by
 cases h with
 | empty _ => exact Nat.le_refl _
 | plus _ _ => rw [ByteArray.size_extract]; omega
 | minus _ _ => rw [ByteArray.size_extract]; omega
 | other _ _ _ => exact Nat.le_refl _
def pz (u : ByteArray) (neg : Bool) : Int := if okD u then sval neg (valD u) else 0
theorem of_told (l : List Nat) (neg : Bool) (A : Option Addr) (c : Nat) (w : World) (h : Lim w A c l) :
 Calls Tryz.prog 62 #[.bool neg, .slice A l.length c] w (Gives w fun v w' => Told w.heap.size w' v (sval neg (valB 4294967296 l))) := by
 refine (of_any l neg A c w h).mono ?_
 rintro e w' ⟨v, rfl, ⟨m, rfl, ho⟩, hb⟩
 refine ⟨_, rfl, ⟨m, ?_, ?_⟩, hb⟩
 · rw [sval_lt]
 · rw [sval_abs]; exact ho
set_option maxRecDepth 8000 in
set_option maxHeartbeats 2000000 in
theorem numParse_any (s u : ByteArray) (neg : Bool) (w : World) (hs : s.size ≤ 1073741824) (h : Shape s u neg) :
 Calls Tryz.prog 45 #[.string s] w (Gives w fun v w' => ∃ q, v = .tuple #[q, .bool (okD u)] ∧ Told w.heap.size w' q (pz u neg)) := by
 have HP := As.mk (fun W => parse_uni u W (Nat.le_trans h.le hs))
 have hvl := digB_len_lt 4294967296 (by omega) _ _ (valD_lt u)
 have hus := h.le
 unfold pz
 obtain ⟨V, hV⟩ : ∃ V, V = valD u := ⟨_, rfl⟩
 obtain ⟨ok, hok⟩ : ∃ ok, ok = okD u := ⟨_, rfl⟩
 obtain ⟨D, hD⟩ : ∃ D, D = digB 4294967296 V := ⟨_, rfl⟩
 rw [← hV, ← hD] at hvl
 rw [← hV, ← hok, ← hD] at HP
 rw [← hok, ← hV]
 have HDl : As (∀ x ∈ D, x < 4294967296) := ⟨by rw [hD]; exact digB_lt _ (by omega) V⟩
 have HDn : As (D.length ≤ 274877906944) := ⟨by omega⟩
 obtain ⟨z, hz⟩ : ∃ z, z = sval neg V := ⟨_, rfl⟩
 have HV : As (sval neg (valB 4294967296 D) = z) := ⟨by rw [hD, digB_val _ (by omega), hz]⟩
 rw [← hz]
 have hn := ne_empty s
 clear hvl hus hD hz hV hok
 cases ok with
 | true =>
   simp only [if_true]
   cases h with
   | empty h0 =>
     have e1 : decide (0 < s.size) = false := decide_eq_false (by omega)
     have e2 : ¬ (0 : Int) < (s.size : Int) := by omega
     rw [e1] at hn
     go_enter Tryz.func45, Tryz.ntmps45
     go_wp2_with (first
      | ((with_reducible refine g_dst 2 ?_); go_must (refine ev_alloc 2 rfl infoNum (cs := [.bool false, .slice none 0 0]) rfl ?_); intro g2 w2 hb2 B2 hg2)
      | (go_at_call 59; (with_reducible refine (HP.out _).mono ?_); rintro e w3 ⟨v3, rfl, ⟨q, rfl, ho3⟩, hb3⟩; obtain ⟨A3, c3, rfl, h31, h32⟩ := ho3.form; have hl3 : Lim w3 A3 c3 D := ⟨ho3.rd lenU, HDl.out, h31, ho3.none, HDn.out⟩; have hgl := Nat.lt_of_lt_of_le B2.lt hb3.size; replace B2 := B2.below hb3; replace hb3 := bthen hb2 hb3; have hgw := hb3.size)
      | (go_at_call 60; (with_reducible refine (told_any D _ A3 c3 _ hl3).mono ?_); rintro e w4 ⟨v4, rfl, ht4, hb4⟩; rw [HV.out] at ht4; obtain ⟨A4, c4, E4, rfl, ho4, HE4, h41⟩ := told_sl ht4; clear ht4; replace B2 := B2.below hb4; have hb34 := bthen hb3 hb4)
      | ((with_reducible refine g_store 2 ?_); go_must (refine ev_store rfl rfl B2 (news := [.bool (decide (z < 0)), .slice A4 E4.length c4]) (by rfl) infoNum (by simp) (by simp [Value.oneCell']) ?_); intro w5 ho5 B5; simp only [zA, zB, zC, zD, zE, zF, zG, zH] at B5))
     refine bodyPost_ret (results_ct rfl _ _ g2 33 #[.bool (decide (z < 0)), .slice A4 E4.length c4] (0, 0) _ rfl B5.h Tryz.underlying33 rfl (by kernel_rfl)) rfl ?_
     exact ⟨_, rfl, ⟨_, rfl, ⟨.slice A4 E4.length c4, rfl, by rw [← HE4.out]; exact ow_only ho4 ho5 hgl hgw⟩⟩, hb34.trans (ho5.below hg2)⟩
   | plus h0 h1 =>
     have e1 : decide (0 < s.size) = true := decide_eq_true h0
     have e2 : (0 : Int) < (s.size : Int) := by omega
     have e3 : (1 : Int) ≤ (s.size : Int) := by omega
     rw [e1] at hn
     have hcx : ((s[0]'h0).toNat : Int) = 43 := by rw [h1]; rfl
     clear h1
     go_enter Tryz.func45, Tryz.ntmps45
     go_wp2_with (first
      | ((with_reducible refine g_dst 2 ?_); go_must (refine ev_alloc 2 rfl infoNum (cs := [.bool false, .slice none 0 0]) rfl ?_); intro g2 w2 hb2 B2 hg2)
      | (go_at_call 59; (with_reducible refine (HP.out _).mono ?_); rintro e w3 ⟨v3, rfl, ⟨q, rfl, ho3⟩, hb3⟩; obtain ⟨A3, c3, rfl, h31, h32⟩ := ho3.form; have hl3 : Lim w3 A3 c3 D := ⟨ho3.rd lenU, HDl.out, h31, ho3.none, HDn.out⟩; have hgl := Nat.lt_of_lt_of_le B2.lt hb3.size; replace B2 := B2.below hb3; replace hb3 := bthen hb2 hb3; have hgw := hb3.size)
      | (go_at_call 60; (with_reducible refine (told_any D _ A3 c3 _ hl3).mono ?_); rintro e w4 ⟨v4, rfl, ht4, hb4⟩; rw [HV.out] at ht4; obtain ⟨A4, c4, E4, rfl, ho4, HE4, h41⟩ := told_sl ht4; clear ht4; replace B2 := B2.below hb4; have hb34 := bthen hb3 hb4)
      | ((with_reducible refine g_store 2 ?_); go_must (refine ev_store rfl rfl B2 (news := [.bool (decide (z < 0)), .slice A4 E4.length c4]) (by rfl) infoNum (by simp) (by simp [Value.oneCell']) ?_); intro w5 ho5 B5; simp only [zA, zB, zC, zD, zE, zF, zG, zH] at B5))
     refine bodyPost_ret (results_ct rfl _ _ g2 33 #[.bool (decide (z < 0)), .slice A4 E4.length c4] (0, 0) _ rfl B5.h Tryz.underlying33 rfl (by kernel_rfl)) rfl ?_
     exact ⟨_, rfl, ⟨_, rfl, ⟨.slice A4 E4.length c4, rfl, by rw [← HE4.out]; exact ow_only ho4 ho5 hgl hgw⟩⟩, hb34.trans (ho5.below hg2)⟩
   | minus h0 h1 =>
     have e1 : decide (0 < s.size) = true := decide_eq_true h0
     have e2 : (0 : Int) < (s.size : Int) := by omega
     have e3 : (1 : Int) ≤ (s.size : Int) := by omega
     rw [e1] at hn
     have hcx : ((s[0]'h0).toNat : Int) = 45 := by rw [h1]; rfl
     clear h1
     go_enter Tryz.func45, Tryz.ntmps45
     go_wp2_with (first
      | ((with_reducible refine g_dst 2 ?_); go_must (refine ev_alloc 2 rfl infoNum (cs := [.bool false, .slice none 0 0]) rfl ?_); intro g2 w2 hb2 B2 hg2)
      | (go_at_call 59; (with_reducible refine (HP.out _).mono ?_); rintro e w3 ⟨v3, rfl, ⟨q, rfl, ho3⟩, hb3⟩; obtain ⟨A3, c3, rfl, h31, h32⟩ := ho3.form; have hl3 : Lim w3 A3 c3 D := ⟨ho3.rd lenU, HDl.out, h31, ho3.none, HDn.out⟩; have hgl := Nat.lt_of_lt_of_le B2.lt hb3.size; replace B2 := B2.below hb3; replace hb3 := bthen hb2 hb3; have hgw := hb3.size)
      | (go_at_call 60; (with_reducible refine (told_any D _ A3 c3 _ hl3).mono ?_); rintro e w4 ⟨v4, rfl, ht4, hb4⟩; rw [HV.out] at ht4; obtain ⟨A4, c4, E4, rfl, ho4, HE4, h41⟩ := told_sl ht4; clear ht4; replace B2 := B2.below hb4; have hb34 := bthen hb3 hb4)
      | ((with_reducible refine g_store 2 ?_); go_must (refine ev_store rfl rfl B2 (news := [.bool (decide (z < 0)), .slice A4 E4.length c4]) (by rfl) infoNum (by simp) (by simp [Value.oneCell']) ?_); intro w5 ho5 B5; simp only [zA, zB, zC, zD, zE, zF, zG, zH] at B5))
     refine bodyPost_ret (results_ct rfl _ _ g2 33 #[.bool (decide (z < 0)), .slice A4 E4.length c4] (0, 0) _ rfl B5.h Tryz.underlying33 rfl (by kernel_rfl)) rfl ?_
     exact ⟨_, rfl, ⟨_, rfl, ⟨.slice A4 E4.length c4, rfl, by rw [← HE4.out]; exact ow_only ho4 ho5 hgl hgw⟩⟩, hb34.trans (ho5.below hg2)⟩
   | other h0 h1 h2 =>
     have e1 : decide (0 < s.size) = true := decide_eq_true h0
     have e2 : (0 : Int) < (s.size : Int) := by omega
     rw [e1] at hn
     obtain ⟨x, hx⟩ : ∃ x, x = (s[0]'h0).toNat := ⟨_, rfl⟩
     rw [← hx] at h1 h2
     have hcx : ((s[0]'h0).toNat : Int) = (x : Int) := by rw [hx]
     have e4 : ((x : Int) == 43) = false := by simp; omega
     have e5 : ((x : Int) == 45) = false := by simp; omega
     clear hx h1 h2
     go_enter Tryz.func45, Tryz.ntmps45
     go_wp2_with (first
      | ((with_reducible refine g_dst 2 ?_); go_must (refine ev_alloc 2 rfl infoNum (cs := [.bool false, .slice none 0 0]) rfl ?_); intro g2 w2 hb2 B2 hg2)
      | (go_at_call 59; (with_reducible refine (HP.out _).mono ?_); rintro e w3 ⟨v3, rfl, ⟨q, rfl, ho3⟩, hb3⟩; obtain ⟨A3, c3, rfl, h31, h32⟩ := ho3.form; have hl3 : Lim w3 A3 c3 D := ⟨ho3.rd lenU, HDl.out, h31, ho3.none, HDn.out⟩; have hgl := Nat.lt_of_lt_of_le B2.lt hb3.size; replace B2 := B2.below hb3; replace hb3 := bthen hb2 hb3; have hgw := hb3.size)
      | (go_at_call 60; (with_reducible refine (told_any D _ A3 c3 _ hl3).mono ?_); rintro e w4 ⟨v4, rfl, ht4, hb4⟩; rw [HV.out] at ht4; obtain ⟨A4, c4, E4, rfl, ho4, HE4, h41⟩ := told_sl ht4; clear ht4; replace B2 := B2.below hb4; have hb34 := bthen hb3 hb4)
      | ((with_reducible refine g_store 2 ?_); go_must (refine ev_store rfl rfl B2 (news := [.bool (decide (z < 0)), .slice A4 E4.length c4]) (by rfl) infoNum (by simp) (by simp [Value.oneCell']) ?_); intro w5 ho5 B5; simp only [zA, zB, zC, zD, zE, zF, zG, zH] at B5))
     refine bodyPost_ret (results_ct rfl _ _ g2 33 #[.bool (decide (z < 0)), .slice A4 E4.length c4] (0, 0) _ rfl B5.h Tryz.underlying33 rfl (by kernel_rfl)) rfl ?_
     exact ⟨_, rfl, ⟨_, rfl, ⟨.slice A4 E4.length c4, rfl, by rw [← HE4.out]; exact ow_only ho4 ho5 hgl hgw⟩⟩, hb34.trans (ho5.below hg2)⟩
 | false =>
   simp only [Bool.false_eq_true, if_false]
   clear HV
   cases h with
   | empty h0 =>
     have e1 : decide (0 < s.size) = false := decide_eq_false (by omega)
     have e2 : ¬ (0 : Int) < (s.size : Int) := by omega
     rw [e1] at hn
     go_enter Tryz.func45, Tryz.ntmps45
     go_wp2_with (first
      | ((with_reducible refine g_dst 2 ?_); go_must (refine ev_alloc 2 rfl infoNum (cs := [.bool false, .slice none 0 0]) rfl ?_); intro g2 w2 hb2 B2 hg2)
      | (go_at_call 59; (with_reducible refine (HP.out _).mono ?_); rintro e w3 ⟨v3, rfl, ⟨q, rfl, ho3⟩, hb3⟩; obtain ⟨A3, c3, rfl, h31, h32⟩ := ho3.form; have hl3 : Lim w3 A3 c3 D := ⟨ho3.rd lenU, HDl.out, h31, ho3.none, HDn.out⟩; have hgl := Nat.lt_of_lt_of_le B2.lt hb3.size; replace B2 := B2.below hb3; replace hb3 := bthen hb2 hb3; have hgw := hb3.size)
      | ((with_reducible refine g_store 2 ?_); go_must (refine ev_store rfl rfl B2 (news := [.bool false, .slice none 0 0]) (by first | rfl | (go_simp; try rfl)) infoNum (by simp) (by simp [Value.oneCell']) ?_); intro w5 ho5 B5; simp only [zA, zB, zC, zD, zE, zF, zG, zH] at B5))
     refine bodyPost_ret (results_ct rfl _ _ g2 33 #[.bool false, .slice none 0 0] (0, 0) _ rfl B5.h Tryz.underlying33 rfl (by kernel_rfl)) rfl ?_
     exact ⟨_, rfl, ⟨_, rfl, ⟨.slice none 0 0, rfl, by rw [show (0 : Int).natAbs = 0 from rfl, digB_zero]; exact Ow.nil _ _ _ _ _⟩⟩, hb3.trans (ho5.below hg2)⟩
   | plus h0 h1 =>
     have e1 : decide (0 < s.size) = true := decide_eq_true h0
     have e2 : (0 : Int) < (s.size : Int) := by omega
     have e3 : (1 : Int) ≤ (s.size : Int) := by omega
     rw [e1] at hn
     have hcx : ((s[0]'h0).toNat : Int) = 43 := by rw [h1]; rfl
     clear h1
     go_enter Tryz.func45, Tryz.ntmps45
     go_wp2_with (first
      | ((with_reducible refine g_dst 2 ?_); go_must (refine ev_alloc 2 rfl infoNum (cs := [.bool false, .slice none 0 0]) rfl ?_); intro g2 w2 hb2 B2 hg2)
      | (go_at_call 59; (with_reducible refine (HP.out _).mono ?_); rintro e w3 ⟨v3, rfl, ⟨q, rfl, ho3⟩, hb3⟩; obtain ⟨A3, c3, rfl, h31, h32⟩ := ho3.form; have hl3 : Lim w3 A3 c3 D := ⟨ho3.rd lenU, HDl.out, h31, ho3.none, HDn.out⟩; have hgl := Nat.lt_of_lt_of_le B2.lt hb3.size; replace B2 := B2.below hb3; replace hb3 := bthen hb2 hb3; have hgw := hb3.size)
      | ((with_reducible refine g_store 2 ?_); go_must (refine ev_store rfl rfl B2 (news := [.bool false, .slice none 0 0]) (by first | rfl | (go_simp; try rfl)) infoNum (by simp) (by simp [Value.oneCell']) ?_); intro w5 ho5 B5; simp only [zA, zB, zC, zD, zE, zF, zG, zH] at B5))
     refine bodyPost_ret (results_ct rfl _ _ g2 33 #[.bool false, .slice none 0 0] (0, 0) _ rfl B5.h Tryz.underlying33 rfl (by kernel_rfl)) rfl ?_
     exact ⟨_, rfl, ⟨_, rfl, ⟨.slice none 0 0, rfl, by rw [show (0 : Int).natAbs = 0 from rfl, digB_zero]; exact Ow.nil _ _ _ _ _⟩⟩, hb3.trans (ho5.below hg2)⟩
   | minus h0 h1 =>
     have e1 : decide (0 < s.size) = true := decide_eq_true h0
     have e2 : (0 : Int) < (s.size : Int) := by omega
     have e3 : (1 : Int) ≤ (s.size : Int) := by omega
     rw [e1] at hn
     have hcx : ((s[0]'h0).toNat : Int) = 45 := by rw [h1]; rfl
     clear h1
     go_enter Tryz.func45, Tryz.ntmps45
     go_wp2_with (first
      | ((with_reducible refine g_dst 2 ?_); go_must (refine ev_alloc 2 rfl infoNum (cs := [.bool false, .slice none 0 0]) rfl ?_); intro g2 w2 hb2 B2 hg2)
      | (go_at_call 59; (with_reducible refine (HP.out _).mono ?_); rintro e w3 ⟨v3, rfl, ⟨q, rfl, ho3⟩, hb3⟩; obtain ⟨A3, c3, rfl, h31, h32⟩ := ho3.form; have hl3 : Lim w3 A3 c3 D := ⟨ho3.rd lenU, HDl.out, h31, ho3.none, HDn.out⟩; have hgl := Nat.lt_of_lt_of_le B2.lt hb3.size; replace B2 := B2.below hb3; replace hb3 := bthen hb2 hb3; have hgw := hb3.size)
      | ((with_reducible refine g_store 2 ?_); go_must (refine ev_store rfl rfl B2 (news := [.bool false, .slice none 0 0]) (by first | rfl | (go_simp; try rfl)) infoNum (by simp) (by simp [Value.oneCell']) ?_); intro w5 ho5 B5; simp only [zA, zB, zC, zD, zE, zF, zG, zH] at B5))
     refine bodyPost_ret (results_ct rfl _ _ g2 33 #[.bool false, .slice none 0 0] (0, 0) _ rfl B5.h Tryz.underlying33 rfl (by kernel_rfl)) rfl ?_
     exact ⟨_, rfl, ⟨_, rfl, ⟨.slice none 0 0, rfl, by rw [show (0 : Int).natAbs = 0 from rfl, digB_zero]; exact Ow.nil _ _ _ _ _⟩⟩, hb3.trans (ho5.below hg2)⟩
   | other h0 h1 h2 =>
     have e1 : decide (0 < s.size) = true := decide_eq_true h0
     have e2 : (0 : Int) < (s.size : Int) := by omega
     rw [e1] at hn
     obtain ⟨x, hx⟩ : ∃ x, x = (s[0]'h0).toNat := ⟨_, rfl⟩
     rw [← hx] at h1 h2
     have hcx : ((s[0]'h0).toNat : Int) = (x : Int) := by rw [hx]
     have e4 : ((x : Int) == 43) = false := by simp; omega
     have e5 : ((x : Int) == 45) = false := by simp; omega
     clear hx h1 h2
     go_enter Tryz.func45, Tryz.ntmps45
     go_wp2_with (first
      | ((with_reducible refine g_dst 2 ?_); go_must (refine ev_alloc 2 rfl infoNum (cs := [.bool false, .slice none 0 0]) rfl ?_); intro g2 w2 hb2 B2 hg2)
      | (go_at_call 59; (with_reducible refine (HP.out _).mono ?_); rintro e w3 ⟨v3, rfl, ⟨q, rfl, ho3⟩, hb3⟩; obtain ⟨A3, c3, rfl, h31, h32⟩ := ho3.form; have hl3 : Lim w3 A3 c3 D := ⟨ho3.rd lenU, HDl.out, h31, ho3.none, HDn.out⟩; have hgl := Nat.lt_of_lt_of_le B2.lt hb3.size; replace B2 := B2.below hb3; replace hb3 := bthen hb2 hb3; have hgw := hb3.size)
      | ((with_reducible refine g_store 2 ?_); go_must (refine ev_store rfl rfl B2 (news := [.bool false, .slice none 0 0]) (by first | rfl | (go_simp; try rfl)) infoNum (by simp) (by simp [Value.oneCell']) ?_); intro w5 ho5 B5; simp only [zA, zB, zC, zD, zE, zF, zG, zH] at B5))
     refine bodyPost_ret (results_ct rfl _ _ g2 33 #[.bool false, .slice none 0 0] (0, 0) _ rfl B5.h Tryz.underlying33 rfl (by kernel_rfl)) rfl ?_
     exact ⟨_, rfl, ⟨_, rfl, ⟨.slice none 0 0, rfl, by rw [show (0 : Int).natAbs = 0 from rfl, digB_zero]; exact Ow.nil _ _ _ _ _⟩⟩, hb3.trans (ho5.below hg2)⟩
set_option maxRecDepth 8000 in
set_option maxHeartbeats 2000000 in
theorem rNumParse_any (s u : ByteArray) (neg : Bool) (w : World) (hs : s.size ≤ 1073741824) (h : Shape s u neg) :
 Calls Tryz.prog 53 #[.string s] w (Gives w fun v w' => ∃ q, v = .tuple #[q, .bool (okD u)] ∧ Told w.heap.size w' q (pz u neg)) := by
 have HP := As.mk (fun W => rparse_uni u W (Nat.le_trans h.le hs))
 have hvl := digB_len_lt 4294967296 (by omega) _ _ (valD_lt u)
 have hus := h.le
 unfold pz
 obtain ⟨V, hV⟩ : ∃ V, V = valD u := ⟨_, rfl⟩
 obtain ⟨ok, hok⟩ : ∃ ok, ok = okD u := ⟨_, rfl⟩
 obtain ⟨D, hD⟩ : ∃ D, D = digB 4294967296 V := ⟨_, rfl⟩
 rw [← hV, ← hD] at hvl
 rw [← hV, ← hok, ← hD] at HP
 rw [← hok, ← hV]
 have HDl : As (∀ x ∈ D, x < 4294967296) := ⟨by rw [hD]; exact digB_lt _ (by omega) V⟩
 have HDn : As (D.length ≤ 274877906944) := ⟨by omega⟩
 obtain ⟨z, hz⟩ : ∃ z, z = sval neg V := ⟨_, rfl⟩
 have HV : As (sval neg (valB 4294967296 D) = z) := ⟨by rw [hD, digB_val _ (by omega), hz]⟩
 rw [← hz]
 have hn := ne_empty s
 clear hvl hus hD hz hV hok
 cases ok with
 | true =>
   simp only [if_true]
   cases h with
   | empty h0 =>
     have e1 : decide (0 < s.size) = false := decide_eq_false (by omega)
     have e2 : ¬ (0 : Int) < (s.size : Int) := by omega
     rw [e1] at hn
     go_enter Tryz.func53, Tryz.ntmps53
     go_wp2_with (first
      | ((with_reducible refine g_dst 2 ?_); go_must (refine ev_alloc 2 rfl infoNum (cs := [.bool false, .slice none 0 0]) rfl ?_); intro g2 w2 hb2 B2 hg2)
      | (go_at_call 61; (with_reducible refine (HP.out _).mono ?_); rintro e w3 ⟨v3, rfl, ⟨q, rfl, ho3⟩, hb3⟩; obtain ⟨A3, c3, rfl, h31, h32⟩ := ho3.form; have hl3 : Lim w3 A3 c3 D := ⟨ho3.rd lenU, HDl.out, h31, ho3.none, HDn.out⟩; have hgl := Nat.lt_of_lt_of_le B2.lt hb3.size; replace B2 := B2.below hb3; replace hb3 := bthen hb2 hb3; have hgw := hb3.size)
      | (go_at_call 62; (with_reducible refine (of_told D _ A3 c3 _ hl3).mono ?_); rintro e w4 ⟨v4, rfl, ht4, hb4⟩; rw [HV.out] at ht4; obtain ⟨A4, c4, E4, rfl, ho4, HE4, h41⟩ := told_sl ht4; clear ht4; replace B2 := B2.below hb4; have hb34 := bthen hb3 hb4)
      | ((with_reducible refine g_store 2 ?_); go_must (refine ev_store rfl rfl B2 (news := [.bool (decide (z < 0)), .slice A4 E4.length c4]) (by rfl) infoNum (by simp) (by simp [Value.oneCell']) ?_); intro w5 ho5 B5; simp only [zA, zB, zC, zD, zE, zF, zG, zH] at B5))
     refine bodyPost_ret (results_ct rfl _ _ g2 33 #[.bool (decide (z < 0)), .slice A4 E4.length c4] (0, 0) _ rfl B5.h Tryz.underlying33 rfl (by kernel_rfl)) rfl ?_
     exact ⟨_, rfl, ⟨_, rfl, ⟨.slice A4 E4.length c4, rfl, by rw [← HE4.out]; exact ow_only ho4 ho5 hgl hgw⟩⟩, hb34.trans (ho5.below hg2)⟩
   | plus h0 h1 =>
     have e1 : decide (0 < s.size) = true := decide_eq_true h0
     have e2 : (0 : Int) < (s.size : Int) := by omega
     have e3 : (1 : Int) ≤ (s.size : Int) := by omega
     rw [e1] at hn
     have hcx : ((s[0]'h0).toNat : Int) = 43 := by rw [h1]; rfl
     clear h1
     go_enter Tryz.func53, Tryz.ntmps53
     go_wp2_with (first
      | ((with_reducible refine g_dst 2 ?_); go_must (refine ev_alloc 2 rfl infoNum (cs := [.bool false, .slice none 0 0]) rfl ?_); intro g2 w2 hb2 B2 hg2)
      | (go_at_call 61; (with_reducible refine (HP.out _).mono ?_); rintro e w3 ⟨v3, rfl, ⟨q, rfl, ho3⟩, hb3⟩; obtain ⟨A3, c3, rfl, h31, h32⟩ := ho3.form; have hl3 : Lim w3 A3 c3 D := ⟨ho3.rd lenU, HDl.out, h31, ho3.none, HDn.out⟩; have hgl := Nat.lt_of_lt_of_le B2.lt hb3.size; replace B2 := B2.below hb3; replace hb3 := bthen hb2 hb3; have hgw := hb3.size)
      | (go_at_call 62; (with_reducible refine (of_told D _ A3 c3 _ hl3).mono ?_); rintro e w4 ⟨v4, rfl, ht4, hb4⟩; rw [HV.out] at ht4; obtain ⟨A4, c4, E4, rfl, ho4, HE4, h41⟩ := told_sl ht4; clear ht4; replace B2 := B2.below hb4; have hb34 := bthen hb3 hb4)
      | ((with_reducible refine g_store 2 ?_); go_must (refine ev_store rfl rfl B2 (news := [.bool (decide (z < 0)), .slice A4 E4.length c4]) (by rfl) infoNum (by simp) (by simp [Value.oneCell']) ?_); intro w5 ho5 B5; simp only [zA, zB, zC, zD, zE, zF, zG, zH] at B5))
     refine bodyPost_ret (results_ct rfl _ _ g2 33 #[.bool (decide (z < 0)), .slice A4 E4.length c4] (0, 0) _ rfl B5.h Tryz.underlying33 rfl (by kernel_rfl)) rfl ?_
     exact ⟨_, rfl, ⟨_, rfl, ⟨.slice A4 E4.length c4, rfl, by rw [← HE4.out]; exact ow_only ho4 ho5 hgl hgw⟩⟩, hb34.trans (ho5.below hg2)⟩
   | minus h0 h1 =>
     have e1 : decide (0 < s.size) = true := decide_eq_true h0
     have e2 : (0 : Int) < (s.size : Int) := by omega
     have e3 : (1 : Int) ≤ (s.size : Int) := by omega
     rw [e1] at hn
     have hcx : ((s[0]'h0).toNat : Int) = 45 := by rw [h1]; rfl
     clear h1
     go_enter Tryz.func53, Tryz.ntmps53
     go_wp2_with (first
      | ((with_reducible refine g_dst 2 ?_); go_must (refine ev_alloc 2 rfl infoNum (cs := [.bool false, .slice none 0 0]) rfl ?_); intro g2 w2 hb2 B2 hg2)
      | (go_at_call 61; (with_reducible refine (HP.out _).mono ?_); rintro e w3 ⟨v3, rfl, ⟨q, rfl, ho3⟩, hb3⟩; obtain ⟨A3, c3, rfl, h31, h32⟩ := ho3.form; have hl3 : Lim w3 A3 c3 D := ⟨ho3.rd lenU, HDl.out, h31, ho3.none, HDn.out⟩; have hgl := Nat.lt_of_lt_of_le B2.lt hb3.size; replace B2 := B2.below hb3; replace hb3 := bthen hb2 hb3; have hgw := hb3.size)
      | (go_at_call 62; (with_reducible refine (of_told D _ A3 c3 _ hl3).mono ?_); rintro e w4 ⟨v4, rfl, ht4, hb4⟩; rw [HV.out] at ht4; obtain ⟨A4, c4, E4, rfl, ho4, HE4, h41⟩ := told_sl ht4; clear ht4; replace B2 := B2.below hb4; have hb34 := bthen hb3 hb4)
      | ((with_reducible refine g_store 2 ?_); go_must (refine ev_store rfl rfl B2 (news := [.bool (decide (z < 0)), .slice A4 E4.length c4]) (by rfl) infoNum (by simp) (by simp [Value.oneCell']) ?_); intro w5 ho5 B5; simp only [zA, zB, zC, zD, zE, zF, zG, zH] at B5))
     refine bodyPost_ret (results_ct rfl _ _ g2 33 #[.bool (decide (z < 0)), .slice A4 E4.length c4] (0, 0) _ rfl B5.h Tryz.underlying33 rfl (by kernel_rfl)) rfl ?_
     exact ⟨_, rfl, ⟨_, rfl, ⟨.slice A4 E4.length c4, rfl, by rw [← HE4.out]; exact ow_only ho4 ho5 hgl hgw⟩⟩, hb34.trans (ho5.below hg2)⟩
   | other h0 h1 h2 =>
     have e1 : decide (0 < s.size) = true := decide_eq_true h0
     have e2 : (0 : Int) < (s.size : Int) := by omega
     rw [e1] at hn
     obtain ⟨x, hx⟩ : ∃ x, x = (s[0]'h0).toNat := ⟨_, rfl⟩
     rw [← hx] at h1 h2
     have hcx : ((s[0]'h0).toNat : Int) = (x : Int) := by rw [hx]
     have e4 : ((x : Int) == 43) = false := by simp; omega
     have e5 : ((x : Int) == 45) = false := by simp; omega
     clear hx h1 h2
     go_enter Tryz.func53, Tryz.ntmps53
     go_wp2_with (first
      | ((with_reducible refine g_dst 2 ?_); go_must (refine ev_alloc 2 rfl infoNum (cs := [.bool false, .slice none 0 0]) rfl ?_); intro g2 w2 hb2 B2 hg2)
      | (go_at_call 61; (with_reducible refine (HP.out _).mono ?_); rintro e w3 ⟨v3, rfl, ⟨q, rfl, ho3⟩, hb3⟩; obtain ⟨A3, c3, rfl, h31, h32⟩ := ho3.form; have hl3 : Lim w3 A3 c3 D := ⟨ho3.rd lenU, HDl.out, h31, ho3.none, HDn.out⟩; have hgl := Nat.lt_of_lt_of_le B2.lt hb3.size; replace B2 := B2.below hb3; replace hb3 := bthen hb2 hb3; have hgw := hb3.size)
      | (go_at_call 62; (with_reducible refine (of_told D _ A3 c3 _ hl3).mono ?_); rintro e w4 ⟨v4, rfl, ht4, hb4⟩; rw [HV.out] at ht4; obtain ⟨A4, c4, E4, rfl, ho4, HE4, h41⟩ := told_sl ht4; clear ht4; replace B2 := B2.below hb4; have hb34 := bthen hb3 hb4)
      | ((with_reducible refine g_store 2 ?_); go_must (refine ev_store rfl rfl B2 (news := [.bool (decide (z < 0)), .slice A4 E4.length c4]) (by rfl) infoNum (by simp) (by simp [Value.oneCell']) ?_); intro w5 ho5 B5; simp only [zA, zB, zC, zD, zE, zF, zG, zH] at B5))
     refine bodyPost_ret (results_ct rfl _ _ g2 33 #[.bool (decide (z < 0)), .slice A4 E4.length c4] (0, 0) _ rfl B5.h Tryz.underlying33 rfl (by kernel_rfl)) rfl ?_
     exact ⟨_, rfl, ⟨_, rfl, ⟨.slice A4 E4.length c4, rfl, by rw [← HE4.out]; exact ow_only ho4 ho5 hgl hgw⟩⟩, hb34.trans (ho5.below hg2)⟩
 | false =>
   simp only [Bool.false_eq_true, if_false]
   clear HV
   cases h with
   | empty h0 =>
     have e1 : decide (0 < s.size) = false := decide_eq_false (by omega)
     have e2 : ¬ (0 : Int) < (s.size : Int) := by omega
     rw [e1] at hn
     go_enter Tryz.func53, Tryz.ntmps53
     go_wp2_with (first
      | ((with_reducible refine g_dst 2 ?_); go_must (refine ev_alloc 2 rfl infoNum (cs := [.bool false, .slice none 0 0]) rfl ?_); intro g2 w2 hb2 B2 hg2)
      | (go_at_call 61; (with_reducible refine (HP.out _).mono ?_); rintro e w3 ⟨v3, rfl, ⟨q, rfl, ho3⟩, hb3⟩; obtain ⟨A3, c3, rfl, h31, h32⟩ := ho3.form; have hl3 : Lim w3 A3 c3 D := ⟨ho3.rd lenU, HDl.out, h31, ho3.none, HDn.out⟩; have hgl := Nat.lt_of_lt_of_le B2.lt hb3.size; replace B2 := B2.below hb3; replace hb3 := bthen hb2 hb3; have hgw := hb3.size)
      | ((with_reducible refine g_store 2 ?_); go_must (refine ev_store rfl rfl B2 (news := [.bool false, .slice none 0 0]) (by first | rfl | (go_simp; try rfl)) infoNum (by simp) (by simp [Value.oneCell']) ?_); intro w5 ho5 B5; simp only [zA, zB, zC, zD, zE, zF, zG, zH] at B5))
     refine bodyPost_ret (results_ct rfl _ _ g2 33 #[.bool false, .slice none 0 0] (0, 0) _ rfl B5.h Tryz.underlying33 rfl (by kernel_rfl)) rfl ?_
     exact ⟨_, rfl, ⟨_, rfl, ⟨.slice none 0 0, rfl, by rw [show (0 : Int).natAbs = 0 from rfl, digB_zero]; exact Ow.nil _ _ _ _ _⟩⟩, hb3.trans (ho5.below hg2)⟩
   | plus h0 h1 =>
     have e1 : decide (0 < s.size) = true := decide_eq_true h0
     have e2 : (0 : Int) < (s.size : Int) := by omega
     have e3 : (1 : Int) ≤ (s.size : Int) := by omega
     rw [e1] at hn
     have hcx : ((s[0]'h0).toNat : Int) = 43 := by rw [h1]; rfl
     clear h1
     go_enter Tryz.func53, Tryz.ntmps53
     go_wp2_with (first
      | ((with_reducible refine g_dst 2 ?_); go_must (refine ev_alloc 2 rfl infoNum (cs := [.bool false, .slice none 0 0]) rfl ?_); intro g2 w2 hb2 B2 hg2)
      | (go_at_call 61; (with_reducible refine (HP.out _).mono ?_); rintro e w3 ⟨v3, rfl, ⟨q, rfl, ho3⟩, hb3⟩; obtain ⟨A3, c3, rfl, h31, h32⟩ := ho3.form; have hl3 : Lim w3 A3 c3 D := ⟨ho3.rd lenU, HDl.out, h31, ho3.none, HDn.out⟩; have hgl := Nat.lt_of_lt_of_le B2.lt hb3.size; replace B2 := B2.below hb3; replace hb3 := bthen hb2 hb3; have hgw := hb3.size)
      | ((with_reducible refine g_store 2 ?_); go_must (refine ev_store rfl rfl B2 (news := [.bool false, .slice none 0 0]) (by first | rfl | (go_simp; try rfl)) infoNum (by simp) (by simp [Value.oneCell']) ?_); intro w5 ho5 B5; simp only [zA, zB, zC, zD, zE, zF, zG, zH] at B5))
     refine bodyPost_ret (results_ct rfl _ _ g2 33 #[.bool false, .slice none 0 0] (0, 0) _ rfl B5.h Tryz.underlying33 rfl (by kernel_rfl)) rfl ?_
     exact ⟨_, rfl, ⟨_, rfl, ⟨.slice none 0 0, rfl, by rw [show (0 : Int).natAbs = 0 from rfl, digB_zero]; exact Ow.nil _ _ _ _ _⟩⟩, hb3.trans (ho5.below hg2)⟩
   | minus h0 h1 =>
     have e1 : decide (0 < s.size) = true := decide_eq_true h0
     have e2 : (0 : Int) < (s.size : Int) := by omega
     have e3 : (1 : Int) ≤ (s.size : Int) := by omega
     rw [e1] at hn
     have hcx : ((s[0]'h0).toNat : Int) = 45 := by rw [h1]; rfl
     clear h1
     go_enter Tryz.func53, Tryz.ntmps53
     go_wp2_with (first
      | ((with_reducible refine g_dst 2 ?_); go_must (refine ev_alloc 2 rfl infoNum (cs := [.bool false, .slice none 0 0]) rfl ?_); intro g2 w2 hb2 B2 hg2)
      | (go_at_call 61; (with_reducible refine (HP.out _).mono ?_); rintro e w3 ⟨v3, rfl, ⟨q, rfl, ho3⟩, hb3⟩; obtain ⟨A3, c3, rfl, h31, h32⟩ := ho3.form; have hl3 : Lim w3 A3 c3 D := ⟨ho3.rd lenU, HDl.out, h31, ho3.none, HDn.out⟩; have hgl := Nat.lt_of_lt_of_le B2.lt hb3.size; replace B2 := B2.below hb3; replace hb3 := bthen hb2 hb3; have hgw := hb3.size)
      | ((with_reducible refine g_store 2 ?_); go_must (refine ev_store rfl rfl B2 (news := [.bool false, .slice none 0 0]) (by first | rfl | (go_simp; try rfl)) infoNum (by simp) (by simp [Value.oneCell']) ?_); intro w5 ho5 B5; simp only [zA, zB, zC, zD, zE, zF, zG, zH] at B5))
     refine bodyPost_ret (results_ct rfl _ _ g2 33 #[.bool false, .slice none 0 0] (0, 0) _ rfl B5.h Tryz.underlying33 rfl (by kernel_rfl)) rfl ?_
     exact ⟨_, rfl, ⟨_, rfl, ⟨.slice none 0 0, rfl, by rw [show (0 : Int).natAbs = 0 from rfl, digB_zero]; exact Ow.nil _ _ _ _ _⟩⟩, hb3.trans (ho5.below hg2)⟩
   | other h0 h1 h2 =>
     have e1 : decide (0 < s.size) = true := decide_eq_true h0
     have e2 : (0 : Int) < (s.size : Int) := by omega
     rw [e1] at hn
     obtain ⟨x, hx⟩ : ∃ x, x = (s[0]'h0).toNat := ⟨_, rfl⟩
     rw [← hx] at h1 h2
     have hcx : ((s[0]'h0).toNat : Int) = (x : Int) := by rw [hx]
     have e4 : ((x : Int) == 43) = false := by simp; omega
     have e5 : ((x : Int) == 45) = false := by simp; omega
     clear hx h1 h2
     go_enter Tryz.func53, Tryz.ntmps53
     go_wp2_with (first
      | ((with_reducible refine g_dst 2 ?_); go_must (refine ev_alloc 2 rfl infoNum (cs := [.bool false, .slice none 0 0]) rfl ?_); intro g2 w2 hb2 B2 hg2)
      | (go_at_call 61; (with_reducible refine (HP.out _).mono ?_); rintro e w3 ⟨v3, rfl, ⟨q, rfl, ho3⟩, hb3⟩; obtain ⟨A3, c3, rfl, h31, h32⟩ := ho3.form; have hl3 : Lim w3 A3 c3 D := ⟨ho3.rd lenU, HDl.out, h31, ho3.none, HDn.out⟩; have hgl := Nat.lt_of_lt_of_le B2.lt hb3.size; replace B2 := B2.below hb3; replace hb3 := bthen hb2 hb3; have hgw := hb3.size)
      | ((with_reducible refine g_store 2 ?_); go_must (refine ev_store rfl rfl B2 (news := [.bool false, .slice none 0 0]) (by first | rfl | (go_simp; try rfl)) infoNum (by simp) (by simp [Value.oneCell']) ?_); intro w5 ho5 B5; simp only [zA, zB, zC, zD, zE, zF, zG, zH] at B5))
     refine bodyPost_ret (results_ct rfl _ _ g2 33 #[.bool false, .slice none 0 0] (0, 0) _ rfl B5.h Tryz.underlying33 rfl (by kernel_rfl)) rfl ?_
     exact ⟨_, rfl, ⟨_, rfl, ⟨.slice none 0 0, rfl, by rw [show (0 : Int).natAbs = 0 from rfl, digB_zero]; exact Ow.nil _ _ _ _ _⟩⟩, hb3.trans (ho5.below hg2)⟩
end Go.Proofs.YtdapbegadhcpcaaGreatDoor
