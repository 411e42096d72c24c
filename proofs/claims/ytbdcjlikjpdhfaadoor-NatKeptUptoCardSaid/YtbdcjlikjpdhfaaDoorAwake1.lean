/- tandemlaw01.awake. -/
import Derived.Test.YtbdcjlikjpdhfaaDoorNatK
import Derived.Test.YtbdcjlikjpdhfaaDoorParse1
namespace Go.Proofs.YtbdcjlikjpdhfaaDoor
open Go.RowKit Go.Proofs.YtbdcjlikjpdhfaaDoorL Go.Proofs.YtbdcjlikjpdhfaaDoorM
set_option linter.unusedVariables false
set_option linter.unusedSimpArgs false
theorem UR.of_own {base n c : Nat} {w : World} {A : Option Addr} {V K : Nat} (f : Ow encU 1 36 base w (.slice A n c) (digB 4294967296 V)) (hc : n ≤ c) (hV : V < 4294967296 ^ K) (hK : K ≤ 274877906944) : UR.Ok w ⟨A, n, c, V, K, true⟩ := by
  have hn := f.len_eq
  subst hn
  have hl := digB_len_lt 4294967296 (by omega) K V hV
  exact ⟨⟨_, rfl, Ow.lim f hc (Nat.le_trans hl hK), digB_val _ (by omega) V, fun _ => rfl⟩, hl⟩
/-- a list that is written out -/
theorem UR.lit {w : World} {g n : Nat} {l : List Nat} {e : TypeId} (B : Blk w g (l.map valU) e) (hl : ∀ x ∈ l, x < 4294967296) (V : Nat) (hV : valB 4294967296 l = V) (hc : l = digB 4294967296 V) (hm : n ≤ 1073741824) (hn : l.length = n) : UR.Ok w ⟨some ⟨g, 0, none⟩, n, n, V, n, true⟩ :=
  ⟨⟨l, hn, ⟨B.rdm encU_one, hl, by rw [hn]; exact Nat.le_refl _, fun h => (nomatch h), by omega⟩, hV, fun _ => hc⟩, Nat.le_refl _⟩
theorem dig_7 : [7] = digB 4294967296 7 := by rw [digB_pos _ _ (by omega) (by omega), show 7 / 4294967296 = 0 by decide, digB_zero]
theorem dig_01 : [0, 1] = digB 4294967296 4294967296 := by
  rw [digB_pos _ _ (by omega) (by omega), show 4294967296 / 4294967296 = 1 by decide, digB_pos _ _ (by omega) (by omega), show 1 / 4294967296 = 0 by decide, digB_zero]
theorem dig_max : [4294967295] = digB 4294967296 4294967295 := by rw [digB_pos _ _ (by omega) (by omega), show 4294967295 / 4294967296 = 0 by decide, digB_zero]
theorem dig_1 : [1] = digB 4294967296 1 := by rw [digB_pos _ _ (by omega) (by omega), show 1 / 4294967296 = 0 by decide, digB_zero]
theorem dec_2_32 : Lib.decDigits 4294967296 = [52, 50, 57, 52, 57, 54, 55, 50, 57, 54] := by
  simp [Lib.decDigits]
theorem parse007 (w : World) : Calls Tryd.prog 19 #[.string ⟨#[48, 48, 55]⟩] w (Gives w fun v w' => ∃ q, v = .tuple #[q, .bool true] ∧ LimRes w 7 1 q w') := by
  refine (parse_yes ⟨#[48, 48, 55]⟩ w (by decide) (by decide)).mono ?_
  rintro e w' ⟨v, rfl, ⟨q, rfl, ho⟩, hb⟩
  refine ⟨_, rfl, ⟨q, rfl, ?_⟩, hb⟩
  rw [show numV 0 [48, 48, 55] = 7 by decide] at ho
  exact LimRes.of ho (by decide) (by omega)
theorem new_below (w : World) (o : Obj) : Below w.heap.size w (w.alloc o) := (Below.refl _ _).alloc (Nat.le_refl _) _
theorem lit_ok (w : World) (l : List Nat) (hl : ∀ x ∈ l, x < 4294967296) (V m : Nat) (hV : valB 4294967296 l = V) (hc : l = digB 4294967296 V) (hm : m ≤ 1073741824) (hn : l.length = m) :
    UR.Ok (w.alloc (.cells (l.map valU).toArray 36)) ⟨some ⟨w.heap.size, 0, none⟩, m, m, V, m, true⟩ := UR.lit (Blk.new w (l.map valU) 36) hl V hV hc hm hn
theorem same_lit {w : World} {A : Option Addr} {n c V K m : Nat} (l : List Nat) (h : UR.Ok w ⟨A, n, c, V, K, true⟩) (hl : ∀ x ∈ l, x < 4294967296) (hV : valB 4294967296 l = V) (hc : l = digB 4294967296 V) (hm : m ≤ 1073741824) (hn : l.length = m) :
    Calls Tryd.prog 15 #[.slice A n c, .slice (some ⟨w.heap.size, 0, none⟩) m m] (w.alloc (.cells (l.map valU).toArray 36)) fun e w' => e = .returned (.bool true) ∧ Below w.heap.size w w' := by
  have F := ((Us.nil _).cons (h.below (new_below w (.cells (l.map valU).toArray 36)))).cons (lit_ok w l hl V m hV hc hm hn)
  refine (sU F (List.mem_cons_of_mem _ (List.mem_cons_self ..)) (List.mem_cons_self ..) rfl).mono ?_
  rintro e w' ⟨v, rfl, rfl, hb⟩
  exact ⟨rfl, bthen (new_below w _) hb⟩
theorem text_lit {w : World} {V m : Nat} (l : List Nat) (htab : Tab w) (hl : ∀ x ∈ l, x < 4294967296) (hV : valB 4294967296 l = V) (hc : l = digB 4294967296 V) (hm : m ≤ 1073741824) (hn : l.length = m) (t : List UInt8) (ht : Lib.decDigits V = t) :
    Calls Tryd.prog 21 #[.slice (some ⟨w.heap.size, 0, none⟩) m m] (w.alloc (.cells (l.map valU).toArray 36)) fun e w' => e = .returned (.string ⟨t.toArray⟩) ∧ Below w.heap.size w w' := by
  have F := (Us.nil _).cons (lit_ok w l hl V m hV hc hm hn)
  refine (textU F (List.mem_cons_self ..) (htab.below (new_below w _)) t ht).mono ?_
  rintro e w' ⟨v, rfl, rfl, hb⟩
  exact ⟨rfl, bthen (new_below w _) hb⟩
theorem add_lit2 (w : World) (l m : List Nat) (k n V U : Nat) (hl : ∀ x ∈ l, x < 4294967296) (hV : valB 4294967296 l = V) (hc : l = digB 4294967296 V) (hk : k ≤ 1073741824) (hn : l.length = k)
    (hl2 : ∀ x ∈ m, x < 4294967296) (hV2 : valB 4294967296 m = U) (hc2 : m = digB 4294967296 U) (hk2 : n ≤ 1073741824) (hn2 : m.length = n) :
    Calls Tryd.prog 16 #[.slice (some ⟨w.heap.size, 0, none⟩) k k, .slice (some ⟨w.heap.size + 1, 0, none⟩) n n, .slice none 0 0] ((w.alloc (.cells (l.map valU).toArray 36)).alloc (.cells (m.map valU).toArray 36)) fun e w' => ∃ A n2 c, e = .returned (.slice A n2 c) ∧ UR.Ok w' ⟨A, n2, c, V + U, k + n + 2, true⟩ ∧ Below w.heap.size w w' := by
  have h2 := lit_ok (w.alloc (.cells (l.map valU).toArray 36)) m hl2 U n hV2 hc2 hk2 hn2
  rw [show (w.alloc (.cells (l.map valU).toArray 36)).heap.size = w.heap.size + 1 by simp] at h2
  have F := ((Us.nil _).cons ((lit_ok w l hl V k hV hc hk hn).below (new_below _ (.cells (m.map valU).toArray 36)))).cons h2
  refine (addU F (List.mem_cons_of_mem _ (List.mem_cons_self ..)) (List.mem_cons_self ..) (by omega)).mono ?_
  rintro e w' ⟨v, rfl, ⟨A, n2, c, rfl, ho, _⟩, hb⟩
  exact ⟨A, n2, c, rfl, ho, bthen (bthen (new_below w _) (new_below _ _)) hb⟩
theorem UR.Ok.zero {w : World} {A : Option Addr} {n c K V : Nat} (h : UR.Ok w ⟨A, n, c, V, K, true⟩) (h0 : V = 0) : n = 0 := by
  obtain ⟨l, h1, _, _, h4⟩ := h.ex
  have := h4 rfl
  simp only at h1 this
  rw [h0, digB_zero] at this
  rw [← h1, this]; rfl
theorem div_lit {w : World} {L : List UR} {A : Option Addr} {n c V K U m : Nat} {can : Bool} (l : List Nat) (F : Us w L) (h : (⟨A, n, c, V, K, can⟩ : UR) ∈ L) (hl : ∀ x ∈ l, x < 4294967296) (hV : valB 4294967296 l = U) (hc : l = digB 4294967296 U) (hm : m ≤ 1073741824) (hn : l.length = m) (h0 : 0 < U) (hK : K ≤ 274877906944) :
    Calls Tryd.prog 32 #[.slice A n c, .slice (some ⟨w.heap.size, 0, none⟩) m m] (w.alloc (.cells (l.map valU).toArray 36)) fun e w' => ∃ A1 n1 c1 A2 n2 c2, e = .returned (.tuple #[.slice A1 n1 c1, .slice A2 n2 c2, .bool true]) ∧ UR.Ok w' ⟨A1, n1, c1, V / U, K, true⟩ ∧ UR.Ok w' ⟨A2, n2, c2, V % U, K, true⟩ ∧ Below w.heap.size w w' := by
  have F2 := (F.below (new_below w (.cells (l.map valU).toArray 36))).cons (lit_ok w l hl U m hV hc hm hn)
  refine (divU F2 (List.mem_cons_of_mem _ h) (List.mem_cons_self ..) h0 hK).mono ?_
  rintro e w' ⟨v, rfl, ⟨q, r, rfl, ⟨A1, n1, c1, rfl, o1, _⟩, ⟨A2, n2, c2, rfl, o2, _⟩⟩, hb⟩
  exact ⟨A1, n1, c1, A2, n2, c2, rfl, o1, o2, bthen (new_below w _) hb⟩
theorem mul_lit {w : World} {L : List UR} {A : Option Addr} {n c V K U m : Nat} {can : Bool} (l : List Nat) (F : Us w L) (h : (⟨A, n, c, V, K, can⟩ : UR) ∈ L) (hl : ∀ x ∈ l, x < 4294967296) (hV : valB 4294967296 l = U) (hc : l = digB 4294967296 U) (hm : m ≤ 1073741824) (hn : l.length = m) (hK : K + m + 1 ≤ 274877906944) :
    Calls Tryd.prog 26 #[.slice A n c, .slice (some ⟨w.heap.size, 0, none⟩) m m, .slice none 0 0] (w.alloc (.cells (l.map valU).toArray 36)) fun e w' => ∃ A1 n1 c1, e = .returned (.slice A1 n1 c1) ∧ UR.Ok w' ⟨A1, n1, c1, V * U, K + m + 1, true⟩ ∧ Below w.heap.size w w' := by
  have F2 := (F.below (new_below w (.cells (l.map valU).toArray 36))).cons (lit_ok w l hl U m hV hc hm hn)
  refine (mulU F2 (List.mem_cons_of_mem _ h) (List.mem_cons_self ..) hK).mono ?_
  rintro e w' ⟨v, rfl, ⟨A1, n1, c1, rfl, o1, _⟩, hb⟩
  exact ⟨A1, n1, c1, rfl, o1, bthen (new_below w _) hb⟩
theorem dig_2 : [2] = digB 4294967296 2 := by rw [digB_pos _ _ (by omega) (by omega), show 2 / 4294967296 = 0 by decide, digB_zero]
theorem bitN_double (V : Nat) (h : 0 < V) : bitN (V + V) = bitN V + 1 := by rw [bitN_half (V + V) (by omega), show (V + V) / 2 = V by omega, Nat.add_comm]
set_option maxRecDepth 16000 in
set_option maxHeartbeats 2000000 in
theorem awake01_any (w : World) (htab : Tab w) : Calls Tryd.prog 18 #[] w (Gives w fun v _ => v = .bool true) := by
  have HT := As.mk htab
  clear htab
  go_enter Tryd.func18, Tryd.ntmps18
  go_wp2_with (first
    | (go_at_call 19; (with_reducible refine (parse007 _).mono ?_); rintro e w1 ⟨v1, rfl, ⟨q1, rfl, ⟨A1, n1, c1, rfl, o1, _⟩⟩, hb1⟩)
    | (go_at_call 16; (refine (add_lit2 _ [4294967295] [1] 1 1 4294967295 1 (by decide) (by decide) dig_max (by omega) rfl (by decide) (by decide) dig_1 (by omega) rfl).mono ?_); rintro e w4 ⟨A4, n4, c4, rfl, o4, hb4⟩; rw [show 4294967295 + 1 = 4294967296 from rfl] at o4; replace o1 := o1.below hb4; replace hb1 := bthen hb1 hb4)
    | (go_at_call 15; (refine (same_lit (A := A4) (m := 2) [0, 1] o4 (by decide) (by decide) dig_01 (by omega) rfl).mono ?_); rintro e w6 ⟨rfl, hb6⟩; replace o1 := o1.below hb6; replace hb1 := bthen hb1 hb6)
    | (go_at_call 21; (refine (text_lit (m := 2) [0, 1] (HT.out.below hb1) (by decide) (by decide) dig_01 (by omega) rfl _ dec_2_32).mono ?_); rintro e w8 ⟨rfl, hb8⟩; replace o1 := o1.below hb8; replace hb1 := bthen hb1 hb8)
    | (go_at_call 15; (refine (same_lit (A := A1) (m := 1) [7] o1 (by decide) (by decide) dig_7 (by omega) rfl).mono ?_); rintro e w10 ⟨rfl, hb10⟩; replace hb1 := bthen hb1 hb10))
  go_ret
  exact ⟨_, rfl, rfl, hb1⟩
end Go.Proofs.YtbdcjlikjpdhfaaDoor
