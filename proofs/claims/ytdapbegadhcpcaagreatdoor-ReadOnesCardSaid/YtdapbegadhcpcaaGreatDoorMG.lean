/- A part of the proof. -/
import Derived.StillTailTactics
import Derived.Test.YtdapbegadhcpcaaGreatDoorMD
import Derived.Test.YtdapbegadhcpcaaGreatDoorMF
import Derived.Test.YtdapbegadhcpcaaGreatDoorShelf
import Derived.Test.YtdapbegadhcpcaaGreatDoorMC
import Derived.ScopeJumps
import Derived.WalkMore
set_option linter.unusedVariables false
set_option linter.unusedSimpArgs false
namespace Go.Proofs.YtdapbegadhcpcaaGreatDoor
open Go.RowKit Go.Proofs.YtdapbegadhcpcaaGreatDoorL Go.Proofs.YtdapbegadhcpcaaGreatDoorM
structure RB (w : World) (g : Nat) (T : ByteArray) (i : Nat) (p c : Int) : Prop where
 out : Blk w g [.string T, .int .i64 (i : Int), .int .i64 p, .int .i64 c] 48
theorem RB.below {w w1 : World} {g i : Nat} {p c : Int} {T : ByteArray} (h : RB w g T i p c) (hb : Below w.heap.size w w1) : RB w1 g T i p c := ⟨h.out.below hb⟩
theorem RB.lt {w : World} {g i : Nat} {p c : Int} {T : ByteArray} (h : RB w g T i p c) : g < w.heap.size := h.out.lt
theorem dr {w W : World} {B : Nat} (h : Below B w W) (n : Nat) : Below B w (W.drewN n) := ⟨h.os, h.tape, h.output, h.size, h.block⟩
theorem dlt (a b : Nat) : decide ((a : Int) < (b : Int)) = decide (a < b) := by
 by_cases h : a < b
 · rw [decide_eq_true h, decide_eq_true (by omega)]
 · rw [decide_eq_false h, decide_eq_false (by omega)]
theorem more_any {w : World} {g i : Nat} {p c : Int} {T : ByteArray} (R : RB w g T i p c) :
 Calls Tryz.prog 13 #[.pointer (some ⟨g, 0, none⟩)] w (Gives w fun v _ => v = .bool (decide (i < T.size))) := by
 have C := R.out.cells
 have hd := dlt i T.size
 go_enter Tryz.func13, Tryz.ntmps13
 go_wp2
 go_quiet (fail)
 go_wp2
 go_ret
 exact ⟨_, rfl, by rw [← hd]; rfl, dr (Below.refl _ _) _⟩
theorem size_list (T : ByteArray) : T.data.toList.length = T.size := by rw [Array.length_toList]; rfl
theorem extract_drop (T : ByteArray) (a : Nat) (h : a ≤ T.size) : (T.extract a T.size).data.toList = T.data.toList.drop a := by
 rw [ByteArray.data_extract, Array.toList_extract, List.extract_eq_take_drop]
 exact List.take_of_length_le (by rw [List.length_drop, size_list]; exact Nat.le_refl _)
set_option maxRecDepth 8000 in
theorem sees_any {w : World} {g i : Nat} {p c : Int} {T : ByteArray} (R : RB w g T i p c) (hi : i ≤ T.size) (l : List UInt8) :
 Calls Tryz.prog 21 #[.pointer (some ⟨g, 0, none⟩), .string ⟨l.toArray⟩] w (Gives w fun v _ => v = .bool (pre T.data.toList i l)) := by
 have C := R.out.cells
 have hii : (i : Int) ≤ (T.size : Int) := by omega
 have He := As.mk (show (T.data.toList.drop i).take (T.size - i) = T.data.toList.drop i from List.take_of_length_le (by rw [List.length_drop, size_list]; exact Nat.le_refl _))
 have hl : (⟨l.toArray⟩ : ByteArray).data.toList = l := by simp
 obtain ⟨L, hL⟩ : ∃ L : ByteArray, L = ⟨l.toArray⟩ := ⟨_, rfl⟩
 rw [← hL] at hl ⊢
 have Hl := As.mk hl
 clear hl hL
 go_enter Tryz.func21, Tryz.ntmps21
 go_wp2
 go_still_tail 10, (by kernel_rfl)
 change wpList _ _ _ _ _ w.drew
 have hbd := (Below.refl w.heap.size w).drew
 generalize w.drew = w2 at hbd ⊢
 go_wp2_with (go_at_call 39; (with_reducible refine (Tryz.strings_HasPrefix _ _ _).mono ?_); rintro e w3 ⟨rfl, rfl⟩)
 go_ret
 exact ⟨_, rfl, by rw [He.out, Hl.out]; rfl, hbd⟩
theorem infoW : (Tryz.prog.info? 46).map (fun i => (i.zero, i.size, i.bytes)) = some (some (.agg #[.int .i64 0, .int .i64 0]), 2, 16) := by kernel_rfl
theorem fail_ok {w : World} {g i : Nat} {p : Int} {T : ByteArray} (R : RB w g T i p 0) (a e : Int) :
 Calls Tryz.prog 24 #[.pointer (some ⟨g, 0, none⟩), .int .i64 a, .int .i64 e] w fun x w' => x = .returned (.tuple #[]) ∧ Only g w w' ∧ RB w' g T i a e := by
 have B := R.out
 have C := B.cells
 go_enter Tryz.func24, Tryz.ntmps24
 go_wp2_with ((with_reducible refine g_store 17 ?_); go_must (refine ev_store rfl rfl B (news := [.int .i64 a, .int .i64 e]) (by rfl) infoW (by simp) (by simp [Value.oneCell']) ?_); intro w1 ho B1; simp only [zI, zA, zC, zD, zE, zF, zH, zB] at B1)
 go_end0
 exact ⟨rfl, ho, ⟨B1⟩⟩
theorem end_ok {w : World} {g i : Nat} {p : Int} {T : ByteArray} (R : RB w g T i p 0) :
 Calls Tryz.prog 36 #[.pointer (some ⟨g, 0, none⟩)] w fun x w' => x = .returned (.tuple #[]) ∧ Only g w w' ∧ RB w' g T i T.size 10 := by
 have C := R.out.cells
 go_enter Tryz.func36, Tryz.ntmps36
 go_wp2_with (go_at_call 24; (with_reducible refine (fail_ok R T.size 10).mono ?_); rintro e w3 ⟨rfl, ho, R2⟩)
 go_end0
 exact ⟨rfl, ho, R2⟩
theorem more_b {w : World} {g i : Nat} {p c : Int} {T : ByteArray} (R : RB w g T i p c) (b : Bool) (h : decide (i < T.size) = b) :
 Calls Tryz.prog 13 #[.pointer (some ⟨g, 0, none⟩)] w (Gives w fun v _ => v = .bool b) := h ▸ more_any R
theorem sees_b {w : World} {g i : Nat} {p c : Int} {T : ByteArray} (R : RB w g T i p c) (hi : i ≤ T.size) (l : List UInt8) (b : Bool) (h : pre T.data.toList i l = b) :
 Calls Tryz.prog 21 #[.pointer (some ⟨g, 0, none⟩), .string ⟨l.toArray⟩] w (Gives w fun v _ => v = .bool b) := h ▸ sees_any R hi l
theorem get_size (T : ByteArray) {i : Nat} (h : i < T.size) : ∃ c, T.data.toList[i]? = some c := ⟨_, List.getElem?_eq_getElem (by rw [size_list]; exact h)⟩
theorem pre2_lt {T : ByteArray} {i : Nat} {x y : UInt8} (h : pre T.data.toList i [x, y] = true) : T.data.toList[i]? = some x ∧ T.data.toList[i + 1]? = some y ∧ i + 2 ≤ T.size := by
 cases h0 : T.data.toList[i]? with
 | none => rw [pre_end (List.getElem?_eq_none_iff.1 h0)] at h; cases h
 | some c =>
   rw [pre2 h0] at h
   simp only [Bool.and_eq_true, beq_iff_eq] at h
   obtain ⟨rfl, h1⟩ := h
   have := (List.getElem?_eq_some_iff.1 h1).1
   rw [size_list] at this
   exact ⟨rfl, h1, by omega⟩
theorem pre2_iff {s : List UInt8} {i : Nat} (x y : UInt8) (h : i < s.length) : (pre s i [x, y] = true) = (s[i] = x ∧ s[i + 1]? = some y) := by
 rw [pre2 (List.getElem?_eq_getElem h)]
 simp only [Bool.and_eq_true, beq_iff_eq, eq_iff_iff]
 exact ⟨fun h => ⟨h.1.symm, h.2⟩, fun h => ⟨h.1.symm, h.2⟩⟩
theorem nestF_in (s : List UInt8) {i n : Nat} (h : i < s.length) : nestF s i n =
 if pre s i [35, 124] = true then nestF s (i + 2) (n + 1) else if pre s i [124, 35] = true then (if n ≤ 1 then some (i + 2) else nestF s (i + 2) (n - 1)) else nestF s (i + 1) n := by
 rw [nestF, dif_pos h]
 simp only [pre2_iff 35 124 h, pre2_iff 124 35 h]
theorem nestF_out (s : List UInt8) {i n : Nat} (h : s.length ≤ i) : nestF s i n = none := by rw [nestF, dif_neg (by omega)]
def NestP (w : World) (g : Nat) (T : ByteArray) : Option Nat → Prop
 | some e => RB w g T e 0 0
 | none => ∃ j, RB w g T j T.size 10
def atOf (w : World) (g : Nat) : Nat := match w.cell? ⟨g, 1, none⟩ with | some (.int _ k) => k.toNat | _ => 0
theorem RB.at_ {w : World} {g i : Nat} {p c : Int} {T : ByteArray} (R : RB w g T i p c) : atOf w g = i := by
 rw [atOf, R.out.cells]; simp
set_option maxRecDepth 8000 in
set_option maxHeartbeats 1000000 in
theorem comment_any {w : World} {g i : Nat} {T : ByteArray} (R : RB w g T i 0 0) (hT : T.size ≤ 65536) (h0 : pre T.data.toList i [35, 124] = true) :
 Calls Tryz.prog 22 #[.pointer (some ⟨g, 0, none⟩)] w fun x w' => x = .returned (.tuple #[]) ∧ Upg g w w' ∧
  NestP w' g T (nestF T.data.toList i 0) := by
 have hi := (pre2_lt h0).2.2
 have hsl := size_list T
 obtain ⟨N, hN⟩ : ∃ N, N = nestF T.data.toList i 0 := ⟨_, rfl⟩
 rw [← hN]
 go_enter Tryz.func22, Tryz.ntmps22
 go_wp2
 go_loopw [2] (fun v wr => ∃ j n : Nat, v = .int .i64 (n : Int) ∧ n ≤ j ∧ j ≤ T.size ∧ As (1 ≤ n ∨ n = 0 ∧ pre T.data.toList j [35, 124] = true) ∧ As (N = nestF T.data.toList j n) ∧ RB wr g T j 0 0 ∧ Upg g w wr) (fun v wr => T.size - atOf wr g)
 case atStart => exact ⟨i, 0, rfl, by omega, by omega, ⟨.inr ⟨rfl, h0⟩⟩, ⟨hN⟩, R, Upg.refl _ _⟩
 case round =>
  clear R
  obtain ⟨j, n, rfl, hnj, hj, h1, hNj, R, hu⟩ := hrel
  have C := R.out.cells
  have hat := As.mk R.at_
  by_cases hm : j < T.size
  · have d1 : decide (j < T.size) = true := decide_eq_true hm
    have hin := nestF_in T.data.toList (i := j) (n := n) (by omega)
    rw [← hNj.out] at hin
    have Hin := As.mk hin
    clear hin
    cases a1 : pre T.data.toList j [35, 124] with
    | true =>
      have hj2 := (pre2_lt a1).2.2
      have Hn : As (N = nestF T.data.toList (j + 2) (n + 1)) := ⟨by rw [Hin.out, if_pos a1]⟩
      have z1 : ((n : Int) + 1 == 0) = false := by simp; omega
      go_wp2_with (first
       | (go_at_call 13; (with_reducible refine (more_b R true d1).mono ?_); rintro e wn ⟨vn, rfl, rfl, hb⟩; replace R := R.below hb; clear C; have C := R.out.cells; replace hu := hu.trans (Upg.of_below hb); clear hb)
       | (go_at_call 21; (with_reducible refine (sees_b R hj [35, 124] true a1).mono ?_); rintro e wn ⟨vn, rfl, rfl, hb⟩; replace R := R.below hb; clear C; have C := R.out.cells; replace hu := hu.trans (Upg.of_below hb); clear hb)
       | ((with_reducible refine g_store 35 ?_); go_must (refine ev_store rfl rfl R.out (news := [.int .i64 ((j + 2 : Nat) : Int)]) (by first | rfl | (go_simp; first | rfl | go_num | (simp; omega))) infoI (by simp) (by simp [Value.oneCell']) ?_); intro wn ho Bn; simp only [zI, zA, zC, zD, zE, zF, zH, zB, zG, Nat.reduceAdd] at Bn; have R2 : RB wn g T (j + 2) 0 0 := ⟨Bn⟩; clear Bn; have hq := Upg.of_only ho; clear C R; have R := R2; clear R2; have C := R.out.cells; replace hu := hu.trans hq; clear hq; clear ho))
      go_roundw
      case rel => exact ⟨j + 2, n + 1, by go_num, by omega, hj2, ⟨.inl (by omega)⟩, Hn, R, hu⟩
      case measure => rw [R.at_, hat.out]; omega
    | false =>
      have hn1 : 1 ≤ n := by
       rcases h1.out with h | ⟨_, h⟩
       · exact h
       · rw [a1] at h; cases h
      cases a2 : pre T.data.toList j [124, 35] with
      | true =>
        have hj2 := (pre2_lt a2).2.2
        have Hn : As (N = if n ≤ 1 then some (j + 2) else nestF T.data.toList (j + 2) (n - 1)) := ⟨by rw [Hin.out, if_neg (by rw [a1]; decide), if_pos a2]⟩
        by_cases hn2 : n = 1
        · subst hn2
          have Hn2 : As (N = some (j + 2)) := ⟨by rw [Hn.out, if_pos (by omega)]⟩
          go_wp2_with (first
           | (go_at_call 13; (with_reducible refine (more_b R true d1).mono ?_); rintro e wn ⟨vn, rfl, rfl, hb⟩; replace R := R.below hb; clear C; have C := R.out.cells; replace hu := hu.trans (Upg.of_below hb); clear hb)
           | (go_at_call 21; (with_reducible refine (sees_b R hj [35, 124] false a1).mono ?_); rintro e wn ⟨vn, rfl, rfl, hb⟩; replace R := R.below hb; clear C; have C := R.out.cells; replace hu := hu.trans (Upg.of_below hb); clear hb)
           | (go_at_call 21; (with_reducible refine (sees_b R hj [124, 35] true a2).mono ?_); rintro e wn ⟨vn, rfl, rfl, hb⟩; replace R := R.below hb; clear C; have C := R.out.cells; replace hu := hu.trans (Upg.of_below hb); clear hb)
           | ((with_reducible refine g_store 51 ?_); go_must (refine ev_store rfl rfl R.out (news := [.int .i64 ((j + 2 : Nat) : Int)]) (by first | rfl | (go_simp; first | rfl | go_num | (simp; omega))) infoI (by simp) (by simp [Value.oneCell']) ?_); intro wn ho Bn; simp only [zI, zA, zC, zD, zE, zF, zH, zB, zG, Nat.reduceAdd] at Bn; have R2 : RB wn g T (j + 2) 0 0 := ⟨Bn⟩; clear Bn; have hq := Upg.of_only ho; clear C R; have R := R2; clear R2; have C := R.out.cells; replace hu := hu.trans hq; clear hq; clear ho))
          refine bodyPost_ret (results_none rfl _ _ _) rfl ?_
          exact ⟨rfl, hu, by rw [Hn2.out]; exact R⟩
        · have Hn2 : As (N = nestF T.data.toList (j + 2) (n - 1)) := ⟨by rw [Hn.out, if_neg (by omega)]⟩
          have z1 : ((n : Int) - 1 == 0) = false := by simp; omega
          go_wp2_with (first
           | (go_at_call 13; (with_reducible refine (more_b R true d1).mono ?_); rintro e wn ⟨vn, rfl, rfl, hb⟩; replace R := R.below hb; clear C; have C := R.out.cells; replace hu := hu.trans (Upg.of_below hb); clear hb)
           | (go_at_call 21; (with_reducible refine (sees_b R hj [35, 124] false a1).mono ?_); rintro e wn ⟨vn, rfl, rfl, hb⟩; replace R := R.below hb; clear C; have C := R.out.cells; replace hu := hu.trans (Upg.of_below hb); clear hb)
           | (go_at_call 21; (with_reducible refine (sees_b R hj [124, 35] true a2).mono ?_); rintro e wn ⟨vn, rfl, rfl, hb⟩; replace R := R.below hb; clear C; have C := R.out.cells; replace hu := hu.trans (Upg.of_below hb); clear hb)
           | ((with_reducible refine g_store 51 ?_); go_must (refine ev_store rfl rfl R.out (news := [.int .i64 ((j + 2 : Nat) : Int)]) (by first | rfl | (go_simp; first | rfl | go_num | (simp; omega))) infoI (by simp) (by simp [Value.oneCell']) ?_); intro wn ho Bn; simp only [zI, zA, zC, zD, zE, zF, zH, zB, zG, Nat.reduceAdd] at Bn; have R2 : RB wn g T (j + 2) 0 0 := ⟨Bn⟩; clear Bn; have hq := Upg.of_only ho; clear C R; have R := R2; clear R2; have C := R.out.cells; replace hu := hu.trans hq; clear hq; clear ho))
          go_roundw
          case rel => exact ⟨j + 2, n - 1, by go_num, by omega, hj2, ⟨.inl (by omega)⟩, Hn2, R, hu⟩
          case measure => rw [R.at_, hat.out]; omega
      | false =>
        have Hn : As (N = nestF T.data.toList (j + 1) n) := ⟨by rw [Hin.out, if_neg (by rw [a1]; decide), if_neg (by rw [a2]; decide)]⟩
        have z1 : ((n : Int) == 0) = false := by simp; omega
        go_wp2_with (first
         | (go_at_call 13; (with_reducible refine (more_b R true d1).mono ?_); rintro e wn ⟨vn, rfl, rfl, hb⟩; replace R := R.below hb; clear C; have C := R.out.cells; replace hu := hu.trans (Upg.of_below hb); clear hb)
         | (go_at_call 21; (with_reducible refine (sees_b R hj [35, 124] false a1).mono ?_); rintro e wn ⟨vn, rfl, rfl, hb⟩; replace R := R.below hb; clear C; have C := R.out.cells; replace hu := hu.trans (Upg.of_below hb); clear hb)
         | (go_at_call 21; (with_reducible refine (sees_b R hj [124, 35] false a2).mono ?_); rintro e wn ⟨vn, rfl, rfl, hb⟩; replace R := R.below hb; clear C; have C := R.out.cells; replace hu := hu.trans (Upg.of_below hb); clear hb)
         | ((with_reducible refine g_store 11 ?_); go_must (refine ev_store rfl rfl R.out (news := [.int .i64 ((j + 1 : Nat) : Int)]) (by first | rfl | (go_simp; first | rfl | go_num | (simp; omega))) infoI (by simp) (by simp [Value.oneCell']) ?_); intro wn ho Bn; simp only [zI, zA, zC, zD, zE, zF, zH, zB, zG, Nat.reduceAdd] at Bn; have R2 : RB wn g T (j + 1) 0 0 := ⟨Bn⟩; clear Bn; have hq := Upg.of_only ho; clear C R; have R := R2; clear R2; have C := R.out.cells; replace hu := hu.trans hq; clear hq; clear ho))
        go_roundw
        case rel => exact ⟨j + 1, n, rfl, by omega, by omega, ⟨.inl hn1⟩, Hn, R, hu⟩
        case measure => rw [R.at_, hat.out]; omega
  · have d1 : decide (j < T.size) = false := decide_eq_false hm
    have Hn : As (N = none) := ⟨by rw [hNj.out, nestF_out _ (by omega)]⟩
    go_wp2_with (first
     | (go_at_call 13; (with_reducible refine (more_b R false d1).mono ?_); rintro e wn ⟨vn, rfl, rfl, hb⟩; replace R := R.below hb; clear C; have C := R.out.cells; replace hu := hu.trans (Upg.of_below hb); clear hb)
     | (go_at_call 36; (with_reducible refine (end_ok R).mono ?_); rintro e wn ⟨rfl, ho, R2⟩; have hq := Upg.of_only ho; clear C R; have R := R2; clear R2; have C := R.out.cells; replace hu := hu.trans hq; clear hq))
    refine bodyPost_ret (results_none rfl _ _ _) rfl ?_
    exact ⟨rfl, hu, by rw [Hn.out]; exact ⟨_, R⟩⟩
inductive LD where
 | mk (kind n : Int) (neg : Bool) (A : Option Addr) (c : Nat) (mag : List Nat) (text : List UInt8) (Ai : Option Addr) (ci : Nat) (items : List LD) (Ar : Option Addr) (cr : Nat) (rest : List LD)
def encD : LD → List Value
 | .mk kind n neg A c mag text Ai ci items Ar cr rest => [.int .i64 kind, .int .i64 n, .bool neg, .slice A mag.length c, .string ⟨text.toArray⟩, .slice Ai items.length ci, .slice Ar rest.length cr]
theorem lenD : ∀ x, (encD x).length = 7 := fun x => by cases x; rfl
theorem oneD : ∀ x, ∀ u ∈ encD x, u.oneCell' = true := fun x => by cases x; simp [encD, Value.oneCell']
inductive Good (w : World) : LD → Prop
 | mk {kind n : Int} {neg : Bool} {A : Option Addr} {c : Nat} {mag : List Nat} {text : List UInt8} {Ai : Option Addr} {ci : Nat} {items : List LD} {Ar : Option Addr} {cr : Nat} {rest : List LD}
   (hn1 : -9223372036854775808 ≤ n) (hn2 : n ≤ 9223372036854775807) (lim : Lim w A c mag)
   (ri : Rd encD 7 w Ai items) (li : items.length ≤ ci) (ni : Ai = none → ci = 0) (rr : Rd encD 7 w Ar rest) (lr : rest.length ≤ cr) (nr : Ar = none → cr = 0)
   (gi : ∀ x ∈ items, Good w x) (gr : ∀ x ∈ rest, Good w x) : Good w (.mk kind n neg A c mag text Ai ci items Ar cr rest)
theorem Good.to {w w1 : World} {x : LD} (h : Good w x) (hb : Below w.heap.size w w1) : Good w1 x := by
 induction h with
 | mk hn1 hn2 lim ri li ni rr lr nr gi gr ihi ihr => exact Good.mk hn1 hn2 (lim.below hb) (ri.below hb) li ni (rr.below hb) lr nr ihi ihr
mutual
def footD : LD → List Nat
 | .mk _ _ _ A _ mag _ Ai _ items Ar _ rest => (if mag.length = 0 then [] else addrBlock A) ++ ((if items.length = 0 then [] else addrBlock Ai) ++ ((if rest.length = 0 then [] else addrBlock Ar) ++ (footAll items ++ footAll rest)))
def footAll : List LD → List Nat
 | [] => []
 | x :: l => footD x ++ footAll l
end
theorem foot_mem {x : LD} {b : Nat} (hb : b ∈ footD x) : ∀ {l : List LD}, x ∈ l → b ∈ footAll l
 | y :: l, h => by
   rw [footAll]
   rcases List.mem_cons.1 h with rfl | h
   · exact List.mem_append_left _ hb
   · exact List.mem_append_right _ (foot_mem hb h)
theorem mem_foot {b : Nat} : ∀ {l : List LD}, b ∈ footAll l → ∃ x ∈ l, b ∈ footD x
 | [], h => by simp [footAll] at h
 | y :: l, h => by
   rw [footAll] at h
   rcases List.mem_append.1 h with h | h
   · exact ⟨y, List.mem_cons_self .., h⟩
   · obtain ⟨x, hx, hb⟩ := mem_foot h
     exact ⟨x, List.mem_cons_of_mem _ hx, hb⟩
theorem Good.keep {w w1 : World} {x : LD} (h : Good w x) : (∀ b ∈ footD x, w1.heap[b]? = w.heap[b]?) → Good w1 x := by
 induction h with
 | mk hn1 hn2 lim ri li ni rr lr nr gi gr ihi ihr =>
   intro hk
   refine .mk hn1 hn2 ⟨Rd.keep lim.rd (fun hl b hb => hk b ?_), lim.lt, lim.cap, lim.none, lim.max⟩ (Rd.keep ri (fun hl b hb => hk b ?_)) li ni (Rd.keep rr (fun hl b hb => hk b ?_)) lr nr (fun x hx => ihi x hx (fun b hb => hk b ?_)) (fun x hx => ihr x hx (fun b hb => hk b ?_))
   · rw [footD, if_neg hl]; exact List.mem_append_left _ hb
   · rw [footD, if_neg hl]; exact List.mem_append_right _ (List.mem_append_left _ hb)
   · rw [footD, if_neg hl]; exact List.mem_append_right _ (List.mem_append_right _ (List.mem_append_left _ hb))
   · rw [footD]; exact List.mem_append_right _ (List.mem_append_right _ (List.mem_append_right _ (List.mem_append_left _ (foot_mem hb hx))))
   · rw [footD]; exact List.mem_append_right _ (List.mem_append_right _ (List.mem_append_right _ (List.mem_append_right _ (foot_mem hb hx))))
theorem footAll_append : ∀ (l m : List LD), footAll (l ++ m) = footAll l ++ footAll m
 | [], m => rfl
 | x :: l, m => by rw [List.cons_append, footAll, footAll, footAll_append l m, List.append_assoc]
theorem good_lt {w : World} {x : LD} (h : Good w x) : ∀ b ∈ footD x, b < w.heap.size := by
 have key : ∀ {α : Type} {enc : α → List Value} {sz : Nat} {A : Option Addr} {l : List α}, Rd enc sz w A l → (∀ x, (enc x).length = sz) → 0 < sz → l.length ≠ 0 → ∀ b ∈ addrBlock A, b < w.heap.size := by
  intro α enc sz A l f hs hp hn b hb
  obtain ⟨b', off, rfl, hh⟩ := f.at_ (fun e => hn (by rw [e]; rfl))
  simp only [addrBlock, List.mem_singleton] at hb
  subst hb
  have h0 : l[0]? = some l[0] := List.getElem?_eq_getElem (by omega)
  have hl0 : 0 < (enc l[0]).length := by rw [hs]; exact hp
  have h1 : (enc l[0])[0]? = some (enc l[0])[0] := List.getElem?_eq_getElem hl0
  exact World.block_lt_of_cell? w _ (hh 0 _ h0 0 _ h1)
 induction h with
 | @mk kind n neg A c mag text Ai ci items Ar cr rest hn1 hn2 lim ri li ni rr lr nr gi gr ihi ihr =>
   intro b hb
   rw [footD] at hb
   rcases List.mem_append.1 hb with hb | hb
   · by_cases h0 : mag.length = 0
     · rw [if_pos h0] at hb; cases hb
     · rw [if_neg h0] at hb; exact key lim.rd lenU (by omega) h0 b hb
   rcases List.mem_append.1 hb with hb | hb
   · by_cases h0 : items.length = 0
     · rw [if_pos h0] at hb; cases hb
     · rw [if_neg h0] at hb; exact key ri lenD (by omega) h0 b hb
   rcases List.mem_append.1 hb with hb | hb
   · by_cases h0 : rest.length = 0
     · rw [if_pos h0] at hb; cases hb
     · rw [if_neg h0] at hb; exact key rr lenD (by omega) h0 b hb
   rcases List.mem_append.1 hb with hb | hb
   · obtain ⟨x, hx, hb⟩ := mem_foot hb; exact ihi x hx b hb
   · obtain ⟨x, hx, hb⟩ := mem_foot hb; exact ihr x hx b hb
theorem infoD : (Tryz.prog.info? 35).map (fun i => (i.zero, i.size, i.bytes)) = some (some (.agg #[.int .i64 0, .int .i64 0, .bool false, .slice none 0 0, .string ⟨#[]⟩, .slice none 0 0, .slice none 0 0]), 7, 112) := by kernel_rfl
theorem infoLD : (Tryz.prog.info? 22).map (fun i => (i.zero, i.size, i.bytes)) = some (some (.slice none 0 0), 1, 24) := by kernel_rfl
mutual
def erD : LD → DV
 | .mk kind n neg _ _ mag text _ _ items _ _ rest => .mk kind n neg mag text (erAll items) (erAll rest)
def erAll : List LD → List DV
 | [] => []
 | x :: l => erD x :: erAll l
end
theorem erAll_map : ∀ l, erAll l = l.map erD
 | [] => by simp [erAll]
 | x :: l => by rw [erAll, erAll_map l]; rfl
theorem erAll_len (l : List LD) : (erAll l).length = l.length := by rw [erAll_map, List.length_map]
theorem erAll_append (l m : List LD) : erAll (l ++ m) = erAll l ++ erAll m := by simp [erAll_map]
structure MadeL (base : Nat) (w : World) (m : List LD) (l : List DV) : Prop where
 good : ∀ y ∈ m, Good w y
 foot : ∀ b ∈ footAll m, base ≤ b
 same : erAll m = l
theorem good_upg {g : Nat} {w w1 : World} {x : LD} (h : Good w x) (hu : Upg g w w1) (hf : ∀ b ∈ footD x, b ≠ g) : Good w1 x := h.keep (fun b hb => hu.block b (good_lt h b hb) (hf b hb))
theorem MadeL.upg {g base : Nat} {w w1 : World} {m : List LD} {l : List DV} (h : MadeL base w m l) (hu : Upg g w w1) (hg : g < base) : MadeL base w1 m l :=
 ⟨fun y hy => good_upg (h.good y hy) hu (fun b hb => by have := h.foot b (foot_mem hb hy); omega), h.foot, h.same⟩
def ldZ : LD := .mk 0 0 false none 0 [] [] none 0 [] none 0 []
theorem good_z (w : World) (kind n : Int) (h1 : -9223372036854775808 ≤ n) (h2 : n ≤ 9223372036854775807) (text : List UInt8) : Good w (.mk kind n false none 0 [] text none 0 [] none 0 []) :=
 .mk h1 h2 ⟨Rd.nil _ _ _ _, fun x hx => (nomatch hx), by simp, fun _ => rfl, by simp⟩ (Rd.nil _ _ _ _) (by simp) (fun _ => rfl) (Rd.nil _ _ _ _) (by simp) (fun _ => rfl) (fun x hx => (nomatch hx)) (fun x hx => (nomatch hx))
theorem foot_z (kind n : Int) (text : List UInt8) : footD (.mk kind n false none 0 [] text none 0 [] none 0 []) = [] := by simp [footD, footAll]
theorem good_only {w w1 : World} {g : Nat} {x : LD} (h : Good w x) (ho : Only g w w1) (hf : ∀ b ∈ footD x, b ≠ g) : Good w1 x := h.keep (fun b hb => ho.block b (hf b hb))
theorem Upg.only_new {g k : Nat} {w W w1 : World} (h : Upg g w W) (ho : Only k W w1) (hk : w.heap.size ≤ k) : Upg g w w1 :=
 ⟨ho.os.trans h.os, ho.tape.trans h.tape, ho.output.trans h.output, Nat.le_trans h.size (Nat.le_of_eq ho.size.symm), fun i hi hne => (ho.block i (by omega)).trans (h.block i hi hne)⟩
theorem foot_num {kind n : Int} {neg : Bool} {A : Option Addr} {c : Nat} {mag : List Nat} {text : List UInt8} {b : Nat} (h : b ∈ footD (.mk kind n neg A c mag text none 0 [] none 0 [])) : b ∈ addrBlock A := by
 simp only [footD, footAll, List.length_nil, if_true, List.append_nil] at h
 split at h
 · cases h
 · exact h
theorem good_num (w : World) (kind n : Int) (h1 : -9223372036854775808 ≤ n) (h2 : n ≤ 9223372036854775807) (neg : Bool) {A : Option Addr} {c : Nat} {mag : List Nat} (hl : Lim w A c mag) (text : List UInt8) : Good w (.mk kind n neg A c mag text none 0 [] none 0 []) :=
 .mk h1 h2 hl (Rd.nil _ _ _ _) (by simp) (fun _ => rfl) (Rd.nil _ _ _ _) (by simp) (fun _ => rfl) (fun x hx => (nomatch hx)) (fun x hx => (nomatch hx))
def Aft (w : World) (g : Nat) (T : ByteArray) : Rs → Prop
 | .ok (_, e) => RB w g T e 0 0 ∧ e ≤ T.size
 | .error (p, c) => ∃ j, RB w g T j (p : Int) (c : Int) ∧ c ≠ 0
def IsD (base : Nat) (w : World) (r : Rs) (v : Value) : Prop := ∃ y, v = .agg (encD y).toArray ∧ Good w y ∧ (∀ b ∈ footD y, base ≤ b) ∧ (∀ x e, r = .ok (x, e) → erD y = x)
def PC (T : ByteArray) : J → Prop
 | .blanks d i => ∀ (w : World) (g : Nat) (r : Rs), i ≤ T.size → d ≤ 100 → RB w g T i 0 0 → Run T.data.toList (.blanks d i) r →
    Calls Tryz.prog 12 #[.pointer (some ⟨g, 0, none⟩), .int .i64 (d : Int)] w fun x w' => x = .returned (.tuple #[]) ∧ Upg g w w' ∧ Aft w' g T r
 | .next d i => ∀ (w : World) (g : Nat) (r : Rs), i ≤ T.size → d ≤ 100 → RB w g T i 0 0 → Run T.data.toList (.next d i) r →
    Calls Tryz.prog 18 #[.pointer (some ⟨g, 0, none⟩), .int .i64 (d : Int)] w fun x w' => ∃ v, x = .returned v ∧ Upg g w w' ∧ Aft w' g T r ∧ IsD w.heap.size w' r v
 | .datum d i => ∀ (w : World) (g : Nat) (r : Rs), i < T.size → d ≤ 100 → RB w g T i 0 0 → Run T.data.toList (.datum d i) r →
    Calls Tryz.prog 14 #[.pointer (some ⟨g, 0, none⟩), .int .i64 (d : Int)] w fun x w' => ∃ v, x = .returned v ∧ Upg g w w' ∧ Aft w' g T r ∧ IsD w.heap.size w' r v
 | .items .. => True
theorem PC.blanksc {T : ByteArray} {d i : Nat} (h : PC T (.blanks d i)) {w : World} {g : Nat} {r : Rs} (h1 : i ≤ T.size) (h2 : d ≤ 100) (R : RB w g T i 0 0) (hr : Run T.data.toList (.blanks d i) r) :
 Calls Tryz.prog 12 #[.pointer (some ⟨g, 0, none⟩), .int .i64 (d : Int)] w fun x w' => x = .returned (.tuple #[]) ∧ Upg g w w' ∧ Aft w' g T r := h w g r h1 h2 R hr
theorem PC.nextc {T : ByteArray} {d i : Nat} (h : PC T (.next d i)) {w : World} {g : Nat} {r : Rs} (h1 : i ≤ T.size) (h2 : d ≤ 100) (R : RB w g T i 0 0) (hr : Run T.data.toList (.next d i) r) :
 Calls Tryz.prog 18 #[.pointer (some ⟨g, 0, none⟩), .int .i64 (d : Int)] w fun x w' => ∃ v, x = .returned v ∧ Upg g w w' ∧ Aft w' g T r ∧ IsD w.heap.size w' r v := h w g r h1 h2 R hr
theorem PC.datumc {T : ByteArray} {d i : Nat} (h : PC T (.datum d i)) {w : World} {g : Nat} {r : Rs} (h1 : i < T.size) (h2 : d ≤ 100) (R : RB w g T i 0 0) (hr : Run T.data.toList (.datum d i) r) :
 Calls Tryz.prog 14 #[.pointer (some ⟨g, 0, none⟩), .int .i64 (d : Int)] w fun x w' => ∃ v, x = .returned v ∧ Upg g w w' ∧ Aft w' g T r ∧ IsD w.heap.size w' r v := h w g r h1 h2 R hr
section
variable {s : List UInt8}
theorem bcls_facts {i : Nat} {c : UInt8} (h : s[i]? = some c) :
 (match bcls s i with
  | .fin => False
  | .blank => isBl c = true
  | .line => isBl c = false ∧ pre s i [59] = true
  | .nest => isBl c = false ∧ pre s i [59] = false ∧ pre s i [35, 124] = true
  | .skip => isBl c = false ∧ pre s i [59] = false ∧ pre s i [35, 124] = false ∧ pre s i [35, 59] = true
  | .stop => isBl c = false ∧ pre s i [59] = false ∧ pre s i [35, 124] = false ∧ pre s i [35, 59] = false) := by
 have e : bcls s i = (if isBl c = true then BC.blank else if c = 59 then .line else if c = 35 ∧ s[i + 1]? = some 124 then .nest else if c = 35 ∧ s[i + 1]? = some 59 then .skip else .stop) := by rw [bcls, h]
 rw [e, pre1 h, pre2 h, pre2 h]
 by_cases h1 : isBl c = true
 · rw [if_pos h1]; exact h1
 · rw [if_neg h1]
   have h1' : isBl c = false := by simpa using h1
   by_cases h2 : c = 59
   · rw [if_pos h2]; exact ⟨h1', by simp [h2]⟩
   · rw [if_neg h2]
     have n59 : ((59 : UInt8) == c) = false := by simpa using fun h => h2 h.symm
     by_cases h3 : c = 35 ∧ s[i + 1]? = some 124
     · rw [if_pos h3]; exact ⟨h1', n59, by simp [h3.1, h3.2]⟩
     · rw [if_neg h3]
       have n3 : ((35 : UInt8) == c && s[i + 1]? == some 124) = false := by
        by_cases h : c = 35
        · subst h; simpa using fun h => h3 ⟨rfl, h⟩
        · have : ((35 : UInt8) == c) = false := by simpa using fun h' => h h'.symm
          rw [this]; rfl
       by_cases h4 : c = 35 ∧ s[i + 1]? = some 59
       · rw [if_pos h4]; exact ⟨h1', n59, n3, by simp [h4.1, h4.2]⟩
       · rw [if_neg h4]
         refine ⟨h1', n59, n3, ?_⟩
         by_cases h : c = 35
         · subst h; simpa using fun h => h4 ⟨rfl, h⟩
         · have : ((35 : UInt8) == c) = false := by simpa using fun h' => h h'.symm
           rw [this]; rfl
theorem lineEnd_in {i : Nat} (h : i < s.length) : lineEnd s i = if pre s i [10] = true then i else lineEnd s (i + 1) := by
 rw [lineEnd, dif_pos h, pre1 (List.getElem?_eq_getElem h)]
 have e : (((10 : UInt8) == s[i]) = true) = (s[i] = 10) := by
  simp only [beq_iff_eq, eq_iff_iff]
  exact eq_comm
 simp only [e]
end
def errOf (w : World) (g : Nat) : Int := match w.cell? ⟨g, 3, none⟩ with | some (.int _ k) => k | _ => 0
theorem RB.err {w : World} {g i : Nat} {p c : Int} {T : ByteArray} (R : RB w g T i p c) : errOf w g = c := by
 rw [errOf, R.out.cells]; simp
theorem idx_b (l : List UInt8) (c : UInt8) (k : Int) (h : Lib.indexByte l c = k) (w : World) : Calls Tryz.prog 20 #[.string ⟨l.toArray⟩, .int .u8 (c.toNat : Int)] w fun e w' => e = .returned (.int .i64 k) ∧ w' = w := by
 refine (Tryz.strings_IndexByte ⟨l.toArray⟩ c.toNat w).mono ?_
 rintro e w' ⟨rfl, rfl⟩
 refine ⟨?_, rfl⟩
 rw [← h]; simp
theorem Aft.only {w w1 : World} {g k : Nat} {T : ByteArray} {r : Rs} (h : Aft w g T r) (ho : Only k w w1) (hne : g ≠ k) : Aft w1 g T r := by
 cases r with
 | ok xe => exact ⟨⟨h.1.out.only ho hne⟩, h.2⟩
 | error pc =>
   obtain ⟨j, R, hc⟩ := h
   exact ⟨j, ⟨R.out.only ho hne⟩, hc⟩
structure BJ (w0 w : World) (g : Nat) (T : ByteArray) (d i : Nat) (r : Rs) : Prop where
 upg : Upg g w0 w
 st : (∃ j, i ≤ j ∧ j ≤ T.size ∧ RB w g T j 0 0 ∧ Run T.data.toList (.blanks d j) r) ∨ (∃ (j p c : Nat), r = .error (p, c) ∧ c ≠ 0 ∧ RB w g T j p c)
def muB (T : ByteArray) (w : World) (g : Nat) : Nat := if errOf w g = 0 then T.size - atOf w g + 1 else 0
set_option maxRecDepth 8000 in
theorem blanks_err {w : World} {g i : Nat} {p c : Int} {T : ByteArray} (R : RB w g T i p c) (hc : c ≠ 0) (d : Int) :
 Calls Tryz.prog 12 #[.pointer (some ⟨g, 0, none⟩), .int .i64 d] w fun x w' => x = .returned (.tuple #[]) ∧ w' = w := by
 have C := R.out.cells
 have hz : (c != 0) = true := by simpa using hc
 go_enter Tryz.func12, Tryz.ntmps12
 go_wp2
 go_step3
 go_wp2
 go_step3
 go_wp2
 rw [Exit.noGoto_ret]
 refine bodyPost_ret (results_none rfl _ _ _) rfl ?_
 exact ⟨rfl, rfl⟩
end Go.Proofs.YtdapbegadhcpcaaGreatDoor
