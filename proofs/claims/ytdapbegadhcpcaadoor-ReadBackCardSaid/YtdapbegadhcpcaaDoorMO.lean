import Derived.Test.YtdapbegadhcpcaaDoorMN
import Derived.Test.YtdapbegadhcpcaaDoorMG
import Derived.Test.YtdapbegadhcpcaaDoorMF
import Derived.Test.YtdapbegadhcpcaaDoorRead14
/- Data: their texts. -/
namespace Go.Proofs.YtdapbegadhcpcaaDoor
open Go.RowKit Go.Proofs.YtdapbegadhcpcaaDoorL Go.Proofs.YtdapbegadhcpcaaDoorM
set_option linter.unusedVariables false
set_option linter.unusedSimpArgs false
mutual
/-- the text of a datum: written, or shown -/
def showL : Bool → LD → List UInt8
  | wr, .mk kind n neg _ _ mag text _ _ items _ _ rest =>
    if kind = 1 then numT neg (valB 4294967296 mag)
    else if kind = 2 then (if n = 1 then [35, 116] else [35, 102])
    else if kind = 3 then (if wr then charL n else [UInt8.ofNat (n % 256).toNat])
    else if kind = 4 then (if wr then textL text else text)
    else if kind = 5 then text
    else if kind = 6 then
      (if rest.length = 0 then [40] ++ (Lib.join (showAll wr items) [32] ++ [41])
       else if items.length = 0 then (showAll wr rest).headD []
       else [40] ++ (Lib.join (showAll wr items) [32] ++ ([32, 46, 32] ++ ((showAll wr rest).headD [] ++ [41]))))
    else if kind = 7 then [35, 40] ++ (Lib.join (showAll wr items) [32] ++ [41])
    else if kind = 9 then [35, 60, 112, 114, 111, 99, 101, 100, 117, 114, 101, 62]
    else if kind = 10 then ([35, 60, 99, 111, 110, 100, 105, 116, 105, 111, 110, 32] ++ text) ++ (((showAll true items).map fun x => 32 :: x).flatten ++ [62])
    else [35, 60, 118, 111, 105, 100, 62]
def showAll : Bool → List LD → List (List UInt8)
  | _, [] => []
  | wr, x :: l => showL wr x :: showAll wr l
end
theorem showAll_map (wr : Bool) : ∀ l, showAll wr l = l.map (showL wr)
  | [] => by simp [showAll]
  | x :: l => by rw [showAll, showAll_map wr l]; rfl
mutual
/-- how great it is -/
def wtD : LD → Nat
  | .mk _ _ _ _ _ mag text _ _ items _ _ rest => 1 + mag.length + text.length + wtAll items + wtAll rest
def wtAll : List LD → Nat
  | [] => 0
  | x :: l => wtD x + wtAll l
end
theorem wt_mem {x : LD} : ∀ {l : List LD}, x ∈ l → wtD x ≤ wtAll l
  | y :: l, h => by
    rw [wtAll]
    rcases List.mem_cons.1 h with rfl | h
    · omega
    · have := wt_mem h; omega
theorem wtD_pos (x : LD) : 1 ≤ wtD x := by cases x; rw [wtD]; omega
theorem wt_len : ∀ l : List LD, l.length ≤ wtAll l
  | [] => by simp
  | x :: l => by
    have := wt_len l
    have := wtD_pos x
    rw [wtAll, List.length_cons]; omega
theorem tail_len (sep : List UInt8) : ∀ r : List (List UInt8), (Lib.joinTail sep r).length = r.flatten.length + sep.length * r.length
  | [] => by simp [Lib.joinTail]
  | x :: r => by
    have := tail_len sep r
    simp only [Lib.joinTail, List.map_cons, List.flatten_cons, List.length_append, List.length_cons] at *
    rw [Nat.mul_add, Nat.mul_one]
    omega
theorem join_len (sep : List UInt8) (l : List (List UInt8)) : (Lib.join l sep).length ≤ l.flatten.length + sep.length * l.length := by
  cases l with
  | nil => simp [Lib.join_nil]
  | cons x r =>
    rw [Lib.join_cons, List.length_append, tail_len, List.flatten_cons, List.length_append, List.length_cons, Nat.mul_add, Nat.mul_one]
    omega
theorem numT_len (neg : Bool) (l : List Nat) (h : ∀ x ∈ l, x < 4294967296) : (numT neg (valB 4294967296 l)).length ≤ 18 * l.length + 2 := by
  have h1 : (Lib.decDigits (valB 4294967296 l)).length ≤ 18 * l.length + 1 := by
    rcases Nat.eq_zero_or_pos (valB 4294967296 l) with h0 | h0
    · rw [h0, Lib.decDigits_one (by omega)]; simp
    · rw [← joinL_dec _ h0]
      refine Nat.le_trans (joinL_len _ (fun x hx => ?_)) ?_
      · obtain ⟨r, hr, rfl⟩ := List.mem_map.1 hx
        exact dec_len9 r (digB_lt 1000000000 (by omega) _ r hr)
      · rw [List.length_map]
        have := dig9_len l h
        omega
  rw [numT]
  split
  · simp; omega
  · omega
theorem charL_len (n : Int) : (charL n).length ≤ 9 := by
  unfold charL; repeat' split
  all_goals simp [hex2]
theorem textL_len (l : List UInt8) : (textL l).length ≤ 5 * l.length + 2 := by
  have := bytesN_len l
  simp only [textL, List.length_append, List.length_singleton] at *
  omega
theorem row_len2 {l : List LD} {wr : Bool} (h : ∀ x ∈ l, (showL wr x).length + 1 ≤ 20 * wtD x) : (Lib.join (showAll wr l) [32]).length ≤ 20 * wtAll l := by
  have h1 := join_len [32] (showAll wr l)
  have h3 : (showAll wr l).length = l.length := by rw [showAll_map, List.length_map]
  have h2 : (showAll wr l).flatten.length + l.length ≤ 20 * wtAll l := by
    clear h1 h3
    induction l with
    | nil => simp [showAll, wtAll]
    | cons x l ih =>
      have i1 := ih (fun y hy => h y (List.mem_cons_of_mem _ hy))
      have i2 := h x (List.mem_cons_self ..)
      simp only [showAll, wtAll, List.flatten_cons, List.length_append, List.length_cons]
      omega
  simp only [List.length_singleton, Nat.one_mul] at h1
  omega
theorem head_len {l : List LD} {wr : Bool} (h : ∀ x ∈ l, (showL wr x).length + 1 ≤ 20 * wtD x) : ((showAll wr l).headD []).length ≤ 20 * wtAll l := by
  cases l with
  | nil => simp [showAll]
  | cons x l =>
    have := h x (List.mem_cons_self ..)
    simp only [showAll, List.headD_cons, wtAll]
    omega
theorem conds_len {l : List LD} (h : ∀ x ∈ l, (showL true x).length + 1 ≤ 20 * wtD x) : ((showAll true l).map fun x => 32 :: x).flatten.length ≤ 20 * wtAll l := by
  induction l with
  | nil => simp [showAll, wtAll]
  | cons x l ih =>
    have i1 := ih (fun y hy => h y (List.mem_cons_of_mem _ hy))
    have i2 := h x (List.mem_cons_self ..)
    simp only [showAll, wtAll, List.map_cons, List.flatten_cons, List.length_append, List.length_cons]
    omega
/-- a text is at most so long -/
theorem show_len {w : World} {x : LD} (h : Good w x) : ∀ wr, (showL wr x).length + 1 ≤ 20 * wtD x := by
  induction h with
  | @mk kind n neg A c mag text Ai ci items Ar cr rest hn1 hn2 lim ri li ni rr lr nr gi gr ihi ihr =>
    intro wr
    have a1 := row_len2 (l := items) (wr := wr) (fun x hx => ihi x hx wr)
    have a2 := head_len (l := rest) (wr := wr) (fun x hx => ihr x hx wr)
    have a3 := conds_len (l := items) (fun x hx => ihi x hx true)
    have a4 := numT_len neg mag lim.lt
    have a5 := charL_len n
    have a6 := textL_len text
    rw [showL, wtD]
    repeat' split
    all_goals ((try simp only [List.length_append, List.length_cons, List.length_nil]); omega)
mutual
theorem wtD_er : ∀ y : LD, wtD y = wtT (erD y)
  | .mk kind n neg A c mag text Ai ci items Ar cr rest => by rw [wtD, erD, wtT, wtAll_er items, wtAll_er rest]
theorem wtAll_er : ∀ l : List LD, wtAll l = wtTs (erAll l)
  | [] => by simp [wtAll, erAll, wtTs]
  | x :: l => by rw [wtAll, erAll, wtTs, wtD_er x, wtAll_er l]
end
theorem charL_w : ∀ k : Fin 256, charL (k.val : Int) = 35 :: 92 :: wChr k.val := by decide +kernel
theorem byteN_w : ∀ k : Fin 256, byteN k.val = wByte k.val := by decide +kernel
theorem textL_w (t : List UInt8) : textL t = 34 :: (wBody t ++ [34]) := by
  have h : bytesN t = t.map fun b => wByte b.toNat := List.map_congr_left fun b _ => byteN_w ⟨b.toNat, b.toNat_lt⟩
  rw [textL, h, wBody]; rfl
theorem join_w : ∀ l : List (List UInt8), Lib.join l [32] = wJoin l
  | [] => by rw [Lib.join_nil]; rfl
  | x :: r => by rw [Lib.join_cons, wJoin, wTail, Lib.joinTail]; rfl
theorem showAll_er {l : List DV} (h : ∀ x ∈ l, ∀ y, erD y = x → showL true y = wV x) : ∀ m : List LD, erAll m = l → showAll true m = wAll l := by
  induction l with
  | nil => intro m hm; cases m with
    | nil => rfl
    | cons y m => simp [erAll] at hm
  | cons x l ih => intro m hm; cases m with
    | nil => simp [erAll] at hm
    | cons y m =>
      simp only [erAll, List.cons.injEq] at hm
      rw [showAll, wAll, h x (List.mem_cons_self ..) y hm.1, ih (fun z hz => h z (List.mem_cons_of_mem _ hz)) m hm.2]
/-- the text of what a reader made -/
theorem showL_er {n : Nat} {x : DV} (h : Rdb n x) : ∀ y, erD y = x → showL true y = wV x := by
  induction h with
  | int z =>
    rintro ⟨kind, n, neg, A, c, mag, text, Ai, ci, items, Ar, cr, rest⟩ hy
    simp only [erD, dInt, DV.mk.injEq] at hy
    obtain ⟨rfl, rfl, rfl, rfl, rfl, h6, h7⟩ := hy
    rw [wV_int, showL, if_pos rfl, digB_val _ (by omega)]; rfl
  | bool b =>
    rintro ⟨kind, n, neg, A, c, mag, text, Ai, ci, items, Ar, cr, rest⟩ hy
    simp only [erD, dBool, DV.mk.injEq] at hy
    obtain ⟨rfl, rfl, rfl, rfl, rfl, h6, h7⟩ := hy
    rw [wV_bool, showL]; cases b <;> rfl
  | char k hk =>
    rintro ⟨kind, n, neg, A, c, mag, text, Ai, ci, items, Ar, cr, rest⟩ hy
    simp only [erD, dChar, DV.mk.injEq] at hy
    obtain ⟨rfl, rfl, rfl, rfl, rfl, h6, h7⟩ := hy
    rw [wV_char, showL, if_neg (by decide), if_neg (by decide), if_pos rfl, if_pos rfl]; exact charL_w ⟨k, hk⟩
  | str t =>
    rintro ⟨kind, n, neg, A, c, mag, text, Ai, ci, items, Ar, cr, rest⟩ hy
    simp only [erD, dStr, DV.mk.injEq] at hy
    obtain ⟨rfl, rfl, rfl, rfl, rfl, h6, h7⟩ := hy
    rw [wV_str, showL, if_neg (by decide), if_neg (by decide), if_neg (by decide), if_pos rfl, if_pos rfl]; exact textL_w _
  | sym t ht =>
    rintro ⟨kind, n, neg, A, c, mag, text, Ai, ci, items, Ar, cr, rest⟩ hy
    simp only [erD, dSym, DV.mk.injEq] at hy
    obtain ⟨rfl, rfl, rfl, rfl, rfl, h6, h7⟩ := hy
    rw [wV_sym, showL, if_neg (by decide), if_neg (by decide), if_neg (by decide), if_neg (by decide), if_pos rfl]
  | list l hl ih =>
    rintro ⟨kind, n, neg, A, c, mag, text, Ai, ci, items, Ar, cr, rest⟩ hy
    simp only [erD, dList, DV.mk.injEq] at hy
    obtain ⟨rfl, rfl, rfl, rfl, rfl, h6, h7⟩ := hy
    have hr : rest.length = 0 := by rw [← erAll_len, h7]; rfl
    rw [wV_list, showL, if_neg (by decide), if_neg (by decide), if_neg (by decide), if_neg (by decide), if_neg (by decide), if_pos rfl, if_pos hr, showAll_er ih items h6, join_w]; rfl
  | dot l x h0 hl hx hk ih ihx =>
    rintro ⟨kind, n, neg, A, c, mag, text, Ai, ci, items, Ar, cr, rest⟩ hy
    simp only [erD, dList, DV.mk.injEq] at hy
    obtain ⟨rfl, rfl, rfl, rfl, rfl, h6, h7⟩ := hy
    have hr : ¬ rest.length = 0 := by rw [← erAll_len, h7]; simp
    have hi : ¬ items.length = 0 := by rw [← erAll_len, h6]; simpa using h0
    have hx : showAll true rest = wAll [x] := showAll_er (fun z hz => by rw [List.mem_singleton.1 hz]; exact ihx) rest h7
    rw [wV_dot, showL, if_neg (by decide), if_neg (by decide), if_neg (by decide), if_neg (by decide), if_neg (by decide), if_pos rfl, if_neg hr, if_neg hi, showAll_er ih items h6, join_w, hx]; rfl
  | vec l hl ih =>
    rintro ⟨kind, n, neg, A, c, mag, text, Ai, ci, items, Ar, cr, rest⟩ hy
    simp only [erD, dVec, DV.mk.injEq] at hy
    obtain ⟨rfl, rfl, rfl, rfl, rfl, h6, h7⟩ := hy
    rw [wV_vec, showL, if_neg (by decide), if_neg (by decide), if_neg (by decide), if_neg (by decide), if_neg (by decide), if_neg (by decide), if_pos rfl, showAll_er ih items h6, join_w]; rfl
end Go.Proofs.YtdapbegadhcpcaaDoor
/- show.list. -/
namespace Go.Proofs.YtdapbegadhcpcaaDoor
open Go.RowKit Go.Proofs.YtdapbegadhcpcaaDoorL Go.Proofs.YtdapbegadhcpcaaDoorM
set_option linter.unusedVariables false
set_option linter.unusedSimpArgs false
/-- what a list's text is -/
def listL (q : Bool) (items rest : List LD) : List UInt8 :=
  if rest.length = 0 then [40] ++ (Lib.join (showAll q items) [32] ++ [41])
  else if items.length = 0 then (showAll q rest).headD []
  else [40] ++ (Lib.join (showAll q items) [32] ++ ([32, 46, 32] ++ ((showAll q rest).headD [] ++ [41])))
end Go.Proofs.YtdapbegadhcpcaaDoor
/- tandemref06.many. -/
namespace Go.Proofs.YtdapbegadhcpcaaDoor
open Go.RowKit Go.Proofs.YtdapbegadhcpcaaDoorL Go.Proofs.YtdapbegadhcpcaaDoorM
set_option linter.unusedVariables false
set_option linter.unusedSimpArgs false
theorem join_snoc (l : List (List UInt8)) (x sep : List UInt8) (h : l ≠ []) : Lib.join (l ++ [x]) sep = Lib.join l sep ++ (sep ++ x) := by
  cases l with
  | nil => exact absurd rfl h
  | cons y r =>
    rw [List.cons_append, Lib.join_cons, Lib.join_cons]
    simp [Lib.joinTail]
/-- the call tandemref06.text of a datum answers its text -/
def RefOK (w : World) (x : LD) : Prop := ∀ q w', Below w.heap.size w w' → Calls Tryd.prog 17 #[.agg (encD x).toArray, .bool q] w' (Gives w' fun v _ => v = .string ⟨(showL (!q) x).toArray⟩)
set_option maxRecDepth 100000 in
set_option maxHeartbeats 1000000 in
theorem many_any (w : World) (l : List LD) (q : Bool) (A : Option Addr) (c : Nat) (hr : Rd encD 7 w A l) (hc : l.length ≤ c) (hx : ∀ x ∈ l, RefOK w x) (hm : l.length ≤ 1099511627776) (hlen : ∀ k, (Lib.join (showAll (!q) (l.take k)) [32]).length ≤ 35184372088832)
    (w' : World) (hw : Below w.heap.size w w') : Calls Tryd.prog 31 #[.slice A l.length c, .bool q] w' (Gives w' fun v _ => v = .string ⟨(Lib.join (showAll (!q) l) [32]).toArray⟩) := by
  have HX := As.mk hx
  have HL := As.mk hlen
  clear hx hlen
  go_enter Tryd.func31, Tryd.ntmps31
  go_wp2
  go_loopw [5, 6] (fun v u wq => ∃ k : Nat, ∃ bs : List Nat, k ≤ l.length ∧ bs.length ≤ 35184372088832 ∧ u = .int .i64 (k : Int) ∧ As (bs = (Lib.join (showAll (!q) (l.take k)) [32]).map UInt8.toNat) ∧ Below w'.heap.size w' wq ∧ Ow encB 1 5 w'.heap.size wq v bs) (fun v u _ => l.length - (intOf u).toNat)
  case atStart => exact ⟨0, [], by omega, by simp, rfl, ⟨by simp [showAll, Lib.join_nil]⟩, Below.refl _ _, Ow.nil _ _ _ _ _⟩
  case round =>
    obtain ⟨k, bs, hk, hbl, rfl, hbs, hb, ho⟩ := hrel
    have HB := As.mk (show (bs.length + 1) * 1 ≤ 140737488355328 from by omega)
    have HM := As.mk (show bs.length + 1 ≤ maxLen from by simp only [maxLen]; omega)
    have hww := bthen hw hb
    by_cases h : k < l.length
    · obtain ⟨b, off, rfl⟩ := hr.get (ne_nil_of_lt h)
      have hrk := (hr.below hww).cell k h
      have hsx := fun w' hb => HX.out _ (List.getElem_mem h) q w' hb
      have hall : showAll (!q) (l.take (k + 1)) = showAll (!q) (l.take k) ++ [showL (!q) l[k]] := by
        rw [showAll_map, showAll_map, List.take_succ_eq_append_getElem h, List.map_append]; rfl
      have hl1 := HL.out (k + 1)
      have hl0 := HL.out k
      obtain ⟨x, hxe⟩ : ∃ x, x = l[k] := ⟨_, rfl⟩
      rw [← hxe] at hrk hsx hall
      obtain ⟨T, hT⟩ : ∃ T, T = showL (!q) x := ⟨_, rfl⟩
      rw [← hT] at hall hsx
      have hTl : T.length ≤ 35184372088832 := by
        rw [hall] at hl1
        by_cases hn : showAll (!q) (l.take k) = []
        · rw [hn, List.nil_append, Lib.join_one] at hl1; exact hl1
        · rw [join_snoc _ _ _ hn, List.length_append, List.length_append] at hl1; omega
      have hlk : (showAll (!q) (l.take k)).length = k := by rw [showAll_map, List.length_map, List.length_take]; omega
      have hxe2 := As.mk hxe.symm
      clear hxe hT
      obtain ⟨kind, n, neg, mA, mc, mag, text, Ai, ci, items, Ar, cr, rest⟩ := x
      simp only [encD] at hsx
      have HS := As.mk hsx
      clear hsx
      have c0 : wr.cell? ⟨b, off + k * 7, none⟩ = some (.int .i64 kind) := hrk 0 _ rfl
      have c1 := hrk 1 _ rfl
      have c2 := hrk 2 _ rfl
      have c3 := hrk 3 _ rfl
      have c4 := hrk 4 _ rfl
      have c5 := hrk 5 _ rfl
      have c6 := hrk 6 _ rfl
      have Hrk : As (∀ W, Below w.heap.size w W → W.cell? ⟨b, off + k * 7, none⟩ = some (.int .i64 kind) ∧ W.cell? ⟨b, off + k * 7 + 1, none⟩ = some (.int .i64 n) ∧ W.cell? ⟨b, off + k * 7 + 2, none⟩ = some (.bool neg) ∧ W.cell? ⟨b, off + k * 7 + 3, none⟩ = some (.slice mA mag.length mc) ∧ W.cell? ⟨b, off + k * 7 + 4, none⟩ = some (.string ⟨text.toArray⟩) ∧ W.cell? ⟨b, off + k * 7 + 5, none⟩ = some (.slice Ai items.length ci) ∧ W.cell? ⟨b, off + k * 7 + 6, none⟩ = some (.slice Ar rest.length cr)) := ⟨fun W hb => by
        have hk2 := (hr.below hb).cell k h
        rw [hxe2.out] at hk2
        exact ⟨hk2 0 _ rfl, hk2 1 _ rfl, hk2 2 _ rfl, hk2 3 _ rfl, hk2 4 _ rfl, hk2 5 _ rfl, hk2 6 _ rfl⟩⟩
      clear hrk
      by_cases k0 : k = 0
      · have hst : As (bs ++ T.map UInt8.toNat = (Lib.join (showAll (!q) (l.take (k + 1))) [32]).map UInt8.toNat) := ⟨by
          rw [hbs.out, hall, k0, List.take_zero]; simp [showAll, Lib.join_nil, Lib.join_one]⟩
        have hbz : As (bs = []) := ⟨by rw [hbs.out, k0, List.take_zero]; simp [showAll, Lib.join_nil]⟩
        have z0 : decide ((0 : Int) < (k : Int)) = false := by simp; omega
        have z1 : decide (0 < k) = false := by simp; omega
        clear hall hl1 hl0 hlk k0
        go_wp2_with (first
          | (go_at_call 17; (with_reducible refine (HS.out _ hww).mono ?_); rintro e w4 ⟨v4, rfl, rfl, hb4⟩; replace ho := ho.below hb4; have hbw4 := bthen hb hb4)
          | ((with_reducible refine g_dst 25 ?_); go_must (refine ev_append_str 25 Tryd.underlying60 Tryd.underlying9 infoB rfl ho (y := T) rfl (by omega) hbw4.size ?_); intro v5 w5 ho5 hg5; have hbw5 := ho.grown hbw4 hg5 (Nat.le_refl _) hbw4.size))
        go_roundw
        case rel => exact ⟨k + 1, bs ++ T.map UInt8.toNat, by omega, by rw [hbz.out]; simpa using hTl, by go_num, ⟨hst.out⟩, hbw5, ho5⟩
        case measure => simp [intOf]; omega
      · have hne : showAll (!q) (l.take k) ≠ [] := fun e => by rw [e] at hlk; exact k0 hlk.symm
        have hst : As ((bs ++ [32]) ++ T.map UInt8.toNat = (Lib.join (showAll (!q) (l.take (k + 1))) [32]).map UInt8.toNat) := ⟨by
          rw [hbs.out, hall, join_snoc _ _ _ hne]; simp⟩
        have hl2 : As (((bs ++ [32]) ++ T.map UInt8.toNat).length ≤ 35184372088832) := ⟨by rw [hst.out, List.length_map]; exact hl1⟩
        have z0 : decide ((0 : Int) < (k : Int)) = true := by simp; omega
        have z1 : decide (0 < k) = true := by simp; omega
        clear hall hl1 hl0 hlk k0 hne
        go_wp2_with (first
          | ((with_reducible refine g_dst 16 ?_); go_must (refine ev_lit (v := fun g => .slice (some ⟨g, 0, none⟩) 1 1) 16 rfl (cs := [valB8 32]) (t := 5) (by go_simp; rfl) ?_); intro g2 w2 hb2 B2 hg2; replace ho := ho.below hb2; have hbw2 := bthen hb hb2; clear hb2)
          | ((with_reducible refine g_dst 17 ?_); go_must (refine ev_append 17 rfl Tryd.underlying60 infoB rfl (by decide) rfl ho rfl rfl (B2.rdm (l := [32]) encB_one) lenB oneB (fun h => by cases h) HB.out HM.out hbw2.size ?_); intro v3 w3 ho3 hg3; have hbw3 := ho.grown hbw2 hg3 (Nat.le_refl _) hbw2.size; obtain ⟨d0, d1, d2, d3, d4, d5, d6⟩ := Hrk.out _ (bthen hw hbw3))
          | (go_at_call 17; (with_reducible refine (HS.out _ (bthen hw hbw3)).mono ?_); rintro e w4 ⟨v4, rfl, rfl, hb4⟩; replace ho3 := ho3.below hb4; have hbw4 := bthen hbw3 hb4)
          | ((with_reducible refine g_dst 25 ?_); go_must (refine ev_append_str 25 Tryd.underlying60 Tryd.underlying9 infoB rfl ho3 (y := T) rfl (by rw [List.length_append, List.length_singleton]; omega) hbw4.size ?_); intro v5 w5 ho5 hg5; have hbw5 := ho3.grown hbw4 hg5 (Nat.le_refl _) hbw4.size))
        go_roundw
        case rel => exact ⟨k + 1, (bs ++ [32]) ++ T.map UInt8.toNat, by omega, hl2.out, by go_num, ⟨hst.out⟩, hbw5, ho5⟩
        case measure => simp [intOf]; omega
    · have hf : As (bs = (Lib.join (showAll (!q) l) [32]).map UInt8.toNat) := ⟨by rw [hbs.out, List.take_of_length_le (by omega)]⟩
      obtain ⟨T, hT⟩ : ∃ T, T = Lib.join (showAll (!q) l) [32] := ⟨_, rfl⟩
      have hs : As (sB bs = ⟨T.toArray⟩) := ⟨by rw [hf.out, sB_nat, hT]⟩
      have HT := As.mk hT
      clear hT
      by_cases hz : bs.length = 0
      · have hbz : bs = [] := List.eq_nil_of_length_eq_zero hz
        subst hbz
        rcases ho.own.2 with ⟨rfl, _⟩ | ⟨g, cap, cur, rfl, _⟩
        · have hcv : (convert 60 9 (.slice none 0 0)).run Tryd.prog wr = .ok (.string ⟨T.toArray⟩) wr := by
            rw [← hs.out]
            exact run_convert_bytes_nil (P := Tryd.prog) wr 60 5 Tryd.underlying60 Tryd.underlying5 0 0 9 Tryd.underlying9
          go_wp2
          go_ret
          exact ⟨_, rfl, by rw [← HT.out]; rfl, hb⟩
        · have hcv : (convert 60 9 (.slice (some ⟨g, 0, none⟩) 0 cap)).run Tryd.prog wr = .ok (.string ⟨T.toArray⟩) wr := by
            rw [← hs.out]
            exact conv_bytes (P := Tryd.prog) (src := 60) (dst := 9) (w := wr) (cap := cap) (l := []) Tryd.underlying60 Tryd.underlying5 Tryd.underlying9 (Rd.nil _ _ _ _)
          simp only [List.length_nil] at *
          go_wp2
          go_ret
          exact ⟨_, rfl, by rw [← HT.out]; rfl, hb⟩
      · obtain ⟨A3, c3, rfl, h31, h32⟩ := ho.form
        obtain ⟨b3, o3, rfl⟩ := (ho.rd lenB).get (fun e => hz (by rw [e]; rfl))
        have hcv := conv_bytes (P := Tryd.prog) (src := 60) (dst := 9) (w := wr) (cap := c3) Tryd.underlying60 Tryd.underlying5 Tryd.underlying9 (ho.rd lenB)
        rw [hs.out] at hcv
        go_wp2
        go_ret
        exact ⟨_, rfl, by rw [← HT.out]; rfl, hb⟩
end Go.Proofs.YtdapbegadhcpcaaDoor
/- tandemref06.text: a datum's text. -/
namespace Go.Proofs.YtdapbegadhcpcaaDoor
open Go.RowKit Go.Proofs.YtdapbegadhcpcaaDoorL Go.Proofs.YtdapbegadhcpcaaDoorM
set_option linter.unusedVariables false
set_option linter.unusedSimpArgs false
theorem addL {P : Program} (w : World) (x y z : List UInt8) (h : z = x ++ y) (hl : z.length ≤ 9223372036854775807) : (Op.stringOp .add ⟨x.toArray⟩ ⟨y.toArray⟩).run P w = .ok (.string ⟨z.toArray⟩) w := by
  rw [h]; exact run_add_lists w x y (by rw [h, List.length_append] at hl; exact hl)
set_option maxRecDepth 8000 in
set_option maxHeartbeats 4000000 in
theorem rtext_ok (w : World) (x : LD) (h : Good w x) : wtD x ≤ 1073741824 → RefOK w x := by
  induction h with
  | @mk kind n neg A c mag text Ai ci items Ar cr rest hn1 hn2 lim ri li ni rr lr nr gi gr ihi ihr =>
    intro hwt q w' hw
    have hself := show_len (Good.mk (kind := kind) (neg := neg) (text := text) hn1 hn2 lim ri li ni rr lr nr gi gr)
    have hrl := row_len2 (l := items) (wr := !q) (fun y hy => show_len (gi y hy) (!q))
    have hhl := head_len (l := rest) (wr := !q) (fun y hy => show_len (gr y hy) (!q))
    have hcl := fun k => conds_len (l := items.take k) (fun y hy => show_len (gi y (List.mem_of_mem_take hy)) true)
    rw [wtD] at hwt hself
    have hil := wt_len items
    have htk : ∀ k, wtAll (items.take k) ≤ wtAll items := fun k => by
      have : ∀ (l : List LD) k, wtAll (l.take k) ≤ wtAll l := fun l => by
        induction l with
        | nil => intro k; simp [wtAll]
        | cons y l ih => intro k; cases k with
          | zero => simp [wtAll]
          | succ k => rw [List.take_succ_cons, wtAll, wtAll]; have := ih k; omega
      exact this items k
    have hiw : ∀ y ∈ items, RefOK w y := fun y hy => ihi y hy (by have := wt_mem hy; omega)
    have hrw : ∀ y ∈ rest, RefOK w y := fun y hy => ihr y hy (by have := wt_mem hy; omega)
    have HI := As.mk hiw
    have HR := As.mk hrw
    have hjl : ∀ k, (Lib.join (showAll (!q) (items.take k)) [32]).length ≤ 20 * wtAll (items.take k) := fun k => row_len2 (l := items.take k) (wr := !q) (fun y hy => show_len (gi y (List.mem_of_mem_take hy)) (!q))
    have Hjl : As (∀ k, (Lib.join (showAll (!q) (items.take k)) [32]).length ≤ 35184372088832) := ⟨fun k => by have := hjl k; have := htk k; omega⟩
    have Hhl := As.mk (show ((showAll (!q) rest).headD []).length ≤ 35184372088832 by omega)
    have Hrl := As.mk (show (Lib.join (showAll (!q) items) [32]).length ≤ 35184372088832 by omega)
    have Hcl : As (∀ k, ((showAll true (items.take k)).map fun x => 32 :: x).flatten.length ≤ 35184372088832) := ⟨fun k => by have := hcl k; have := htk k; omega⟩
    have htx : text.length ≤ 1099511627776 := by omega
    have him : items.length ≤ 1099511627776 := by omega
    clear ihi ihr hiw hrw hself hjl hrl hhl hcl htk gi gr hwt hil
    simp only [encD]
    have hsl : As (showL (!q) (.mk kind n neg A c mag text Ai ci items Ar cr rest) = showL (!q) (.mk kind n neg A c mag text Ai ci items Ar cr rest)) := ⟨rfl⟩
    by_cases k1 : kind = 1
    · subst k1
      have hL : As (showL (!q) (.mk 1 n neg A c mag text Ai ci items Ar cr rest) = numT neg (valB 4294967296 mag)) := ⟨by rw [showL, if_pos rfl]⟩
      clear hsl
      go_enter Tryd.func17, Tryd.ntmps17
      go_wp2_with (first
        | ((with_reducible refine g_dst 2 ?_); go_must (refine ev_box 2 rfl (cs := [.int .i64 1, .int .i64 n, .bool neg, .slice A mag.length c, .string ⟨text.toArray⟩, .slice Ai items.length ci, .slice Ar rest.length cr]) (by rfl) ?_); intro g w1 hb1 B1 hg1; have C1 := B1.cells)
        | (go_at_call 28; (with_reducible refine (rnumText_any mag neg A c _ (lim.below (bthen hw hb1))).mono ?_); rintro e w2 ⟨v2, rfl, rfl, hb2⟩))
      go_ret
      exact ⟨_, rfl, by rw [hL.out]; rfl, bthen hb1 hb2⟩
    by_cases k2 : kind = 2
    · subst k2
      have hL : As (showL (!q) (.mk 2 n neg A c mag text Ai ci items Ar cr rest) = (if n = 1 then [35, 116] else [35, 102])) := ⟨by rw [showL, if_neg (by decide), if_pos rfl]⟩
      clear hsl k1
      by_cases n1 : n = 1
      · subst n1
        go_enter Tryd.func17, Tryd.ntmps17
        go_wp2_with ((with_reducible refine g_dst 2 ?_); go_must (refine ev_box 2 rfl (cs := [.int .i64 2, .int .i64 1, .bool neg, .slice A mag.length c, .string ⟨text.toArray⟩, .slice Ai items.length ci, .slice Ar rest.length cr]) (by rfl) ?_); intro g w1 hb1 B1 hg1; have C1 := B1.cells)
        go_ret
        exact ⟨_, rfl, by rw [hL.out]; rfl, hb1⟩
      · have z : ((n : Int) == 1) = false := by simpa using n1
        have hL2 : As (showL (!q) (.mk 2 n neg A c mag text Ai ci items Ar cr rest) = [35, 102]) := ⟨by rw [hL.out, if_neg n1]⟩
        clear n1
        go_enter Tryd.func17, Tryd.ntmps17
        go_wp2_with ((with_reducible refine g_dst 2 ?_); go_must (refine ev_box 2 rfl (cs := [.int .i64 2, .int .i64 n, .bool neg, .slice A mag.length c, .string ⟨text.toArray⟩, .slice Ai items.length ci, .slice Ar rest.length cr]) (by rfl) ?_); intro g w1 hb1 B1 hg1; have C1 := B1.cells)
        go_ret
        exact ⟨_, rfl, by rw [hL2.out]; rfl, hb1⟩
    by_cases k3 : kind = 3
    · subst k3
      have hL : As (showL (!q) (.mk 3 n neg A c mag text Ai ci items Ar cr rest) = (if !q then charL n else [UInt8.ofNat (n % 256).toNat])) := ⟨by rw [showL, if_neg (by decide), if_neg (by decide), if_pos rfl]⟩
      clear hsl k1 k2
      cases q with
      | false =>
        go_enter Tryd.func17, Tryd.ntmps17
        go_wp2_with (first
          | ((with_reducible refine g_dst 2 ?_); go_must (refine ev_box 2 rfl (cs := [.int .i64 3, .int .i64 n, .bool neg, .slice A mag.length c, .string ⟨text.toArray⟩, .slice Ai items.length ci, .slice Ar rest.length cr]) (by rfl) ?_); intro g w1 hb1 B1 hg1; have C1 := B1.cells)
          | (go_at_call 29; (with_reducible refine (rchar_any n _ hn1 hn2).mono ?_); rintro e w2 ⟨v2, rfl, rfl, hb2⟩))
        go_ret
        exact ⟨_, rfl, by rw [hL.out]; rfl, bthen hb1 hb2⟩
      | true =>
        obtain ⟨k, hk⟩ : ∃ k : Nat, k = (n % 256).toNat := ⟨_, rfl⟩
        have hk2 : k < 256 := by omega
        have ek : IntKind.u8.wrap n = (k : Int) := by rw [IntKind.wrap_u8]; omega
        obtain ⟨y, hy⟩ : ∃ y, y = [UInt8.ofNat k] := ⟨_, rfl⟩
        have Hy := As.mk hy
        have hL2 : As (showL (!true) (.mk 3 n neg A c mag text Ai ci items Ar cr rest) = y) := ⟨by rw [hL.out, hy, hk]; rfl⟩
        clear hk hy
        go_enter Tryd.func17, Tryd.ntmps17
        go_wp2_with (first
          | ((with_reducible refine g_dst 2 ?_); go_must (refine ev_box 2 rfl (cs := [.int .i64 3, .int .i64 n, .bool neg, .slice A mag.length c, .string ⟨text.toArray⟩, .slice Ai items.length ci, .slice Ar rest.length cr]) (by rfl) ?_); intro g w1 hb1 B1 hg1; have C1 := B1.cells)
          | ((with_reducible refine g_dst 25 ?_); go_must (refine ev_lit (v := fun g => .slice (some ⟨g, 0, none⟩) 1 1) 25 rfl (cs := [valB8 k]) (t := 5) (by go_simp; rfl) ?_); intro g2 w2 hb2 B2 hg2; have hcv := conv_one hk2 B2; rw [← Hy.out] at hcv))
        go_ret
        exact ⟨_, rfl, by rw [hL2.out]; rfl, bthen hb1 hb2⟩
    by_cases k4 : kind = 4
    · subst k4
      have hL : As (showL (!q) (.mk 4 n neg A c mag text Ai ci items Ar cr rest) = (if !q then textL text else text)) := ⟨by rw [showL, if_neg (by decide), if_neg (by decide), if_neg (by decide), if_pos rfl]⟩
      clear hsl k1 k2 k3
      cases q with
      | false =>
        go_enter Tryd.func17, Tryd.ntmps17
        go_wp2_with (first
          | ((with_reducible refine g_dst 2 ?_); go_must (refine ev_box 2 rfl (cs := [.int .i64 4, .int .i64 n, .bool neg, .slice A mag.length c, .string ⟨text.toArray⟩, .slice Ai items.length ci, .slice Ar rest.length cr]) (by rfl) ?_); intro g w1 hb1 B1 hg1; have C1 := B1.cells)
          | (go_at_call 30; (with_reducible refine (rtext_any text _ htx).mono ?_); rintro e w2 ⟨v2, rfl, rfl, hb2⟩))
        go_ret
        exact ⟨_, rfl, by rw [hL.out]; rfl, bthen hb1 hb2⟩
      | true =>
        go_enter Tryd.func17, Tryd.ntmps17
        go_wp2_with ((with_reducible refine g_dst 2 ?_); go_must (refine ev_box 2 rfl (cs := [.int .i64 4, .int .i64 n, .bool neg, .slice A mag.length c, .string ⟨text.toArray⟩, .slice Ai items.length ci, .slice Ar rest.length cr]) (by rfl) ?_); intro g w1 hb1 B1 hg1; have C1 := B1.cells)
        go_ret
        exact ⟨_, rfl, by rw [hL.out]; rfl, hb1⟩
    by_cases k5 : kind = 5
    · subst k5
      have hL : As (showL (!q) (.mk 5 n neg A c mag text Ai ci items Ar cr rest) = text) := ⟨by rw [showL, if_neg (by decide), if_neg (by decide), if_neg (by decide), if_neg (by decide), if_pos rfl]⟩
      clear hsl k1 k2 k3 k4
      go_enter Tryd.func17, Tryd.ntmps17
      go_wp2_with ((with_reducible refine g_dst 2 ?_); go_must (refine ev_box 2 rfl (cs := [.int .i64 5, .int .i64 n, .bool neg, .slice A mag.length c, .string ⟨text.toArray⟩, .slice Ai items.length ci, .slice Ar rest.length cr]) (by rfl) ?_); intro g w1 hb1 B1 hg1; have C1 := B1.cells)
      go_ret
      exact ⟨_, rfl, by rw [hL.out]; rfl, hb1⟩
    by_cases k6 : kind = 6
    · subst k6
      have hL0 : showL (!q) (.mk 6 n neg A c mag text Ai ci items Ar cr rest) = listL (!q) items rest := by rw [showL, if_neg (by decide), if_neg (by decide), if_neg (by decide), if_neg (by decide), if_neg (by decide), if_pos rfl, listL]
      have hrow := fun w' h => many_any w items q Ai ci ri li HI.out him Hjl.out w' h
      have hTl := Hrl.out
      obtain ⟨T, hT⟩ : ∃ T, T = Lib.join (showAll (!q) items) [32] := ⟨_, rfl⟩
      simp only [← hT] at hrow hTl
      have HRow := As.mk hrow
      clear hrow
      by_cases c1 : rest.length = 0
      · have hL' : showL (!q) (.mk 6 n neg A c mag text Ai ci items Ar cr rest) = [40] ++ (T ++ [41]) := by rw [hL0, listL, if_pos c1, hT]
        obtain ⟨U1, hU1⟩ : ∃ U, U = [40] ++ T := ⟨_, rfl⟩
        obtain ⟨U2, hU2⟩ : ∃ U, U = U1 ++ [41] := ⟨_, rfl⟩
        have hU1l : U1.length ≤ 40000000000000 := by rw [hU1, List.length_append]; simp only [List.length_cons, List.length_nil]; omega
        have hU2l : U2.length ≤ 50000000000000 := by rw [hU2, List.length_append]; simp only [List.length_cons, List.length_nil]; omega
        have a1 : ∀ w : World, (Op.stringOp .add ⟨#[40]⟩ ⟨T.toArray⟩).run Tryd.prog w = .ok (.string ⟨U1.toArray⟩) w := fun w => addL w [40] T U1 hU1 (by omega)
        have a2 : ∀ w : World, (Op.stringOp .add ⟨U1.toArray⟩ ⟨#[41]⟩).run Tryd.prog w = .ok (.string ⟨U2.toArray⟩) w := fun w => addL w U1 [41] U2 hU2 (by omega)
        have hL : As (showL (!q) (.mk 6 n neg A c mag text Ai ci items Ar cr rest) = U2) := ⟨by rw [hL', hU2, hU1, List.append_assoc]⟩
        clear hT hU1 hU2 hL' hL0 hsl k1 k2 k3 k4 k5
        go_enter Tryd.func17, Tryd.ntmps17
        go_wp2_with (first
          | ((with_reducible refine g_dst 2 ?_); go_must (refine ev_box 2 rfl (cs := [.int .i64 6, .int .i64 n, .bool neg, .slice A mag.length c, .string ⟨text.toArray⟩, .slice Ai items.length ci, .slice Ar rest.length cr]) (by rfl) ?_); intro g w1 hb1 B1 hg1; have C1 := B1.cells)
          | (go_at_call 31; (with_reducible refine (HRow.out _ (bthen hw hb1)).mono ?_); rintro e w2 ⟨v2, rfl, rfl, hb2⟩; replace hb2 := bthen hb1 hb2))
        go_ret
        exact ⟨_, rfl, by rw [hL.out]; rfl, hb2⟩
      · have z1 : ((rest.length : Int) == 0) = false := by simp; intro h; exact c1 (by rw [h]; rfl)
        obtain ⟨x, r2, hx⟩ : ∃ x r2, rest = x :: r2 := by
          cases rest with
          | nil => exact absurd rfl c1
          | cons x r2 => exact ⟨x, r2, rfl⟩
        have hsx := fun w' hb => HR.out x (by rw [hx]; exact List.mem_cons_self ..) q w' hb
        obtain ⟨b, off, rfl⟩ := rr.get (by rw [hx]; simp)
        have hcl := rr.cell 0 (by omega)
        have hx0 : rest[0]'(by omega) = x := by simp [hx]
        rw [hx0] at hcl
        obtain ⟨H, hH⟩ : ∃ H, H = showL (!q) x := ⟨_, rfl⟩
        have hhead : (showAll (!q) rest).headD [] = H := by rw [hx, hH, showAll]; rfl
        have hlen2 := Hhl.out
        rw [hhead] at hlen2
        simp only [← hH] at hsx
        have Hrn := As.mk c1
        have hrl : 0 < rest.length := by omega
        have Hhead := As.mk hhead
        clear hx hx0 hH hhead
        obtain ⟨kind', n', neg', mA, mc, mag', text', Ai', ci', items', Ar', cr', rest'⟩ := x
        simp only [encD] at hsx
        have HS := As.mk hsx
        clear hsx
        have c0 : w.cell? ⟨b, off, none⟩ = some (.int .i64 kind') := hcl 0 _ rfl
        have c1' : w.cell? ⟨b, off + 1, none⟩ = some (.int .i64 n') := hcl 1 _ rfl
        have c2' : w.cell? ⟨b, off + 2, none⟩ = some (.bool neg') := hcl 2 _ rfl
        have c3' : w.cell? ⟨b, off + 3, none⟩ = some (.slice mA mag'.length mc) := hcl 3 _ rfl
        have c4' : w.cell? ⟨b, off + 4, none⟩ = some (.string ⟨text'.toArray⟩) := hcl 4 _ rfl
        have c5' : w.cell? ⟨b, off + 5, none⟩ = some (.slice Ai' items'.length ci') := hcl 5 _ rfl
        have c6' : w.cell? ⟨b, off + 6, none⟩ = some (.slice Ar' rest'.length cr') := hcl 6 _ rfl
        have kc : ∀ W, Below w.heap.size w W → ∀ o v, w.cell? ⟨b, o, none⟩ = some v → W.cell? ⟨b, o, none⟩ = some v := fun W hb o v h => (hb.cell (World.block_lt_of_cell? w _ h)).trans h
        have keep : As (∀ W, Below w.heap.size w W → W.cell? ⟨b, off, none⟩ = some (.int .i64 kind') ∧ W.cell? ⟨b, off + 1, none⟩ = some (.int .i64 n') ∧ W.cell? ⟨b, off + 2, none⟩ = some (.bool neg') ∧ W.cell? ⟨b, off + 3, none⟩ = some (.slice mA mag'.length mc) ∧ W.cell? ⟨b, off + 4, none⟩ = some (.string ⟨text'.toArray⟩) ∧ W.cell? ⟨b, off + 5, none⟩ = some (.slice Ai' items'.length ci') ∧ W.cell? ⟨b, off + 6, none⟩ = some (.slice Ar' rest'.length cr')) :=
          ⟨fun W hb => ⟨kc W hb _ _ c0, kc W hb _ _ c1', kc W hb _ _ c2', kc W hb _ _ c3', kc W hb _ _ c4', kc W hb _ _ c5', kc W hb _ _ c6'⟩⟩
        clear hcl c0 c1' c2' c3' c4' c5' c6' kc
        by_cases c2 : items.length = 0
        · have hL : As (showL (!q) (.mk 6 n neg A c mag text Ai ci items (some ⟨b, off, none⟩) cr rest) = H) := ⟨by rw [hL0, listL, if_neg Hrn.out, if_pos c2, Hhead.out]⟩
          clear hT c1 hsl hL0 k1 k2 k3 k4 k5
          go_enter Tryd.func17, Tryd.ntmps17
          go_wp2_with (first
            | ((with_reducible refine g_dst 2 ?_); go_must (refine ev_box 2 rfl (cs := [.int .i64 6, .int .i64 n, .bool neg, .slice A mag.length c, .string ⟨text.toArray⟩, .slice Ai items.length ci, .slice (some ⟨b, off, none⟩) rest.length cr]) (by rfl) ?_); intro g w1 hb1 B1 hg1; have C1 := B1.cells; obtain ⟨d0, d1, d2, d3, d4, d5, d6⟩ := keep.out _ (bthen hw hb1))
            | (go_at_call 17; (with_reducible refine (HS.out _ (bthen hw hb1)).mono ?_); rintro e w4 ⟨v4, rfl, rfl, hb4⟩))
          go_ret
          exact ⟨_, rfl, by rw [hL.out]; rfl, bthen hb1 hb4⟩
        · have z2 : ((items.length : Int) == 0) = false := by simp; intro h; exact c2 (by rw [h]; rfl)
          obtain ⟨U1, hU1⟩ : ∃ U, U = [40] ++ T := ⟨_, rfl⟩
          obtain ⟨U2, hU2⟩ : ∃ U, U = U1 ++ [32, 46, 32] := ⟨_, rfl⟩
          obtain ⟨U3, hU3⟩ : ∃ U, U = U2 ++ H := ⟨_, rfl⟩
          obtain ⟨U4, hU4⟩ : ∃ U, U = U3 ++ [41] := ⟨_, rfl⟩
          have hU1l : U1.length ≤ 35184372088833 := by rw [hU1, List.length_append]; simp only [List.length_cons, List.length_nil]; omega
          have hU2l : U2.length ≤ 35184372088836 := by rw [hU2, List.length_append]; simp only [List.length_cons, List.length_nil]; omega
          have hU3l : U3.length ≤ 80000000000000 := by rw [hU3, List.length_append]; omega
          have hU4l : U4.length ≤ 80000000000001 := by rw [hU4, List.length_append]; simp only [List.length_cons, List.length_nil]; omega
          have a1 : ∀ w : World, (Op.stringOp .add ⟨#[40]⟩ ⟨T.toArray⟩).run Tryd.prog w = .ok (.string ⟨U1.toArray⟩) w := fun w => addL w [40] T U1 hU1 (by omega)
          have a2 : ∀ w : World, (Op.stringOp .add ⟨U1.toArray⟩ ⟨#[32, 46, 32]⟩).run Tryd.prog w = .ok (.string ⟨U2.toArray⟩) w := fun w => addL w U1 [32, 46, 32] U2 hU2 (by omega)
          have a3 : ∀ w : World, (Op.stringOp .add ⟨U2.toArray⟩ ⟨H.toArray⟩).run Tryd.prog w = .ok (.string ⟨U3.toArray⟩) w := fun w => addL w U2 H U3 hU3 (by omega)
          have a4 : ∀ w : World, (Op.stringOp .add ⟨U3.toArray⟩ ⟨#[41]⟩).run Tryd.prog w = .ok (.string ⟨U4.toArray⟩) w := fun w => addL w U3 [41] U4 hU4 (by omega)
          have hL : As (showL (!q) (.mk 6 n neg A c mag text Ai ci items (some ⟨b, off, none⟩) cr rest) = U4) := ⟨by rw [hL0, listL, if_neg Hrn.out, if_neg c2, Hhead.out, ← hT, hU4, hU3, hU2, hU1]; simp⟩
          clear hT c1 c2 hsl hL0 hU1 hU2 hU3 hU4 k1 k2 k3 k4 k5
          go_enter Tryd.func17, Tryd.ntmps17
          go_wp2_with ((with_reducible refine g_dst 2 ?_); go_must (refine ev_box 2 rfl (cs := [.int .i64 6, .int .i64 n, .bool neg, .slice A mag.length c, .string ⟨text.toArray⟩, .slice Ai items.length ci, .slice (some ⟨b, off, none⟩) rest.length cr]) (by rfl) ?_); intro g w1 hb1 B1 hg1; have C1 := B1.cells)
          have hS : ∀ W, Below w1.heap.size w1 W → W.cell? ⟨g, 5, none⟩ = some (.slice Ai items.length ci) ∧ W.cell? ⟨g, 6, none⟩ = some (.slice (some ⟨b, off, none⟩) rest.length cr) ∧ W.cell? ⟨b, off, none⟩ = some (.int .i64 kind') ∧ W.cell? ⟨b, off + 1, none⟩ = some (.int .i64 n') ∧ W.cell? ⟨b, off + 2, none⟩ = some (.bool neg') ∧ W.cell? ⟨b, off + 3, none⟩ = some (.slice mA mag'.length mc) ∧ W.cell? ⟨b, off + 4, none⟩ = some (.string ⟨text'.toArray⟩) ∧ W.cell? ⟨b, off + 5, none⟩ = some (.slice Ai' items'.length ci') ∧ W.cell? ⟨b, off + 6, none⟩ = some (.slice Ar' rest'.length cr') := fun W hb => by
            have B := (B1.below hb).cells
            exact ⟨B 5, B 6, keep.out _ (bthen (bthen hw hb1) hb)⟩
          have hd := (Below.refl w1.heap.size w1).drew
          have hS0 := hS _ hd
          clear C1
          go_region_held3 (fun W => W.cell? ⟨g, 5, none⟩ = some (.slice Ai items.length ci) ∧ W.cell? ⟨g, 6, none⟩ = some (.slice (some ⟨b, off, none⟩) rest.length cr) ∧ W.cell? ⟨b, off, none⟩ = some (.int .i64 kind') ∧ W.cell? ⟨b, off + 1, none⟩ = some (.int .i64 n') ∧ W.cell? ⟨b, off + 2, none⟩ = some (.bool neg') ∧ W.cell? ⟨b, off + 3, none⟩ = some (.slice mA mag'.length mc) ∧ W.cell? ⟨b, off + 4, none⟩ = some (.string ⟨text'.toArray⟩) ∧ W.cell? ⟨b, off + 5, none⟩ = some (.slice Ai' items'.length ci') ∧ W.cell? ⟨b, off + 6, none⟩ = some (.slice Ar' rest'.length cr')) (first | assumption | exact hS _ hb2 | exact hS _ hb3) (first
            | (go_at_call 31; (with_reducible refine (HRow.out _ (bthen (bthen hw hb1) hd)).mono ?_); rintro e w2 ⟨v2, rfl, rfl, hb2⟩; replace hb2 := bthen hd hb2)
            | (go_at_call 17; (with_reducible refine (HS.out _ (bthen (bthen hw hb1) hb2)).mono ?_); rintro e w3 ⟨v3, rfl, rfl, hb3⟩; replace hb3 := bthen hb2 hb3))
          go_wp2
          go_ret
          exact ⟨_, rfl, by rw [hL.out]; rfl, bthen hb1 hb3⟩
    by_cases k7 : kind = 7
    · subst k7
      have hrow := fun w' h => many_any w items q Ai ci ri li HI.out him Hjl.out w' h
      have hTl := Hrl.out
      obtain ⟨T, hT⟩ : ∃ T, T = Lib.join (showAll (!q) items) [32] := ⟨_, rfl⟩
      simp only [← hT] at hrow hTl
      have HRow := As.mk hrow
      clear hrow
      have hL' : showL (!q) (.mk 7 n neg A c mag text Ai ci items Ar cr rest) = [35, 40] ++ (T ++ [41]) := by rw [showL, if_neg (by decide), if_neg (by decide), if_neg (by decide), if_neg (by decide), if_neg (by decide), if_neg (by decide), if_pos rfl, hT]
      obtain ⟨U1, hU1⟩ : ∃ U, U = [35, 40] ++ T := ⟨_, rfl⟩
      obtain ⟨U2, hU2⟩ : ∃ U, U = U1 ++ [41] := ⟨_, rfl⟩
      have hU1l : U1.length ≤ 40000000000000 := by rw [hU1, List.length_append]; simp only [List.length_cons, List.length_nil]; omega
      have hU2l : U2.length ≤ 50000000000000 := by rw [hU2, List.length_append]; simp only [List.length_cons, List.length_nil]; omega
      have a1 : ∀ w : World, (Op.stringOp .add ⟨#[35, 40]⟩ ⟨T.toArray⟩).run Tryd.prog w = .ok (.string ⟨U1.toArray⟩) w := fun w => addL w [35, 40] T U1 hU1 (by omega)
      have a2 : ∀ w : World, (Op.stringOp .add ⟨U1.toArray⟩ ⟨#[41]⟩).run Tryd.prog w = .ok (.string ⟨U2.toArray⟩) w := fun w => addL w U1 [41] U2 hU2 (by omega)
      have hL : As (showL (!q) (.mk 7 n neg A c mag text Ai ci items Ar cr rest) = U2) := ⟨by rw [hL', hU2, hU1, List.append_assoc]⟩
      clear hT hU1 hU2 hL'
      clear hsl k1 k2 k3 k4 k5 k6
      go_enter Tryd.func17, Tryd.ntmps17
      go_wp2_with (first
        | ((with_reducible refine g_dst 2 ?_); go_must (refine ev_box 2 rfl (cs := [.int .i64 7, .int .i64 n, .bool neg, .slice A mag.length c, .string ⟨text.toArray⟩, .slice Ai items.length ci, .slice Ar rest.length cr]) (by rfl) ?_); intro g w1 hb1 B1 hg1; have C1 := B1.cells)
        | (go_at_call 31; (with_reducible refine (HRow.out _ (bthen hw hb1)).mono ?_); rintro e w2 ⟨v2, rfl, rfl, hb2⟩; replace hb2 := bthen hb1 hb2))
      go_ret
      exact ⟨_, rfl, by rw [hL.out]; rfl, hb2⟩
    by_cases k9 : kind = 9
    · subst k9
      have hL : As (showL (!q) (.mk 9 n neg A c mag text Ai ci items Ar cr rest) = [35, 60, 112, 114, 111, 99, 101, 100, 117, 114, 101, 62]) := ⟨by rw [showL, if_neg (by decide), if_neg (by decide), if_neg (by decide), if_neg (by decide), if_neg (by decide), if_neg (by decide), if_neg (by decide), if_pos rfl]⟩
      clear hsl k1 k2 k3 k4 k5 k6 k7
      go_enter Tryd.func17, Tryd.ntmps17
      go_wp2_with ((with_reducible refine g_dst 2 ?_); go_must (refine ev_box 2 rfl (cs := [.int .i64 9, .int .i64 n, .bool neg, .slice A mag.length c, .string ⟨text.toArray⟩, .slice Ai items.length ci, .slice Ar rest.length cr]) (by rfl) ?_); intro g w1 hb1 B1 hg1; have C1 := B1.cells)
      go_ret
      exact ⟨_, rfl, by rw [hL.out]; rfl, hb1⟩
    by_cases k10 : kind = 10
    · subst k10
      have hcond : As (showL (!q) (.mk 10 n neg A c mag text Ai ci items Ar cr rest) = ([35, 60, 99, 111, 110, 100, 105, 116, 105, 111, 110, 32] ++ text) ++ (((showAll true items).map fun x => 32 :: x).flatten ++ [62])) := ⟨by rw [showL, if_neg (by decide), if_neg (by decide), if_neg (by decide), if_neg (by decide), if_neg (by decide), if_neg (by decide), if_neg (by decide), if_neg (by decide), if_pos rfl]⟩
      obtain ⟨P, hP⟩ : ∃ P, P = [35, 60, 99, 111, 110, 100, 105, 116, 105, 111, 110, 32] ++ text := ⟨_, rfl⟩
      have hPl : P.length ≤ 2199023255552 := by rw [hP]; simp; omega
      rw [← hP] at hcond
      have a1 : ∀ w : World, (Op.stringOp .add ⟨#[35, 60, 99, 111, 110, 100, 105, 116, 105, 111, 110, 32]⟩ ⟨text.toArray⟩).run Tryd.prog w = .ok (.string ⟨P.toArray⟩) w := fun w => addL w [35, 60, 99, 111, 110, 100, 105, 116, 105, 111, 110, 32] text P hP (by omega)
      clear hP
      clear hsl k1 k2 k3 k4 k5 k6 k7 k9
      go_enter Tryd.func17, Tryd.ntmps17
      go_wp2_with ((with_reducible refine g_dst 2 ?_); go_must (refine ev_box 2 rfl (cs := [.int .i64 10, .int .i64 n, .bool neg, .slice A mag.length c, .string ⟨text.toArray⟩, .slice Ai items.length ci, .slice Ar rest.length cr]) (by rfl) ?_); intro g w1 hb1 B1 hg1; have C1 := B1.cells)
      clear C1 a1
      go_loopw [5, 6] (fun v u wq => ∃ k : Nat, ∃ O : List UInt8, k ≤ items.length ∧ u = .int .i64 (k : Int) ∧ v = .string ⟨O.toArray⟩ ∧ As (O = P ++ ((showAll true (items.take k)).map fun x => 32 :: x).flatten) ∧ Below w1.heap.size w1 wq) (fun v u _ => items.length - (intOf u).toNat)
      case atStart => exact ⟨0, P, by omega, rfl, rfl, ⟨by simp [showAll]⟩, Below.refl _ _⟩
      case round =>
        obtain ⟨k, O, hk, rfl, rfl, hO, hb⟩ := hrel
        have hOl : O.length ≤ 40000000000000 := by rw [hO.out, List.length_append]; have := Hcl.out k; omega
        have hww := bthen (bthen hw hb1) hb
        have C1 := (B1.below hb).cells
        by_cases h : k < items.length
        · obtain ⟨b, off, rfl⟩ := ri.get (ne_nil_of_lt h)
          have hrk := (ri.below hww).cell k h
          have hsx := fun w' hb => HI.out _ (List.getElem_mem h) false w' hb
          have hst : P ++ ((showAll true (items.take (k + 1))).map fun x => 32 :: x).flatten = O ++ ([32] ++ showL true items[k]) := by
            rw [hO.out, showAll_map, showAll_map, List.take_succ_eq_append_getElem h, List.map_append, List.map_append, List.flatten_append, List.append_assoc]
            simp
          have hl1 := Hcl.out (k + 1)
          obtain ⟨x, hxe⟩ : ∃ x, x = items[k] := ⟨_, rfl⟩
          rw [← hxe] at hrk hsx hst
          simp only [Bool.not_false] at hsx
          obtain ⟨T, hT⟩ : ∃ T, T = showL true x := ⟨_, rfl⟩
          rw [← hT] at hst hsx
          obtain ⟨O1, hO1⟩ : ∃ O1, O1 = O ++ [32] := ⟨_, rfl⟩
          obtain ⟨O2, hO2⟩ : ∃ O2, O2 = O1 ++ T := ⟨_, rfl⟩
          have hO2e : O2 = O ++ ([32] ++ T) := by rw [hO2, hO1, List.append_assoc]
          have hO2l : O2.length ≤ 40000000000000 := by rw [hO2e, ← hst, List.length_append]; omega
          have hO1l : O1.length ≤ 40000000000001 := by rw [hO1, List.length_append]; simp only [List.length_cons, List.length_nil]; omega
          have a1 : ∀ w : World, (Op.stringOp .add ⟨O.toArray⟩ ⟨#[32]⟩).run Tryd.prog w = .ok (.string ⟨O1.toArray⟩) w := fun w => addL w O [32] O1 hO1 (by omega)
          have a2 : ∀ w : World, (Op.stringOp .add ⟨O1.toArray⟩ ⟨T.toArray⟩).run Tryd.prog w = .ok (.string ⟨O2.toArray⟩) w := fun w => addL w O1 T O2 hO2 (by omega)
          have HO2 : As (O2 = P ++ ((showAll true (items.take (k + 1))).map fun x => 32 :: x).flatten) := ⟨by rw [hO2e, hst]⟩
          clear hxe hT hst hO2 hO1 hO2e hl1
          obtain ⟨kind', n', neg', mA, mc, mag', text', Ai', ci', items', Ar', cr', rest'⟩ := x
          simp only [encD] at hsx
          have HS := As.mk hsx
          clear hsx
          have c0 : wr.cell? ⟨b, off + k * 7, none⟩ = some (.int .i64 kind') := hrk 0 _ rfl
          have c1 := hrk 1 _ rfl
          have c2 := hrk 2 _ rfl
          have c3 := hrk 3 _ rfl
          have c4 := hrk 4 _ rfl
          have c5 := hrk 5 _ rfl
          have c6 := hrk 6 _ rfl
          clear hrk
          go_wp2_with (go_at_call 17; (with_reducible refine (HS.out _ hww).mono ?_); rintro e w6 ⟨v6, rfl, rfl, hb6⟩; have hbw6 := bthen hb hb6)
          go_roundw
          case rel => exact ⟨k + 1, O2, by omega, by go_num, rfl, HO2, hbw6⟩
          case measure => simp [intOf]; omega
        · obtain ⟨O1, hO1⟩ : ∃ O1, O1 = O ++ [62] := ⟨_, rfl⟩
          have hf : As (O1 = P ++ (((showAll true items).map fun x => 32 :: x).flatten ++ [62])) := ⟨by rw [hO1, hO.out, List.take_of_length_le (by omega), List.append_assoc]⟩
          have a1 : ∀ w : World, (Op.stringOp .add ⟨O.toArray⟩ ⟨#[62]⟩).run Tryd.prog w = .ok (.string ⟨O1.toArray⟩) w := fun w => addL w O [62] O1 hO1 (by rw [hO1, List.length_append]; simp only [List.length_cons, List.length_nil]; omega)
          clear hO1
          go_wp2
          go_ret
          exact ⟨_, rfl, by rw [hcond.out, ← hf.out]; rfl, bthen hb1 hb⟩
    have hL : As (showL (!q) (.mk kind n neg A c mag text Ai ci items Ar cr rest) = [35, 60, 118, 111, 105, 100, 62]) := ⟨by rw [showL, if_neg k1, if_neg k2, if_neg k3, if_neg k4, if_neg k5, if_neg k6, if_neg k7, if_neg k9, if_neg k10]⟩
    have z1 : ((kind : Int) == 1) = false := by simpa using k1
    have z2 : ((kind : Int) == 2) = false := by simpa using k2
    have z3 : ((kind : Int) == 3) = false := by simpa using k3
    have z4 : ((kind : Int) == 4) = false := by simpa using k4
    have z5 : ((kind : Int) == 5) = false := by simpa using k5
    have z6 : ((kind : Int) == 6) = false := by simpa using k6
    have z7 : ((kind : Int) == 7) = false := by simpa using k7
    have z9 : ((kind : Int) == 9) = false := by simpa using k9
    have z10 : ((kind : Int) == 10) = false := by simpa using k10
    clear hsl k1 k2 k3 k4 k5 k6 k7 k9 k10
    go_enter Tryd.func17, Tryd.ntmps17
    go_wp2_with ((with_reducible refine g_dst 2 ?_); go_must (refine ev_box 2 rfl (cs := [.int .i64 kind, .int .i64 n, .bool neg, .slice A mag.length c, .string ⟨text.toArray⟩, .slice Ai items.length ci, .slice Ar rest.length cr]) (by rfl) ?_); intro g w1 hb1 B1 hg1; have C1 := B1.cells)
    go_ret
    exact ⟨_, rfl, by rw [hL.out]; rfl, hb1⟩
end Go.Proofs.YtdapbegadhcpcaaDoor
