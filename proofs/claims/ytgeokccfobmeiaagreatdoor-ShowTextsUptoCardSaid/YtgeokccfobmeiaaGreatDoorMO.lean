import Derived.Test.YtgeokccfobmeiaaGreatDoorMN
import Derived.Test.YtgeokccfobmeiaaGreatDoorMG
import Derived.Test.YtgeokccfobmeiaaGreatDoorMF
import Derived.Test.YtgeokccfobmeiaaGreatDoorRead14
/- Data: their texts. -/
namespace Go.Proofs.YtgeokccfobmeiaaGreatDoor
open Go.RowKit Go.Proofs.YtgeokccfobmeiaaGreatDoorL Go.Proofs.YtgeokccfobmeiaaGreatDoorM
set_option linter.unusedVariables false
set_option linter.unusedSimpArgs false
mutual
/-- the text of a datum: written, or shown -/
def showL : Bool → LD → List UInt8
  | wr, .mk kind n neg _ _ mag text _ _ items _ _ rest =>
    if kind = 1 then numT neg (valB 4294967296 mag)
    else if kind = 2 then (if n = 1 then [35, 116] else [35, 102])
    else if kind = 3 then (if wr then charL n else [UInt8.ofNat (n % 256).toNat])
    else if kind = 4 then (if wr then textL text else text)
    else if kind = 5 then text
    else if kind = 6 then
      (if rest.length = 0 then [40] ++ (Lib.join (showAll wr items) [32] ++ [41])
       else if items.length = 0 then (showAll wr rest).headD []
       else [40] ++ (Lib.join (showAll wr items) [32] ++ ([32, 46, 32] ++ ((showAll wr rest).headD [] ++ [41]))))
    else if kind = 7 then [35, 40] ++ (Lib.join (showAll wr items) [32] ++ [41])
    else if kind = 9 then [35, 60, 112, 114, 111, 99, 101, 100, 117, 114, 101, 62]
    else if kind = 10 then ([35, 60, 99, 111, 110, 100, 105, 116, 105, 111, 110, 32] ++ text) ++ (((showAll true items).map fun x => 32 :: x).flatten ++ [62])
    else [35, 60, 118, 111, 105, 100, 62]
def showAll : Bool → List LD → List (List UInt8)
  | _, [] => []
  | wr, x :: l => showL wr x :: showAll wr l
end
theorem showAll_map (wr : Bool) : ∀ l, showAll wr l = l.map (showL wr)
  | [] => by simp [showAll]
  | x :: l => by rw [showAll, showAll_map wr l]; rfl
mutual
/-- how great it is -/
def wtD : LD → Nat
  | .mk _ _ _ _ _ mag text _ _ items _ _ rest => 1 + mag.length + text.length + wtAll items + wtAll rest
def wtAll : List LD → Nat
  | [] => 0
  | x :: l => wtD x + wtAll l
end
theorem wt_mem {x : LD} : ∀ {l : List LD}, x ∈ l → wtD x ≤ wtAll l
  | y :: l, h => by
    rw [wtAll]
    rcases List.mem_cons.1 h with rfl | h
    · omega
    · have := wt_mem h; omega
theorem wtD_pos (x : LD) : 1 ≤ wtD x := by cases x; rw [wtD]; omega
theorem wt_len : ∀ l : List LD, l.length ≤ wtAll l
  | [] => by simp
  | x :: l => by
    have := wt_len l
    have := wtD_pos x
    rw [wtAll, List.length_cons]; omega
theorem tail_len (sep : List UInt8) : ∀ r : List (List UInt8), (Lib.joinTail sep r).length = r.flatten.length + sep.length * r.length
  | [] => by simp [Lib.joinTail]
  | x :: r => by
    have := tail_len sep r
    simp only [Lib.joinTail, List.map_cons, List.flatten_cons, List.length_append, List.length_cons] at *
    rw [Nat.mul_add, Nat.mul_one]
    omega
theorem join_len (sep : List UInt8) (l : List (List UInt8)) : (Lib.join l sep).length ≤ l.flatten.length + sep.length * l.length := by
  cases l with
  | nil => simp [Lib.join_nil]
  | cons x r =>
    rw [Lib.join_cons, List.length_append, tail_len, List.flatten_cons, List.length_append, List.length_cons, Nat.mul_add, Nat.mul_one]
    omega
theorem numT_len (neg : Bool) (l : List Nat) (h : ∀ x ∈ l, x < 4294967296) : (numT neg (valB 4294967296 l)).length ≤ 18 * l.length + 2 := by
  have h1 : (Lib.decDigits (valB 4294967296 l)).length ≤ 18 * l.length + 1 := by
    rcases Nat.eq_zero_or_pos (valB 4294967296 l) with h0 | h0
    · rw [h0, Lib.decDigits_one (by omega)]; simp
    · rw [← joinL_dec _ h0]
      refine Nat.le_trans (joinL_len _ (fun x hx => ?_)) ?_
      · obtain ⟨r, hr, rfl⟩ := List.mem_map.1 hx
        exact dec_len9 r (digB_lt 1000000000 (by omega) _ r hr)
      · rw [List.length_map]
        have := dig9_len l h
        omega
  rw [numT]
  split
  · simp; omega
  · omega
theorem charL_len (n : Int) : (charL n).length ≤ 9 := by
  unfold charL; repeat' split
  all_goals simp [hex2]
theorem textL_len (l : List UInt8) : (textL l).length ≤ 5 * l.length + 2 := by
  have := bytesN_len l
  simp only [textL, List.length_append, List.length_singleton] at *
  omega
theorem row_len2 {l : List LD} {wr : Bool} (h : ∀ x ∈ l, (showL wr x).length + 1 ≤ 20 * wtD x) : (Lib.join (showAll wr l) [32]).length ≤ 20 * wtAll l := by
  have h1 := join_len [32] (showAll wr l)
  have h3 : (showAll wr l).length = l.length := by rw [showAll_map, List.length_map]
  have h2 : (showAll wr l).flatten.length + l.length ≤ 20 * wtAll l := by
    clear h1 h3
    induction l with
    | nil => simp [showAll, wtAll]
    | cons x l ih =>
      have i1 := ih (fun y hy => h y (List.mem_cons_of_mem _ hy))
      have i2 := h x (List.mem_cons_self ..)
      simp only [showAll, wtAll, List.flatten_cons, List.length_append, List.length_cons]
      omega
  simp only [List.length_singleton, Nat.one_mul] at h1
  omega
theorem head_len {l : List LD} {wr : Bool} (h : ∀ x ∈ l, (showL wr x).length + 1 ≤ 20 * wtD x) : ((showAll wr l).headD []).length ≤ 20 * wtAll l := by
  cases l with
  | nil => simp [showAll]
  | cons x l =>
    have := h x (List.mem_cons_self ..)
    simp only [showAll, List.headD_cons, wtAll]
    omega
theorem conds_len {l : List LD} (h : ∀ x ∈ l, (showL true x).length + 1 ≤ 20 * wtD x) : ((showAll true l).map fun x => 32 :: x).flatten.length ≤ 20 * wtAll l := by
  induction l with
  | nil => simp [showAll, wtAll]
  | cons x l ih =>
    have i1 := ih (fun y hy => h y (List.mem_cons_of_mem _ hy))
    have i2 := h x (List.mem_cons_self ..)
    simp only [showAll, wtAll, List.map_cons, List.flatten_cons, List.length_append, List.length_cons]
    omega
/-- a text is at most so long -/
theorem show_len {w : World} {x : LD} (h : Good w x) : ∀ wr, (showL wr x).length + 1 ≤ 20 * wtD x := by
  induction h with
  | @mk kind n neg A c mag text Ai ci items Ar cr rest hn1 hn2 lim ri li ni rr lr nr gi gr ihi ihr =>
    intro wr
    have a1 := row_len2 (l := items) (wr := wr) (fun x hx => ihi x hx wr)
    have a2 := head_len (l := rest) (wr := wr) (fun x hx => ihr x hx wr)
    have a3 := conds_len (l := items) (fun x hx => ihi x hx true)
    have a4 := numT_len neg mag lim.lt
    have a5 := charL_len n
    have a6 := textL_len text
    rw [showL, wtD]
    repeat' split
    all_goals ((try simp only [List.length_append, List.length_cons, List.length_nil]); omega)
mutual
theorem wtD_er : ∀ y : LD, wtD y = wtT (erD y)
  | .mk kind n neg A c mag text Ai ci items Ar cr rest => by rw [wtD, erD, wtT, wtAll_er items, wtAll_er rest]
theorem wtAll_er : ∀ l : List LD, wtAll l = wtTs (erAll l)
  | [] => by simp [wtAll, erAll, wtTs]
  | x :: l => by rw [wtAll, erAll, wtTs, wtD_er x, wtAll_er l]
end
theorem charL_w : ∀ k : Fin 256, charL (k.val : Int) = 35 :: 92 :: wChr k.val := by decide +kernel
theorem byteN_w : ∀ k : Fin 256, byteN k.val = wByte k.val := by decide +kernel
theorem textL_w (t : List UInt8) : textL t = 34 :: (wBody t ++ [34]) := by
  have h : bytesN t = t.map fun b => wByte b.toNat := List.map_congr_left fun b _ => byteN_w ⟨b.toNat, b.toNat_lt⟩
  rw [textL, h, wBody]; rfl
theorem join_w : ∀ l : List (List UInt8), Lib.join l [32] = wJoin l
  | [] => by rw [Lib.join_nil]; rfl
  | x :: r => by rw [Lib.join_cons, wJoin, wTail, Lib.joinTail]; rfl
theorem showAll_er {l : List DV} (h : ∀ x ∈ l, ∀ y, erD y = x → showL true y = wV x) : ∀ m : List LD, erAll m = l → showAll true m = wAll l := by
  induction l with
  | nil => intro m hm; cases m with
    | nil => rfl
    | cons y m => simp [erAll] at hm
  | cons x l ih => intro m hm; cases m with
    | nil => simp [erAll] at hm
    | cons y m =>
      simp only [erAll, List.cons.injEq] at hm
      rw [showAll, wAll, h x (List.mem_cons_self ..) y hm.1, ih (fun z hz => h z (List.mem_cons_of_mem _ hz)) m hm.2]
/-- the text of what a reader made -/
theorem showL_er {n : Nat} {x : DV} (h : Rdb n x) : ∀ y, erD y = x → showL true y = wV x := by
  induction h with
  | int z =>
    rintro ⟨kind, n, neg, A, c, mag, text, Ai, ci, items, Ar, cr, rest⟩ hy
    simp only [erD, dInt, DV.mk.injEq] at hy
    obtain ⟨rfl, rfl, rfl, rfl, rfl, h6, h7⟩ := hy
    rw [wV_int, showL, if_pos rfl, digB_val _ (by omega)]; rfl
  | bool b =>
    rintro ⟨kind, n, neg, A, c, mag, text, Ai, ci, items, Ar, cr, rest⟩ hy
    simp only [erD, dBool, DV.mk.injEq] at hy
    obtain ⟨rfl, rfl, rfl, rfl, rfl, h6, h7⟩ := hy
    rw [wV_bool, showL]; cases b <;> rfl
  | char k hk =>
    rintro ⟨kind, n, neg, A, c, mag, text, Ai, ci, items, Ar, cr, rest⟩ hy
    simp only [erD, dChar, DV.mk.injEq] at hy
    obtain ⟨rfl, rfl, rfl, rfl, rfl, h6, h7⟩ := hy
    rw [wV_char, showL, if_neg (by decide), if_neg (by decide), if_pos rfl, if_pos rfl]; exact charL_w ⟨k, hk⟩
  | str t =>
    rintro ⟨kind, n, neg, A, c, mag, text, Ai, ci, items, Ar, cr, rest⟩ hy
    simp only [erD, dStr, DV.mk.injEq] at hy
    obtain ⟨rfl, rfl, rfl, rfl, rfl, h6, h7⟩ := hy
    rw [wV_str, showL, if_neg (by decide), if_neg (by decide), if_neg (by decide), if_pos rfl, if_pos rfl]; exact textL_w _
  | sym t ht =>
    rintro ⟨kind, n, neg, A, c, mag, text, Ai, ci, items, Ar, cr, rest⟩ hy
    simp only [erD, dSym, DV.mk.injEq] at hy
    obtain ⟨rfl, rfl, rfl, rfl, rfl, h6, h7⟩ := hy
    rw [wV_sym, showL, if_neg (by decide), if_neg (by decide), if_neg (by decide), if_neg (by decide), if_pos rfl]
  | list l hl ih =>
    rintro ⟨kind, n, neg, A, c, mag, text, Ai, ci, items, Ar, cr, rest⟩ hy
    simp only [erD, dList, DV.mk.injEq] at hy
    obtain ⟨rfl, rfl, rfl, rfl, rfl, h6, h7⟩ := hy
    have hr : rest.length = 0 := by rw [← erAll_len, h7]; rfl
    rw [wV_list, showL, if_neg (by decide), if_neg (by decide), if_neg (by decide), if_neg (by decide), if_neg (by decide), if_pos rfl, if_pos hr, showAll_er ih items h6, join_w]; rfl
  | dot l x h0 hl hx hk ih ihx =>
    rintro ⟨kind, n, neg, A, c, mag, text, Ai, ci, items, Ar, cr, rest⟩ hy
    simp only [erD, dList, DV.mk.injEq] at hy
    obtain ⟨rfl, rfl, rfl, rfl, rfl, h6, h7⟩ := hy
    have hr : ¬ rest.length = 0 := by rw [← erAll_len, h7]; simp
    have hi : ¬ items.length = 0 := by rw [← erAll_len, h6]; simpa using h0
    have hx : showAll true rest = wAll [x] := showAll_er (fun z hz => by rw [List.mem_singleton.1 hz]; exact ihx) rest h7
    rw [wV_dot, showL, if_neg (by decide), if_neg (by decide), if_neg (by decide), if_neg (by decide), if_neg (by decide), if_pos rfl, if_neg hr, if_neg hi, showAll_er ih items h6, join_w, hx]; rfl
  | vec l hl ih =>
    rintro ⟨kind, n, neg, A, c, mag, text, Ai, ci, items, Ar, cr, rest⟩ hy
    simp only [erD, dVec, DV.mk.injEq] at hy
    obtain ⟨rfl, rfl, rfl, rfl, rfl, h6, h7⟩ := hy
    rw [wV_vec, showL, if_neg (by decide), if_neg (by decide), if_neg (by decide), if_neg (by decide), if_neg (by decide), if_neg (by decide), if_pos rfl, showAll_er ih items h6, join_w]; rfl
end Go.Proofs.YtgeokccfobmeiaaGreatDoor
/- show.row. -/
namespace Go.Proofs.YtgeokccfobmeiaaGreatDoor
open Go.RowKit Go.Proofs.YtgeokccfobmeiaaGreatDoorL Go.Proofs.YtgeokccfobmeiaaGreatDoorM
set_option linter.unusedVariables false
set_option linter.unusedSimpArgs false
/-- the call show.shown of a datum answers its text -/
def ShownOK (w : World) (x : LD) : Prop := ∀ wr w', Below w.heap.size w w' → Calls Tryz.prog 11 #[.agg (encD x).toArray, .bool wr] w' (Gives w' fun v _ => v = .string ⟨(showL wr x).toArray⟩)
set_option maxHeartbeats 1000000 in
theorem row_any (w : World) (l : List LD) (q : Bool) (A : Option Addr) (c : Nat) (hr : Rd encD 7 w A l) (hc : l.length ≤ c) (hx : ∀ x ∈ l, ShownOK w x) (hm : l.length ≤ 1099511627776) (hlen : (Lib.join (showAll q l) [32]).length ≤ 140737488355328)
    (w' : World) (hw : Below w.heap.size w w') : Calls Tryz.prog 23 #[.slice A l.length c, .bool q] w' (Gives w' fun v _ => v = .string ⟨(Lib.join (showAll q l) [32]).toArray⟩) := by
  have HX := As.mk hx
  have HL := As.mk hlen
  clear hx hlen
  go_enter Tryz.func23, Tryz.ntmps23
  go_wp2
  go_loopw [5, 7, 10] (fun v u z wq => ∃ k : Nat, ∃ bs : List (List UInt8), k ≤ l.length ∧ bs.length = k ∧ z = .int .i64 (k : Int) ∧ As (bs = showAll q (l.take k)) ∧ Below w'.heap.size w' wq ∧ Ow encT 1 9 w'.heap.size wq v bs) (fun v u z _ => l.length - (intOf z).toNat)
  case atStart => exact ⟨0, [], by omega, rfl, rfl, ⟨by simp [showAll]⟩, Below.refl _ _, Ow.nil _ _ _ _ _⟩
  case round =>
    obtain ⟨k, bs, hk, hbl, rfl, hbs, hb, ho⟩ := hrel
    have HB := As.mk (show (bs.length + 1) * 16 ≤ 140737488355328 from by omega)
    have HM := As.mk (show bs.length + 1 ≤ maxLen from by simp only [maxLen]; omega)
    have Hbl := As.mk hbl
    clear hbl
    have hww := bthen hw hb
    by_cases h : k < l.length
    · obtain ⟨b, off, rfl⟩ := hr.get (ne_nil_of_lt h)
      have hrk := (hr.below hww).cell k h
      have hsx := fun w' hb => HX.out _ (List.getElem_mem h) q w' hb
      have hst : As (bs ++ [showL q l[k]] = showAll q (l.take (k + 1))) := ⟨by
        rw [hbs.out, showAll_map, showAll_map, List.take_succ_eq_append_getElem h, List.map_append]; rfl⟩
      obtain ⟨x, hxe⟩ : ∃ x, x = l[k] := ⟨_, rfl⟩
      rw [← hxe] at hrk hsx hst
      obtain ⟨T, hT⟩ : ∃ T, T = showL q x := ⟨_, rfl⟩
      rw [← hT] at hst hsx
      clear hxe hT
      obtain ⟨kind, n, neg, mA, mc, mag, text, Ai, ci, items, Ar, cr, rest⟩ := x
      simp only [encD] at hsx
      have HS := As.mk hsx
      clear hsx
      have c0 : wr.cell? ⟨b, off + k * 7, none⟩ = some (.int .i64 kind) := hrk 0 _ rfl
      have c1 := hrk 1 _ rfl
      have c2 := hrk 2 _ rfl
      have c3 := hrk 3 _ rfl
      have c4 := hrk 4 _ rfl
      have c5 := hrk 5 _ rfl
      have c6 := hrk 6 _ rfl
      clear hrk
      go_wp2_with (first
        | ((with_reducible refine g_dst 7 ?_); go_must (refine ev_alloc 7 rfl infoD (cs := [.int .i64 0, .int .i64 0, .bool false, .slice none 0 0, .string ⟨#[]⟩, .slice none 0 0, .slice none 0 0]) rfl ?_); intro g2 w2 hb2 B2 hg2)
        | ((with_reducible refine g_store 7 ?_); go_must (refine ev_store rfl rfl B2 (news := encD (.mk kind n neg mA mc mag text Ai ci items Ar cr rest)) (by rfl) infoD (by simp [encD]) (by simp [encD, Value.oneCell']) ?_); intro w3 ho3 B3; simp only [encD, List.take_zero, List.nil_append, List.length_cons, List.length_nil, List.drop_succ_cons, List.drop_zero, List.append_nil, List.cons_append] at B3; have hb3 := hb2.trans (ho3.below hg2); have hbw3 := bthen hb hb3; replace ho := ho.below hb3; have C3 := B3.cells)
        | (go_at_call 11; (with_reducible refine (HS.out _ (bthen hw hbw3)).mono ?_); rintro e w4 ⟨v4, rfl, rfl, hb4⟩; replace ho := ho.below hb4; have hbw4 := bthen hbw3 hb4)
        | ((with_reducible refine g_dst 18 ?_); go_must (refine ev_lit (v := fun g => .slice (some ⟨g, 0, none⟩) 1 1) 18 rfl (cs := [valT T]) (t := 9) (by go_simp; rfl) ?_); intro g6 w6 hb6 B6 hg6; replace ho := ho.below hb6; have hbw6 := bthen hbw4 hb6; clear hb6)
        | ((with_reducible refine g_dst 19 ?_); go_must (refine ev_append 19 rfl Tryz.underlying69 infoT rfl (by decide) rfl ho rfl rfl (B6.rdm (l := [T]) encT_one) lenT oneT (fun h => by cases h) HB.out HM.out hbw6.size ?_); intro v7 w7 ho7 hg7; have hbw7 := ho.grown hbw6 hg7 (Nat.le_refl _) hbw6.size))
      go_roundw
      case rel => exact ⟨k + 1, bs ++ [T], by omega, by rw [List.length_append, Hbl.out]; rfl, by go_num, ⟨hst.out⟩, hbw7, ho7⟩
      case measure => simp [intOf]; omega
    · have hf : As (bs = showAll q l) := ⟨by rw [hbs.out, List.take_of_length_le (by omega)]⟩
      obtain ⟨A3, c3, rfl, h31, h32⟩ := ho.form
      obtain ⟨T, hT⟩ : ∃ T, T = Lib.join (showAll q l) [32] := ⟨_, rfl⟩
      have hp : ∀ w, Rd encT 1 w A3 bs → Calls Tryz.prog 38 #[.slice A3 bs.length c3, .string ⟨#[32]⟩] w (Gives w fun v _ => v = .string ⟨T.toArray⟩) := fun w h => by
        have := join_pieces bs [32] bs.length rfl A3 c3 w h h31 (by have := Hbl.out; omega) (by rw [hf.out]; exact HL.out)
        rw [hT, ← hf.out]; exact this
      have HP := As.mk hp
      have HT := As.mk hT
      clear hp hT
      go_wp2_with (go_at_call 38; (with_reducible refine (HP.out _ (ho.rd lenT)).mono ?_); rintro e w4 ⟨v4, rfl, rfl, hb4⟩)
      go_ret
      exact ⟨_, rfl, by rw [← HT.out]; rfl, bthen hb hb4⟩
end Go.Proofs.YtgeokccfobmeiaaGreatDoor
/- show.list. -/
namespace Go.Proofs.YtgeokccfobmeiaaGreatDoor
open Go.RowKit Go.Proofs.YtgeokccfobmeiaaGreatDoorL Go.Proofs.YtgeokccfobmeiaaGreatDoorM
set_option linter.unusedVariables false
set_option linter.unusedSimpArgs false
theorem pieces5 (x y z u v : List UInt8) (g c : Nat) (w : World) (hr : Rd encT 1 w (some ⟨g, 0, none⟩) [x, y, z, u, v]) (hc : 5 ≤ c) (hlen : x.length + (y.length + (z.length + (u.length + v.length))) ≤ 140737488355328) :
    Calls Tryz.prog 22 #[.slice (some ⟨g, 0, none⟩) 5 c] w (Gives w fun r w' => r = .string ⟨(x ++ (y ++ (z ++ (u ++ v)))).toArray⟩) := by
  have := pieces_any [x, y, z, u, v] 5 rfl _ c w hr hc (by omega) (by simpa using hlen)
  simpa using this
/-- what a list's text is -/
def listL (q : Bool) (items rest : List LD) : List UInt8 :=
  if rest.length = 0 then [40] ++ (Lib.join (showAll q items) [32] ++ [41])
  else if items.length = 0 then (showAll q rest).headD []
  else [40] ++ (Lib.join (showAll q items) [32] ++ ([32, 46, 32] ++ ((showAll q rest).headD [] ++ [41])))
set_option maxRecDepth 8000 in
set_option maxHeartbeats 1000000 in
theorem list_any (w : World) (q : Bool) (kind n : Int) (neg : Bool) (A : Option Addr) (c : Nat) (mag : List Nat) (text : List UInt8) (Ai : Option Addr) (ci : Nat) (items : List LD) (Ar : Option Addr) (cr : Nat) (rest : List LD)
    (ri : Rd encD 7 w Ai items) (li : items.length ≤ ci) (rr : Rd encD 7 w Ar rest) (lr : rest.length ≤ cr) (hi : ∀ x ∈ items, ShownOK w x) (hr : ∀ x ∈ rest, ShownOK w x)
    (hm : items.length ≤ 1099511627776) (hlen : (Lib.join (showAll q items) [32]).length ≤ 35184372088832) (hlen2 : ((showAll q rest).headD []).length ≤ 35184372088832)
    (w' : World) (hw : Below w.heap.size w w') : Calls Tryz.prog 21 #[.agg #[.int .i64 kind, .int .i64 n, .bool neg, .slice A mag.length c, .string ⟨text.toArray⟩, .slice Ai items.length ci, .slice Ar rest.length cr], .bool q] w' (Gives w' fun v _ => v = .string ⟨(listL q items rest).toArray⟩) := by
  have hrow := fun w' h => row_any w items q Ai ci ri li hi hm (Nat.le_trans hlen (by omega)) w' h
  obtain ⟨T, hT⟩ : ∃ T, T = Lib.join (showAll q items) [32] := ⟨_, rfl⟩
  simp only [← hT] at hrow hlen
  have HR := As.mk hrow
  clear hrow hi
  have HT := As.mk hT
  by_cases c1 : rest.length = 0
  · have hL : As (listL q items rest = [40] ++ (T ++ [41])) := ⟨by rw [listL, if_pos c1, hT]⟩
    clear hT
    go_enter Tryz.func21, Tryz.ntmps21
    go_wp2_with (first
      | ((with_reducible refine g_dst 2 ?_); go_must (refine ev_box 2 rfl (cs := [.int .i64 kind, .int .i64 n, .bool neg, .slice A mag.length c, .string ⟨text.toArray⟩, .slice Ai items.length ci, .slice Ar rest.length cr]) (by rfl) ?_); intro g w1 hb1 B1 hg1; have C1 := B1.cells; replace hb1 := hb1)
      | (go_at_call 23; (with_reducible refine (HR.out _ (bthen hw hb1)).mono ?_); rintro e w2 ⟨v2, rfl, rfl, hb2⟩; replace hb2 := bthen hb1 hb2)
      | ((with_reducible refine g_dst 14 ?_); go_must (refine ev_lit (v := fun g => .slice (some ⟨g, 0, none⟩) 3 3) 14 rfl (cs := [valT [40], valT T, valT [41]]) (t := 9) (by go_simp; rfl) ?_); intro g3 w3 hb3 B3 hg3; replace hb3 := bthen hb2 hb3)
      | (go_at_call 22; (with_reducible refine (pieces3 [40] T [41] _ _ _ (B3.rdm (l := [[40], T, [41]]) encT_one) (by omega) (by simp; omega)).mono ?_); rintro e w5 ⟨v5, rfl, rfl, hb5⟩))
    go_ret
    exact ⟨_, rfl, by rw [hL.out]; simp, bthen hb3 hb5⟩
  · have z1 : ((rest.length : Int) == 0) = false := by simp; intro h; exact c1 (by rw [h]; rfl)
    obtain ⟨x, r2, hx⟩ : ∃ x r2, rest = x :: r2 := by
      cases rest with
      | nil => exact absurd rfl c1
      | cons x r2 => exact ⟨x, r2, rfl⟩
    have hsx := fun w' hb => hr x (by rw [hx]; exact List.mem_cons_self ..) q w' hb
    have hrk := fun W (hb : Below w.heap.size w W) => (rr.below hb).get (by rw [hx]; simp)
    obtain ⟨b, off, rfl⟩ := rr.get (by rw [hx]; simp)
    have hcl := rr.cell 0 (by omega)
    have hx0 : rest[0]'(by omega) = x := by simp [hx]
    rw [hx0] at hcl
    obtain ⟨H, hH⟩ : ∃ H, H = showL q x := ⟨_, rfl⟩
    have hhead : (showAll q rest).headD [] = H := by rw [hx, hH, showAll]; rfl
    rw [hhead] at hlen2
    simp only [← hH] at hsx
    have Hrl := As.mk c1
    have hrl : 0 < rest.length := by omega
    have Hhead := As.mk hhead
    clear hx hx0 hH hhead hr hrk
    obtain ⟨kind', n', neg', mA, mc, mag', text', Ai', ci', items', Ar', cr', rest'⟩ := x
    simp only [encD] at hsx
    have HS := As.mk hsx
    clear hsx
    have c0 : w.cell? ⟨b, off, none⟩ = some (.int .i64 kind') := hcl 0 _ rfl
    have c1' : w.cell? ⟨b, off + 1, none⟩ = some (.int .i64 n') := hcl 1 _ rfl
    have c2' : w.cell? ⟨b, off + 2, none⟩ = some (.bool neg') := hcl 2 _ rfl
    have c3' : w.cell? ⟨b, off + 3, none⟩ = some (.slice mA mag'.length mc) := hcl 3 _ rfl
    have c4' : w.cell? ⟨b, off + 4, none⟩ = some (.string ⟨text'.toArray⟩) := hcl 4 _ rfl
    have c5' : w.cell? ⟨b, off + 5, none⟩ = some (.slice Ai' items'.length ci') := hcl 5 _ rfl
    have c6' : w.cell? ⟨b, off + 6, none⟩ = some (.slice Ar' rest'.length cr') := hcl 6 _ rfl
    have kc : ∀ W, Below w.heap.size w W → ∀ o v, w.cell? ⟨b, o, none⟩ = some v → W.cell? ⟨b, o, none⟩ = some v := fun W hb o v h => (hb.cell (World.block_lt_of_cell? w _ h)).trans h
    have keep : As (∀ W, Below w.heap.size w W → W.cell? ⟨b, off, none⟩ = some (.int .i64 kind') ∧ W.cell? ⟨b, off + 1, none⟩ = some (.int .i64 n') ∧ W.cell? ⟨b, off + 2, none⟩ = some (.bool neg') ∧ W.cell? ⟨b, off + 3, none⟩ = some (.slice mA mag'.length mc) ∧ W.cell? ⟨b, off + 4, none⟩ = some (.string ⟨text'.toArray⟩) ∧ W.cell? ⟨b, off + 5, none⟩ = some (.slice Ai' items'.length ci') ∧ W.cell? ⟨b, off + 6, none⟩ = some (.slice Ar' rest'.length cr')) :=
      ⟨fun W hb => ⟨kc W hb _ _ c0, kc W hb _ _ c1', kc W hb _ _ c2', kc W hb _ _ c3', kc W hb _ _ c4', kc W hb _ _ c5', kc W hb _ _ c6'⟩⟩
    clear hcl c0 c1' c2' c3' c4' c5' c6' kc
    by_cases c2 : items.length = 0
    · have hL : As (listL q items rest = H) := ⟨by rw [listL, if_neg Hrl.out, if_pos c2, Hhead.out]⟩
      clear hT c1
      go_enter Tryz.func21, Tryz.ntmps21
      go_wp2_with (first
        | ((with_reducible refine g_dst 2 ?_); go_must (refine ev_box 2 rfl (cs := [.int .i64 kind, .int .i64 n, .bool neg, .slice A mag.length c, .string ⟨text.toArray⟩, .slice Ai items.length ci, .slice (some ⟨b, off, none⟩) rest.length cr]) (by rfl) ?_); intro g w1 hb1 B1 hg1; have C1 := B1.cells; obtain ⟨d0, d1, d2, d3, d4, d5, d6⟩ := keep.out _ (bthen hw hb1))
        | (go_at_call 11; (with_reducible refine (HS.out _ (bthen hw hb1)).mono ?_); rintro e w4 ⟨v4, rfl, rfl, hb4⟩))
      go_ret
      exact ⟨_, rfl, by rw [hL.out]; rfl, bthen hb1 hb4⟩
    · have hL : As (listL q items rest = [40] ++ (T ++ ([32, 46, 32] ++ (H ++ [41])))) := ⟨by rw [listL, if_neg Hrl.out, if_neg c2, Hhead.out, hT]⟩
      have z2 : ((items.length : Int) == 0) = false := by simp; intro h; exact c2 (by rw [h]; rfl)
      clear hT c1 c2
      go_enter Tryz.func21, Tryz.ntmps21
      go_wp2_with ((with_reducible refine g_dst 2 ?_); go_must (refine ev_box 2 rfl (cs := [.int .i64 kind, .int .i64 n, .bool neg, .slice A mag.length c, .string ⟨text.toArray⟩, .slice Ai items.length ci, .slice (some ⟨b, off, none⟩) rest.length cr]) (by rfl) ?_); intro g w1 hb1 B1 hg1; have C1 := B1.cells)
      have hS : ∀ W, Below w1.heap.size w1 W → W.cell? ⟨g, 5, none⟩ = some (.slice Ai items.length ci) ∧ W.cell? ⟨g, 6, none⟩ = some (.slice (some ⟨b, off, none⟩) rest.length cr) ∧ W.cell? ⟨b, off, none⟩ = some (.int .i64 kind') ∧ W.cell? ⟨b, off + 1, none⟩ = some (.int .i64 n') ∧ W.cell? ⟨b, off + 2, none⟩ = some (.bool neg') ∧ W.cell? ⟨b, off + 3, none⟩ = some (.slice mA mag'.length mc) ∧ W.cell? ⟨b, off + 4, none⟩ = some (.string ⟨text'.toArray⟩) ∧ W.cell? ⟨b, off + 5, none⟩ = some (.slice Ai' items'.length ci') ∧ W.cell? ⟨b, off + 6, none⟩ = some (.slice Ar' rest'.length cr') := fun W hb => by
        have B := (B1.below hb).cells
        exact ⟨B 5, B 6, keep.out _ (bthen (bthen hw hb1) hb)⟩
      have hd := (Below.refl w1.heap.size w1).drew
      have hS0 := hS _ hd
      clear C1
      go_region_held3 (fun W => W.cell? ⟨g, 5, none⟩ = some (.slice Ai items.length ci) ∧ W.cell? ⟨g, 6, none⟩ = some (.slice (some ⟨b, off, none⟩) rest.length cr) ∧ W.cell? ⟨b, off, none⟩ = some (.int .i64 kind') ∧ W.cell? ⟨b, off + 1, none⟩ = some (.int .i64 n') ∧ W.cell? ⟨b, off + 2, none⟩ = some (.bool neg') ∧ W.cell? ⟨b, off + 3, none⟩ = some (.slice mA mag'.length mc) ∧ W.cell? ⟨b, off + 4, none⟩ = some (.string ⟨text'.toArray⟩) ∧ W.cell? ⟨b, off + 5, none⟩ = some (.slice Ai' items'.length ci') ∧ W.cell? ⟨b, off + 6, none⟩ = some (.slice Ar' rest'.length cr')) (first | assumption | exact hS _ hb2 | exact hS _ hb3 | exact hS _ hb5 | exact hS _ (hb2.alloc hb2.size _) | exact hS _ (hb3.alloc hb3.size _)) (first
        | (go_at_call 23; (with_reducible refine (HR.out _ (bthen (bthen hw hb1) hd)).mono ?_); rintro e w2 ⟨v2, rfl, rfl, hb2⟩; replace hb2 := bthen hd hb2)
        | (go_at_call 11; (with_reducible refine (HS.out _ (bthen (bthen hw hb1) hb2)).mono ?_); rintro e w3 ⟨v3, rfl, rfl, hb3⟩; replace hb3 := bthen hb2 hb3)
        | (go_at_call 22; (with_reducible refine (pieces5 [40] T [32, 46, 32] H [41] _ _ _ ((Blk.new w3 [valT [40], valT T, valT [32, 46, 32], valT H, valT [41]] 9).rdm (l := [[40], T, [32, 46, 32], H, [41]]) encT_one) (by omega) (by simp; omega)).mono ?_); rintro e w5 ⟨v5, rfl, rfl, hb5⟩; replace hb5 := bthen (hb3.alloc hb3.size _) hb5))
      go_wp2
      go_ret
      exact ⟨_, rfl, by rw [hL.out]; simp, bthen hb1 hb5⟩
end Go.Proofs.YtgeokccfobmeiaaGreatDoor
/- show.shown: a datum's text. -/
namespace Go.Proofs.YtgeokccfobmeiaaGreatDoor
open Go.RowKit Go.Proofs.YtgeokccfobmeiaaGreatDoorL Go.Proofs.YtgeokccfobmeiaaGreatDoorM
set_option linter.unusedVariables false
set_option linter.unusedSimpArgs false
set_option maxHeartbeats 4000000 in
theorem shown_ok (w : World) (htab : Tab w) (x : LD) (h : Good w x) : wtD x ≤ 1073741824 → ShownOK w x := by
  have HTab := As.mk htab
  clear htab
  induction h with
  | @mk kind n neg A c mag text Ai ci items Ar cr rest hn1 hn2 lim ri li ni rr lr nr gi gr ihi ihr =>
    intro hwt q w' hw
    have hself := show_len (Good.mk (kind := kind) (neg := neg) (text := text) hn1 hn2 lim ri li ni rr lr nr gi gr)
    have hrl := row_len2 (l := items) (wr := q) (fun y hy => show_len (gi y hy) q)
    have hhl := head_len (l := rest) (wr := q) (fun y hy => show_len (gr y hy) q)
    have hcl := fun k => conds_len (l := items.take k) (fun y hy => show_len (gi y (List.mem_of_mem_take hy)) true)
    rw [wtD] at hwt hself
    have hil := wt_len items
    have htk : ∀ k, wtAll (items.take k) ≤ wtAll items := fun k => by
      have : ∀ (l : List LD) k, wtAll (l.take k) ≤ wtAll l := fun l => by
        induction l with
        | nil => intro k; simp [wtAll]
        | cons y l ih => intro k; cases k with
          | zero => simp [wtAll]
          | succ k => rw [List.take_succ_cons, wtAll, wtAll]; have := ih k; omega
      exact this items k
    have hiw : ∀ y ∈ items, ShownOK w y := fun y hy => ihi y hy (by have := wt_mem hy; omega)
    have hrw : ∀ y ∈ rest, ShownOK w y := fun y hy => ihr y hy (by have := wt_mem hy; omega)
    have HI := As.mk hiw
    have HR := As.mk hrw
    have Hhl := As.mk (show ((showAll q rest).headD []).length ≤ 35184372088832 by omega)
    have Hrl := As.mk (show (Lib.join (showAll q items) [32]).length ≤ 35184372088832 by omega)
    have Hcl : As (∀ k, ((showAll true (items.take k)).map fun x => 32 :: x).flatten.length ≤ 35184372088832) := ⟨fun k => by have := hcl k; have := htk k; omega⟩
    have htx : text.length ≤ 1099511627776 := by omega
    have him : items.length ≤ 1099511627776 := by omega
    clear ihi ihr hiw hrw hself hrl hhl hcl htk gi gr hwt hil
    simp only [encD]
    have hsl : As (showL q (.mk kind n neg A c mag text Ai ci items Ar cr rest) = showL q (.mk kind n neg A c mag text Ai ci items Ar cr rest)) := ⟨rfl⟩
    by_cases k1 : kind = 1
    · subst k1
      have hL : As (showL q (.mk 1 n neg A c mag text Ai ci items Ar cr rest) = numT neg (valB 4294967296 mag)) := ⟨by rw [showL, if_pos rfl]⟩
      clear hsl
      go_enter Tryz.func11, Tryz.ntmps11
      go_wp2_with (first
        | ((with_reducible refine g_dst 2 ?_); go_must (refine ev_box 2 rfl (cs := [.int .i64 1, .int .i64 n, .bool neg, .slice A mag.length c, .string ⟨text.toArray⟩, .slice Ai items.length ci, .slice Ar rest.length cr]) (by rfl) ?_); intro g w1 hb1 B1 hg1; have C1 := B1.cells)
        | (go_at_call 18; (with_reducible refine (numText_any mag neg A c _ (HTab.out.below (bthen hw hb1)) (lim.below (bthen hw hb1))).mono ?_); rintro e w2 ⟨v2, rfl, rfl, hb2⟩))
      go_ret
      exact ⟨_, rfl, by rw [hL.out]; rfl, bthen hb1 hb2⟩
    by_cases k2 : kind = 2
    · subst k2
      have hL : As (showL q (.mk 2 n neg A c mag text Ai ci items Ar cr rest) = (if n = 1 then [35, 116] else [35, 102])) := ⟨by rw [showL, if_neg (by decide), if_pos rfl]⟩
      clear hsl k1
      by_cases n1 : n = 1
      · subst n1
        go_enter Tryz.func11, Tryz.ntmps11
        go_wp2_with ((with_reducible refine g_dst 2 ?_); go_must (refine ev_box 2 rfl (cs := [.int .i64 2, .int .i64 1, .bool neg, .slice A mag.length c, .string ⟨text.toArray⟩, .slice Ai items.length ci, .slice Ar rest.length cr]) (by rfl) ?_); intro g w1 hb1 B1 hg1; have C1 := B1.cells)
        go_ret
        exact ⟨_, rfl, by rw [hL.out]; rfl, hb1⟩
      · have z : ((n : Int) == 1) = false := by simpa using n1
        have hL2 : As (showL q (.mk 2 n neg A c mag text Ai ci items Ar cr rest) = [35, 102]) := ⟨by rw [hL.out, if_neg n1]⟩
        clear n1
        go_enter Tryz.func11, Tryz.ntmps11
        go_wp2_with ((with_reducible refine g_dst 2 ?_); go_must (refine ev_box 2 rfl (cs := [.int .i64 2, .int .i64 n, .bool neg, .slice A mag.length c, .string ⟨text.toArray⟩, .slice Ai items.length ci, .slice Ar rest.length cr]) (by rfl) ?_); intro g w1 hb1 B1 hg1; have C1 := B1.cells)
        go_ret
        exact ⟨_, rfl, by rw [hL2.out]; rfl, hb1⟩
    by_cases k3 : kind = 3
    · subst k3
      have hL : As (showL q (.mk 3 n neg A c mag text Ai ci items Ar cr rest) = (if q then charL n else [UInt8.ofNat (n % 256).toNat])) := ⟨by rw [showL, if_neg (by decide), if_neg (by decide), if_pos rfl]⟩
      clear hsl k1 k2
      cases q with
      | true =>
        go_enter Tryz.func11, Tryz.ntmps11
        go_wp2_with (first
          | ((with_reducible refine g_dst 2 ?_); go_must (refine ev_box 2 rfl (cs := [.int .i64 3, .int .i64 n, .bool neg, .slice A mag.length c, .string ⟨text.toArray⟩, .slice Ai items.length ci, .slice Ar rest.length cr]) (by rfl) ?_); intro g w1 hb1 B1 hg1; have C1 := B1.cells)
          | (go_at_call 19; (with_reducible refine (char_any n _ hn1 hn2).mono ?_); rintro e w2 ⟨v2, rfl, rfl, hb2⟩))
        go_ret
        exact ⟨_, rfl, by rw [hL.out]; rfl, bthen hb1 hb2⟩
      | false =>
        obtain ⟨k, hk⟩ : ∃ k : Nat, k = (n % 256).toNat := ⟨_, rfl⟩
        have hk2 : k < 256 := by omega
        have ek : IntKind.u8.wrap n = (k : Int) := by rw [IntKind.wrap_u8]; omega
        obtain ⟨y, hy⟩ : ∃ y, y = [UInt8.ofNat k] := ⟨_, rfl⟩
        have Hy := As.mk hy
        have hL2 : As (showL false (.mk 3 n neg A c mag text Ai ci items Ar cr rest) = y) := ⟨by rw [hL.out, hy, hk]; rfl⟩
        clear hk hy
        go_enter Tryz.func11, Tryz.ntmps11
        go_wp2_with (first
          | ((with_reducible refine g_dst 2 ?_); go_must (refine ev_box 2 rfl (cs := [.int .i64 3, .int .i64 n, .bool neg, .slice A mag.length c, .string ⟨text.toArray⟩, .slice Ai items.length ci, .slice Ar rest.length cr]) (by rfl) ?_); intro g w1 hb1 B1 hg1; have C1 := B1.cells)
          | ((with_reducible refine g_dst 29 ?_); go_must (refine ev_lit (v := fun g => .slice (some ⟨g, 0, none⟩) 1 1) 29 rfl (cs := [valB8 k]) (t := 5) (by go_simp; rfl) ?_); intro g2 w2 hb2 B2 hg2; have hcv := conv_one hk2 B2; rw [← Hy.out] at hcv))
        go_ret
        exact ⟨_, rfl, by rw [hL2.out]; rfl, bthen hb1 hb2⟩
    by_cases k4 : kind = 4
    · subst k4
      have hL : As (showL q (.mk 4 n neg A c mag text Ai ci items Ar cr rest) = (if q then textL text else text)) := ⟨by rw [showL, if_neg (by decide), if_neg (by decide), if_neg (by decide), if_pos rfl]⟩
      clear hsl k1 k2 k3
      cases q with
      | true =>
        go_enter Tryz.func11, Tryz.ntmps11
        go_wp2_with (first
          | ((with_reducible refine g_dst 2 ?_); go_must (refine ev_box 2 rfl (cs := [.int .i64 4, .int .i64 n, .bool neg, .slice A mag.length c, .string ⟨text.toArray⟩, .slice Ai items.length ci, .slice Ar rest.length cr]) (by rfl) ?_); intro g w1 hb1 B1 hg1; have C1 := B1.cells)
          | (go_at_call 20; (with_reducible refine (text_any text _ htx).mono ?_); rintro e w2 ⟨v2, rfl, rfl, hb2⟩))
        go_ret
        exact ⟨_, rfl, by rw [hL.out]; rfl, bthen hb1 hb2⟩
      | false =>
        go_enter Tryz.func11, Tryz.ntmps11
        go_wp2_with ((with_reducible refine g_dst 2 ?_); go_must (refine ev_box 2 rfl (cs := [.int .i64 4, .int .i64 n, .bool neg, .slice A mag.length c, .string ⟨text.toArray⟩, .slice Ai items.length ci, .slice Ar rest.length cr]) (by rfl) ?_); intro g w1 hb1 B1 hg1; have C1 := B1.cells)
        go_ret
        exact ⟨_, rfl, by rw [hL.out]; rfl, hb1⟩
    by_cases k5 : kind = 5
    · subst k5
      have hL : As (showL q (.mk 5 n neg A c mag text Ai ci items Ar cr rest) = text) := ⟨by rw [showL, if_neg (by decide), if_neg (by decide), if_neg (by decide), if_neg (by decide), if_pos rfl]⟩
      clear hsl k1 k2 k3 k4
      go_enter Tryz.func11, Tryz.ntmps11
      go_wp2_with ((with_reducible refine g_dst 2 ?_); go_must (refine ev_box 2 rfl (cs := [.int .i64 5, .int .i64 n, .bool neg, .slice A mag.length c, .string ⟨text.toArray⟩, .slice Ai items.length ci, .slice Ar rest.length cr]) (by rfl) ?_); intro g w1 hb1 B1 hg1; have C1 := B1.cells)
      go_ret
      exact ⟨_, rfl, by rw [hL.out]; rfl, hb1⟩
    by_cases k6 : kind = 6
    · subst k6
      have hL : As (showL q (.mk 6 n neg A c mag text Ai ci items Ar cr rest) = listL q items rest) := ⟨by rw [showL, if_neg (by decide), if_neg (by decide), if_neg (by decide), if_neg (by decide), if_neg (by decide), if_pos rfl, listL]⟩
      clear hsl k1 k2 k3 k4 k5
      go_enter Tryz.func11, Tryz.ntmps11
      go_wp2_with (first
        | ((with_reducible refine g_dst 2 ?_); go_must (refine ev_box 2 rfl (cs := [.int .i64 6, .int .i64 n, .bool neg, .slice A mag.length c, .string ⟨text.toArray⟩, .slice Ai items.length ci, .slice Ar rest.length cr]) (by rfl) ?_); intro g w1 hb1 B1 hg1; have C1 := B1.cells)
        | (go_at_call 21; (with_reducible refine (list_any w q 6 n neg A c mag text Ai ci items Ar cr rest ri li rr lr HI.out HR.out him Hrl.out Hhl.out _ (bthen hw hb1)).mono ?_); rintro e w2 ⟨v2, rfl, rfl, hb2⟩))
      go_ret
      exact ⟨_, rfl, by rw [hL.out]; rfl, bthen hb1 hb2⟩
    by_cases k7 : kind = 7
    · subst k7
      have hrow := fun w' h => row_any w items q Ai ci ri li HI.out him (Nat.le_trans Hrl.out (by omega)) w' h
      have hTl := Hrl.out
      have hL : As (showL q (.mk 7 n neg A c mag text Ai ci items Ar cr rest) = [35, 40] ++ (Lib.join (showAll q items) [32] ++ [41])) := ⟨by rw [showL, if_neg (by decide), if_neg (by decide), if_neg (by decide), if_neg (by decide), if_neg (by decide), if_neg (by decide), if_pos rfl]⟩
      obtain ⟨T, hT⟩ : ∃ T, T = Lib.join (showAll q items) [32] := ⟨_, rfl⟩
      simp only [← hT] at hrow hTl hL
      have HRow := As.mk hrow
      clear hrow hT
      clear hsl k1 k2 k3 k4 k5 k6
      go_enter Tryz.func11, Tryz.ntmps11
      go_wp2_with (first
        | ((with_reducible refine g_dst 2 ?_); go_must (refine ev_box 2 rfl (cs := [.int .i64 7, .int .i64 n, .bool neg, .slice A mag.length c, .string ⟨text.toArray⟩, .slice Ai items.length ci, .slice Ar rest.length cr]) (by rfl) ?_); intro g w1 hb1 B1 hg1; have C1 := B1.cells)
        | (go_at_call 23; (with_reducible refine (HRow.out _ (bthen hw hb1)).mono ?_); rintro e w2 ⟨v2, rfl, rfl, hb2⟩; replace hb2 := bthen hb1 hb2)
        | ((with_reducible refine g_dst 54 ?_); go_must (refine ev_lit (v := fun g => .slice (some ⟨g, 0, none⟩) 3 3) 54 rfl (cs := [valT [35, 40], valT T, valT [41]]) (t := 9) (by go_simp; rfl) ?_); intro g3 w3 hb3 B3 hg3; replace hb3 := bthen hb2 hb3)
        | (go_at_call 22; (with_reducible refine (pieces3 [35, 40] T [41] _ _ _ (B3.rdm (l := [[35, 40], T, [41]]) encT_one) (by omega) (by simp; omega)).mono ?_); rintro e w5 ⟨v5, rfl, rfl, hb5⟩))
      go_ret
      exact ⟨_, rfl, by rw [hL.out]; simp, bthen hb3 hb5⟩
    by_cases k9 : kind = 9
    · subst k9
      have hL : As (showL q (.mk 9 n neg A c mag text Ai ci items Ar cr rest) = [35, 60, 112, 114, 111, 99, 101, 100, 117, 114, 101, 62]) := ⟨by rw [showL, if_neg (by decide), if_neg (by decide), if_neg (by decide), if_neg (by decide), if_neg (by decide), if_neg (by decide), if_neg (by decide), if_pos rfl]⟩
      clear hsl k1 k2 k3 k4 k5 k6 k7
      go_enter Tryz.func11, Tryz.ntmps11
      go_wp2_with ((with_reducible refine g_dst 2 ?_); go_must (refine ev_box 2 rfl (cs := [.int .i64 9, .int .i64 n, .bool neg, .slice A mag.length c, .string ⟨text.toArray⟩, .slice Ai items.length ci, .slice Ar rest.length cr]) (by rfl) ?_); intro g w1 hb1 B1 hg1; have C1 := B1.cells)
      go_ret
      exact ⟨_, rfl, by rw [hL.out]; rfl, hb1⟩
    by_cases k10 : kind = 10
    · subst k10
      have hcond : As (showL q (.mk 10 n neg A c mag text Ai ci items Ar cr rest) = ([35, 60, 99, 111, 110, 100, 105, 116, 105, 111, 110, 32] ++ text) ++ (((showAll true items).map fun x => 32 :: x).flatten ++ [62])) := ⟨by rw [showL, if_neg (by decide), if_neg (by decide), if_neg (by decide), if_neg (by decide), if_neg (by decide), if_neg (by decide), if_neg (by decide), if_neg (by decide), if_pos rfl]⟩
      obtain ⟨P, hP⟩ : ∃ P, P = [35, 60, 99, 111, 110, 100, 105, 116, 105, 111, 110, 32] ++ text := ⟨_, rfl⟩
      have hPl : P.length ≤ 2199023255552 := by rw [hP]; simp; omega
      rw [← hP] at hcond
      have hp : ∀ w g, Rd encT 1 w (some ⟨g, 0, none⟩) [[35, 60, 99, 111, 110, 100, 105, 116, 105, 111, 110, 32], text] → Calls Tryz.prog 22 #[.slice (some ⟨g, 0, none⟩) 2 2] w (Gives w fun v _ => v = .string ⟨P.toArray⟩) := fun w g hr => by
        rw [hP]; exact pieces2 _ text g 2 w hr (by omega) (by simp; omega)
      have HP := As.mk hp
      clear hp hP
      clear hsl k1 k2 k3 k4 k5 k6 k7 k9
      go_enter Tryz.func11, Tryz.ntmps11
      go_wp2_with (first
        | ((with_reducible refine g_dst 2 ?_); go_must (refine ev_box 2 rfl (cs := [.int .i64 10, .int .i64 n, .bool neg, .slice A mag.length c, .string ⟨text.toArray⟩, .slice Ai items.length ci, .slice Ar rest.length cr]) (by rfl) ?_); intro g w1 hb1 B1 hg1; have C1 := B1.cells)
        | ((with_reducible refine g_dst 62 ?_); go_must (refine ev_lit (v := fun g => .slice (some ⟨g, 0, none⟩) 2 2) 62 rfl (cs := [valT [35, 60, 99, 111, 110, 100, 105, 116, 105, 111, 110, 32], valT text]) (t := 9) (by go_simp; rfl) ?_); intro g2 w2 hb2 B2 hg2; replace B1 := B1.below hb2; replace hb2 := bthen hb1 hb2)
        | (go_at_call 22; (with_reducible refine (HP.out _ _ (B2.rdm (l := [[35, 60, 99, 111, 110, 100, 105, 116, 105, 111, 110, 32], text]) encT_one)).mono ?_); rintro e w3 ⟨v3, rfl, rfl, hb3⟩; replace B1 := B1.below hb3; clear C1; have C1 := B1.cells; replace hb3 := bthen hb2 hb3))
      clear C1
      go_loopw [5, 7, 67] (fun v u z wq => ∃ k : Nat, ∃ O : List UInt8, k ≤ items.length ∧ z = .int .i64 (k : Int) ∧ v = .string ⟨O.toArray⟩ ∧ As (O = P ++ ((showAll true (items.take k)).map fun x => 32 :: x).flatten) ∧ Below w'.heap.size w' wq) (fun v u z _ => items.length - (intOf z).toNat)
      case atStart => exact ⟨0, P, by omega, rfl, rfl, ⟨by simp [showAll]⟩, hb3⟩
      case round =>
        obtain ⟨k, O, hk, rfl, rfl, hO, hb⟩ := hrel
        have hOl : O.length ≤ 40000000000000 := by rw [hO.out, List.length_append]; have := Hcl.out k; omega
        have hww := bthen hw hb
        by_cases h : k < items.length
        · obtain ⟨b, off, rfl⟩ := ri.get (ne_nil_of_lt h)
          have hrk := (ri.below hww).cell k h
          have hsx := fun w' hb => HI.out _ (List.getElem_mem h) true w' hb
          have hst : P ++ ((showAll true (items.take (k + 1))).map fun x => 32 :: x).flatten = O ++ ([32] ++ showL true items[k]) := by
            rw [hO.out, showAll_map, showAll_map, List.take_succ_eq_append_getElem h, List.map_append, List.map_append, List.flatten_append, List.append_assoc]
            simp
          have hl1 := Hcl.out (k + 1)
          obtain ⟨x, hxe⟩ : ∃ x, x = items[k] := ⟨_, rfl⟩
          rw [← hxe] at hrk hsx hst
          obtain ⟨T, hT⟩ : ∃ T, T = showL true x := ⟨_, rfl⟩
          rw [← hT] at hst hsx
          obtain ⟨O2, hO2⟩ : ∃ O2, O2 = O ++ ([32] ++ T) := ⟨_, rfl⟩
          have hO2l : O2.length ≤ 40000000000000 := by rw [hO2, ← hst, List.length_append]; omega
          have hp3 : ∀ w g, Rd encT 1 w (some ⟨g, 0, none⟩) [O, [32], T] → Calls Tryz.prog 22 #[.slice (some ⟨g, 0, none⟩) 3 3] w (Gives w fun v _ => v = .string ⟨O2.toArray⟩) := fun w g hr => by
            have hll := congrArg List.length hO2
            simp only [List.length_append] at hll
            rw [hO2]; exact pieces3 O [32] T g 3 w hr (by omega) (by omega)
          have HP3 := As.mk hp3
          have HO2 : As (O2 = P ++ ((showAll true (items.take (k + 1))).map fun x => 32 :: x).flatten) := ⟨by rw [hO2, hst]⟩
          clear hxe hT hst hO2 hp3 hl1
          obtain ⟨kind', n', neg', mA, mc, mag', text', Ai', ci', items', Ar', cr', rest'⟩ := x
          simp only [encD] at hsx
          have HS := As.mk hsx
          clear hsx
          have c0 : wr.cell? ⟨b, off + k * 7, none⟩ = some (.int .i64 kind') := hrk 0 _ rfl
          have c1 := hrk 1 _ rfl
          have c2 := hrk 2 _ rfl
          have c3 := hrk 3 _ rfl
          have c4 := hrk 4 _ rfl
          have c5 := hrk 5 _ rfl
          have c6 := hrk 6 _ rfl
          clear hrk
          go_wp2_with (first
            | ((with_reducible refine g_dst 7 ?_); go_must (refine ev_alloc 7 rfl infoD (cs := [.int .i64 0, .int .i64 0, .bool false, .slice none 0 0, .string ⟨#[]⟩, .slice none 0 0, .slice none 0 0]) rfl ?_); intro g4 w4 hb4 B4 hg4)
            | ((with_reducible refine g_store 7 ?_); go_must (refine ev_store rfl rfl B4 (news := encD (.mk kind' n' neg' mA mc mag' text' Ai' ci' items' Ar' cr' rest')) (by rfl) infoD (by simp [encD]) (by simp [encD, Value.oneCell']) ?_); intro w5 ho5 B5; simp only [encD, List.take_zero, List.nil_append, List.length_cons, List.length_nil, List.drop_succ_cons, List.drop_zero, List.append_nil, List.cons_append] at B5; have hbw5 := bthen hb (hb4.trans (ho5.below hg4)); have C5 := B5.cells)
            | (go_at_call 11; (with_reducible refine (HS.out _ (bthen hw hbw5)).mono ?_); rintro e w6 ⟨v6, rfl, rfl, hb6⟩; have hbw6 := bthen hbw5 hb6)
            | ((with_reducible refine g_dst 74 ?_); go_must (refine ev_lit (v := fun g => .slice (some ⟨g, 0, none⟩) 3 3) 74 rfl (cs := [valT O, valT [32], valT T]) (t := 9) (by go_simp; rfl) ?_); intro g7 w7 hb7 B7 hg7; have hbw7 := bthen hbw6 hb7)
            | (go_at_call 22; (with_reducible refine (HP3.out _ _ (B7.rdm (l := [O, [32], T]) encT_one)).mono ?_); rintro e w8 ⟨v8, rfl, rfl, hb8⟩; have hbw8 := bthen hbw7 hb8))
          go_roundw
          case rel => exact ⟨k + 1, O2, by omega, by go_num, rfl, HO2, hbw8⟩
          case measure => simp [intOf]; omega
        · have hf : As (O ++ [62] = P ++ (((showAll true items).map fun x => 32 :: x).flatten ++ [62])) := ⟨by rw [hO.out, List.take_of_length_le (by omega), List.append_assoc]⟩
          go_wp2_with (first
            | ((with_reducible refine g_dst 78 ?_); go_must (refine ev_lit (v := fun g => .slice (some ⟨g, 0, none⟩) 2 2) 78 rfl (cs := [valT O, valT [62]]) (t := 9) (by go_simp; rfl) ?_); intro g7 w7 hb7 B7 hg7; have hbw7 := bthen hb hb7)
            | (go_at_call 22; (with_reducible refine (pieces2 O [62] _ _ _ (B7.rdm (l := [O, [62]]) encT_one) (by omega) (by simp; omega)).mono ?_); rintro e w8 ⟨v8, rfl, rfl, hb8⟩))
          go_ret
          exact ⟨_, rfl, by rw [hcond.out, ← hf.out]; rfl, bthen hbw7 hb8⟩
    have hL : As (showL q (.mk kind n neg A c mag text Ai ci items Ar cr rest) = [35, 60, 118, 111, 105, 100, 62]) := ⟨by rw [showL, if_neg k1, if_neg k2, if_neg k3, if_neg k4, if_neg k5, if_neg k6, if_neg k7, if_neg k9, if_neg k10]⟩
    have z1 : ((kind : Int) == 1) = false := by simpa using k1
    have z2 : ((kind : Int) == 2) = false := by simpa using k2
    have z3 : ((kind : Int) == 3) = false := by simpa using k3
    have z4 : ((kind : Int) == 4) = false := by simpa using k4
    have z5 : ((kind : Int) == 5) = false := by simpa using k5
    have z6 : ((kind : Int) == 6) = false := by simpa using k6
    have z7 : ((kind : Int) == 7) = false := by simpa using k7
    have z9 : ((kind : Int) == 9) = false := by simpa using k9
    have z10 : ((kind : Int) == 10) = false := by simpa using k10
    clear hsl k1 k2 k3 k4 k5 k6 k7 k9 k10
    go_enter Tryz.func11, Tryz.ntmps11
    go_wp2_with ((with_reducible refine g_dst 2 ?_); go_must (refine ev_box 2 rfl (cs := [.int .i64 kind, .int .i64 n, .bool neg, .slice A mag.length c, .string ⟨text.toArray⟩, .slice Ai items.length ci, .slice Ar rest.length cr]) (by rfl) ?_); intro g w1 hb1 B1 hg1; have C1 := B1.cells)
    go_ret
    exact ⟨_, rfl, by rw [hL.out]; rfl, hb1⟩
end Go.Proofs.YtgeokccfobmeiaaGreatDoor
/- tandemref06.many. -/
namespace Go.Proofs.YtgeokccfobmeiaaGreatDoor
open Go.RowKit Go.Proofs.YtgeokccfobmeiaaGreatDoorL Go.Proofs.YtgeokccfobmeiaaGreatDoorM
set_option linter.unusedVariables false
set_option linter.unusedSimpArgs false
theorem join_snoc (l : List (List UInt8)) (x sep : List UInt8) (h : l ≠ []) : Lib.join (l ++ [x]) sep = Lib.join l sep ++ (sep ++ x) := by
  cases l with
  | nil => exact absurd rfl h
  | cons y r =>
    rw [List.cons_append, Lib.join_cons, Lib.join_cons]
    simp [Lib.joinTail]
end Go.Proofs.YtgeokccfobmeiaaGreatDoor
/- tandemref06.text: a datum's text. -/
namespace Go.Proofs.YtgeokccfobmeiaaGreatDoor
open Go.RowKit Go.Proofs.YtgeokccfobmeiaaGreatDoorL Go.Proofs.YtgeokccfobmeiaaGreatDoorM
set_option linter.unusedVariables false
set_option linter.unusedSimpArgs false
theorem addL {P : Program} (w : World) (x y z : List UInt8) (h : z = x ++ y) (hl : z.length ≤ 9223372036854775807) : (Op.stringOp .add ⟨x.toArray⟩ ⟨y.toArray⟩).run P w = .ok (.string ⟨z.toArray⟩) w := by
  rw [h]; exact run_add_lists w x y (by rw [h, List.length_append] at hl; exact hl)
end Go.Proofs.YtgeokccfobmeiaaGreatDoor
