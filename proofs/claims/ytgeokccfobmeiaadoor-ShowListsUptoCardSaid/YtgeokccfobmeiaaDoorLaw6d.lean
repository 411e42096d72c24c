/- tandemlaw06.ShowLists answers true. -/
import Derived.Test.YtgeokccfobmeiaaDoorLaw6b
namespace Go.Proofs.YtgeokccfobmeiaaDoor
open Go.RowKit Go.Proofs.YtgeokccfobmeiaaDoorL Go.Proofs.YtgeokccfobmeiaaDoorM
set_option linter.unusedVariables false
set_option linter.unusedSimpArgs false
/-- a list or a vector without a rest -/
def lstD (kind : Int) (A : Option Addr) (c : Nat) (m : List LD) : LD := .mk kind 0 false none 0 [] [] A c m none 0 []
def dotD (A : Option Addr) (c : Nat) (m : List LD) (g : Nat) (y : LD) : LD := .mk 6 0 false none 0 [] [] A c m (some ⟨g, 0, none⟩) 1 [y]
theorem lst_wt (kind : Int) (A : Option Addr) (c : Nat) (m : List LD) : wtD (lstD kind A c m) = 1 + wtAll m := by rw [lstD, wtD]; simp [wtAll]
theorem dot_wt (A : Option Addr) (c : Nat) (m : List LD) (g : Nat) (y : LD) : wtD (dotD A c m g y) = 1 + wtAll m + wtD y := by rw [dotD, wtD]; simp [wtAll]
theorem lst_good {w : World} {A : Option Addr} {c : Nat} {m : List LD} (kind : Int) (hr : Rd encD 7 w A m) (hc : m.length ≤ c) (hn : A = none → c = 0) (hg : ∀ y ∈ m, Good w y) : Good w (lstD kind A c m) :=
  .mk (by omega) (by omega) ⟨Rd.nil _ _ _ _, fun x hx => (nomatch hx), Nat.le_refl _, fun _ => rfl, by simp⟩ hr hc hn (Rd.nil _ _ _ _) (Nat.le_refl _) (fun _ => rfl) hg (fun x hx => (nomatch hx))
theorem dot_good {w : World} {A : Option Addr} {c g : Nat} {m : List LD} {y : LD} (kind : Int) (h : Good w (lstD kind A c m)) (hy : Good w y) (B : Blk w g (encD y) 27) : Good w (dotD A c m g y) := by
  cases h with
  | mk hn1 hn2 lim ri li ni rr lr nr gi gr =>
    refine .mk (by omega) (by omega) lim ri li ni (B.rd (l := [y]) lenD (by simp)) (Nat.le_refl _) (fun h => by cases h) gi (fun x hx => ?_)
    simp only [List.mem_singleton] at hx
    subst hx; exact hy
theorem write_list {W : World} {A : Option Addr} {c : Nat} {m items : List LD} (S Q : List UInt8) (ht : Tab W) (hg : Good W (lstD 6 A c m)) (hs : SameAll m items) (hS : S = Lib.join (showAll true items) [32]) (hQ : Q = [40] ++ S ++ [41]) (hwt : wtAll items ≤ 536870912) :
    Calls Tryd.prog 6 #[.agg #[.int .i64 6, .int .i64 0, .bool false, .slice none 0 0, .string ⟨#[]⟩, .slice A m.length c, .slice none 0 0]] W (Gives W fun v _ => v = .string ⟨Q.toArray⟩) := by
  have h := write_any (lstD 6 A c m) W ht hg (by rw [lst_wt, hs.wt]; omega)
  have ht : showL true (lstD 6 A c m) = Q := by rw [lstD, showL]; simp [hs.text true, ← hS, hQ]
  rw [ht] at h
  exact h
theorem write_vec {W : World} {A : Option Addr} {c : Nat} {m items : List LD} (S Q : List UInt8) (ht : Tab W) (hg : Good W (lstD 7 A c m)) (hs : SameAll m items) (hS : S = Lib.join (showAll true items) [32]) (hQ : Q = [35, 40] ++ S ++ [41]) (hwt : wtAll items ≤ 536870912) :
    Calls Tryd.prog 6 #[.agg #[.int .i64 7, .int .i64 0, .bool false, .slice none 0 0, .string ⟨#[]⟩, .slice A m.length c, .slice none 0 0]] W (Gives W fun v _ => v = .string ⟨Q.toArray⟩) := by
  have h := write_any (lstD 7 A c m) W ht hg (by rw [lst_wt, hs.wt]; omega)
  have ht : showL true (lstD 7 A c m) = Q := by rw [lstD, showL]; simp [hs.text true, ← hS, hQ]
  rw [ht] at h
  exact h
theorem write_dot {W : World} {A : Option Addr} {c g : Nat} {m items : List LD} {y x : LD} (S Q : List UInt8) (ht : Tab W) (hg : Good W (dotD A c m g y)) (hs : SameAll m items) (hy : SameD y x) (hn : 0 < items.length) (hS : S = Lib.join (showAll true items) [32]) (hQ : Q = [40] ++ S ++ [32, 46, 32] ++ showL true x ++ [41]) (hwt : wtAll items + wtD x ≤ 536870912) :
    Calls Tryd.prog 6 #[.agg #[.int .i64 6, .int .i64 0, .bool false, .slice none 0 0, .string ⟨#[]⟩, .slice A m.length c, .slice (some ⟨g, 0, none⟩) 1 1]] W (Gives W fun v _ => v = .string ⟨Q.toArray⟩) := by
  have h := write_any (dotD A c m g y) W ht hg (by rw [dot_wt, hs.wt, hy.wt]; omega)
  have ht : showL true (dotD A c m g y) = Q := by
    have hm : m ≠ [] := fun e => by have := hs.len; rw [e] at this; simp at this; omega
    rw [dotD, showL]; simp [hs.text true, hy.text true, ← hS, hQ, hm, showAll]
  rw [ht] at h
  exact h
theorem wt_take : ∀ (l : List LD) (k : Nat), wtAll (l.take k) ≤ wtAll l
  | [], k => by simp
  | x :: l, 0 => by simp [wtAll]
  | x :: l, k + 1 => by
    have := wt_take l k
    simp only [List.take_succ_cons, wtAll]; omega
set_option maxRecDepth 100000 in
set_option maxHeartbeats 4000000 in
theorem showLists_plain (items : List LD) (A : Option Addr) (c : Nat) (x : LD) (w : World) (htab : Tab w) (hr : Rd encD 7 w A items) (hc : items.length ≤ c) (hgi : ∀ y ∈ items, Good w y) (hgx : Good w x) (hwt : wtAll items + wtD x ≤ 536870912) :
    Calls Tryd.prog 5 #[.slice A items.length c, .agg (encD x).toArray, .bool false] w (Gives w fun v _ => v = .bool true) := by
  have hlen := wt_len items
  have hwx := wtD_pos x
  have HI := As.mk (fun (k : Nat) (hk : k < items.length) w' hb => copy_ok w items[k] (hgi _ (List.getElem_mem hk)) (by have := wt_mem (List.getElem_mem hk); omega) w' hb)
  have HW := As.mk (fun (k : Nat) (hk : k < items.length) (y : LD) (W : World) (ht : Tab W) (hg : Good W y) (hs : SameD y items[k]) => write_any y W ht hg (by rw [hs.wt]; have := wt_mem (List.getElem_mem hk); omega))
  have HTL := As.mk (fun (k : Nat) (hk : k < items.length) => show_len (hgi _ (List.getElem_mem hk)) true)
  have HCA := As.mk (fun w' hb => copyAll_any w items A c hr hc (fun y hy => copy_ok w y (hgi y hy) (by have := wt_mem hy; omega)) (by omega) w' hb)
  have HJ := As.mk (fun k => Nat.le_trans (row_len2 (l := items.take k) (wr := true) (fun y hy => show_len (hgi y (List.mem_of_mem_take hy)) true)) (Nat.mul_le_mul_left 20 (wt_take items k)))
  have hcp := fun w' hb => copy_ok w x hgx (by omega) w' hb
  have HXL := As.mk (show_len hgx true)
  obtain ⟨x0, hx0⟩ : ∃ x0, x0 = x := ⟨_, rfl⟩
  have HT := As.mk htab
  have Hgi := As.mk hgi
  have Hwt := As.mk hwt
  have Hlen := As.mk hlen
  have hcp2 : ∀ w', Below w.heap.size w w' → Calls Tryd.prog 7 #[.agg (encD x).toArray] w' (Gives w' fun v w2 => ∃ y, v = .agg (encD y).toArray ∧ Good w2 y ∧ (∀ b ∈ footD y, w'.heap.size ≤ b) ∧ SameD y x0) := hx0 ▸ hcp
  rw [← hx0] at HXL Hwt
  have Hx0 := As.mk hx0
  have hl30 : items.length ≤ 536870912 := by omega
  clear hgi htab hgx hwt hlen hx0 hwx hcp
  obtain ⟨kind, n, neg, mA, mc, mag, text, Ai, ci, xitems, Ar, cr, xrest⟩ := x
  simp only [encD] at hcp2 ⊢
  have HCX := As.mk hcp2
  clear hcp2
  go_enter Tryd.func5, Tryd.ntmps5
  go_wp2_with ((with_reducible refine g_dst 4 ?_); go_must (refine ev_box 4 rfl (cs := [.int .i64 kind, .int .i64 n, .bool neg, .slice mA mag.length mc, .string ⟨text.toArray⟩, .slice Ai xitems.length ci, .slice Ar xrest.length cr]) (by rfl) ?_); intro g w1 hb1 B1 hg1)
  go_loopw [7, 8] (fun v u wq => ∃ k : Nat, ∃ S : List UInt8, k ≤ items.length ∧ S.length ≤ 10737418240 ∧ v = .string ⟨S.toArray⟩ ∧ u = .int .i64 (k : Int) ∧ As (S = Lib.join (showAll true (items.take k)) [32]) ∧ Below w1.heap.size w1 wq) (fun v u _ => items.length - (intOf u).toNat)
  case atStart => exact ⟨0, [], by omega, by simp, rfl, rfl, ⟨by simp [showAll, Lib.join_nil]⟩, Below.refl _ _⟩
  case round =>
    obtain ⟨k, S, hk, hSl, rfl, rfl, hS, hb⟩ := hrel
    have hbw := bthen hb1 hb
    by_cases h : k < items.length
    · obtain ⟨b, off, rfl⟩ := hr.get (ne_nil_of_lt h)
      have hrk := (hr.below hbw).cell k h
      have hcp := fun w' hb => HI.out k h w' hb
      have hww := HW.out k h
      have htl := HTL.out k h
      have hwl := wt_mem (List.getElem_mem h)
      have hj1 := HJ.out (k + 1)
      have hall : showAll true (items.take (k + 1)) = showAll true (items.take k) ++ [showL true items[k]] := by
        rw [showAll_map, showAll_map, List.take_succ_eq_append_getElem h, List.map_append]; rfl
      obtain ⟨y, hy⟩ : ∃ y, y = items[k] := ⟨_, rfl⟩
      rw [← hy] at hrk hcp hww htl hall hwl
      obtain ⟨T, hT⟩ : ∃ T, T = showL true y := ⟨_, rfl⟩
      rw [← hT] at htl hall
      obtain ⟨y0, hy0⟩ : ∃ y0, y0 = y := ⟨_, rfl⟩
      have hwt0 := Hwt.out
      have hTl : T.length ≤ 10737418240 := by omega
      have hwk : ∀ (z : LD) (W : World), Tab W → Good W z → SameD z y0 → Calls Tryd.prog 6 #[.agg (encD z).toArray] W (Gives W fun v _ => v = .string ⟨T.toArray⟩) := fun z W ht hg hs => by
        have := hww z W ht hg (hy0 ▸ hs)
        rw [hs.text true, hy0, ← hT] at this
        exact this
      have Hwk := As.mk hwk
      rw [← hy0] at hcp
      have hlk : (showAll true (items.take k)).length = k := by rw [showAll_map, List.length_map, List.length_take]; omega
      have hj1' : (Lib.join (showAll true (items.take (k + 1))) [32]).length ≤ 10737418240 := by have := wt_take items (k + 1); omega
      have Hy0 := As.mk hy0
      clear hy hT htl hww hwk hwl hj1 hy0 hwt0
      obtain ⟨kind2, n2, neg2, mA2, mc2, mag2, text2, Ai2, ci2, items2, Ar2, cr2, rest2⟩ := y
      rw [Hy0.out] at hcp
      simp only [encD] at hcp
      have HS := As.mk hcp
      clear hcp
      have c0 : wr.cell? ⟨b, off + k * 7, none⟩ = some (.int .i64 kind2) := hrk 0 _ rfl
      have c1 := hrk 1 _ rfl
      have c2 := hrk 2 _ rfl
      have c3 := hrk 3 _ rfl
      have c4 := hrk 4 _ rfl
      have c5 := hrk 5 _ rfl
      have c6 := hrk 6 _ rfl
      clear hrk
      by_cases k0 : k = 0
      · have hst : As (S ++ T = Lib.join (showAll true (items.take (k + 1))) [32]) := ⟨by
          rw [hS.out, hall, k0, List.take_zero]; simp [showAll, Lib.join_nil, Lib.join_one]⟩
        have hsl : (S ++ T).length ≤ 10737418240 := by rw [hst.out]; exact hj1'
        have z0 : decide ((0 : Int) < (k : Int)) = false := by simp; omega
        have z1 : decide (0 < k) = false := by simp; omega
        have ha : ∀ w : World, (Op.stringOp .add ⟨S.toArray⟩ ⟨T.toArray⟩).run Tryd.prog w = .ok (.string ⟨(S ++ T).toArray⟩) w := fun w => run_add_lists w S T (by omega)
        obtain ⟨U, hU⟩ : ∃ U, U = S ++ T := ⟨_, rfl⟩
        rw [← hU] at hst hsl
        simp only [← hU] at ha
        clear hall hlk k0 hj1' hU
        go_wp2_with (first
          | (go_at_call 7; (with_reducible refine (HS.out _ hbw).mono ?_); rintro e w4 ⟨v4, rfl, ⟨z, rfl, hgz, hfz, hsz⟩, hb4⟩; have hbw4 := bthen hbw hb4; have hw := Hwk.out z _ (HT.out.below hbw4) hgz (Hy0.out ▸ hsz); obtain ⟨kind', n', neg', mA', mc', mag', text', Ai', ci', items', Ar', cr', rest'⟩ := z; simp only [encD] at hw; replace hw := As.mk hw; simp only [encD])
          | (go_at_call 6; (with_reducible refine hw.out.mono ?_); rintro e w5 ⟨v5, rfl, rfl, hb5⟩; have hbq := bthen hb (bthen hb4 hb5)))
        go_roundw
        case rel => exact ⟨k + 1, U, by omega, hsl, rfl, by go_num, ⟨hst.out⟩, hbq⟩
        case measure => simp [intOf]; omega
      · have hne : showAll true (items.take k) ≠ [] := fun e => by rw [e] at hlk; exact k0 hlk.symm
        have hst : As (S ++ [32] ++ T = Lib.join (showAll true (items.take (k + 1))) [32]) := ⟨by
          rw [hS.out, hall, join_snoc _ _ _ hne, List.append_assoc]⟩
        have hsl : (S ++ [32] ++ T).length ≤ 10737418240 := by rw [hst.out]; exact hj1'
        have z0 : decide ((0 : Int) < (k : Int)) = true := by simp; omega
        have z1 : decide (0 < k) = true := by simp; omega
        have ha0 : ∀ w : World, (Op.stringOp .add ⟨S.toArray⟩ ⟨#[32]⟩).run Tryd.prog w = .ok (.string ⟨(S ++ [32]).toArray⟩) w := fun w => run_add_lists w S [32] (by simp; omega)
        have ha : ∀ w : World, (Op.stringOp .add ⟨(S ++ [32]).toArray⟩ ⟨T.toArray⟩).run Tryd.prog w = .ok (.string ⟨(S ++ [32] ++ T).toArray⟩) w := fun w => run_add_lists w _ T (by simp; omega)
        obtain ⟨S1, hS1⟩ : ∃ S1, S1 = S ++ [32] := ⟨_, rfl⟩
        simp only [← hS1] at ha ha0 hst hsl
        obtain ⟨U, hU⟩ : ∃ U, U = S1 ++ T := ⟨_, rfl⟩
        rw [← hU] at hst hsl
        simp only [← hU] at ha
        clear hall hlk k0 hj1' hU hS1 hne
        go_wp2_with (first
          | (go_at_call 7; (with_reducible refine (HS.out _ hbw).mono ?_); rintro e w4 ⟨v4, rfl, ⟨z, rfl, hgz, hfz, hsz⟩, hb4⟩; have hbw4 := bthen hbw hb4; have hw := Hwk.out z _ (HT.out.below hbw4) hgz (Hy0.out ▸ hsz); obtain ⟨kind', n', neg', mA', mc', mag', text', Ai', ci', items', Ar', cr', rest'⟩ := z; simp only [encD] at hw; replace hw := As.mk hw; simp only [encD])
          | (go_at_call 6; (with_reducible refine hw.out.mono ?_); rintro e w5 ⟨v5, rfl, rfl, hb5⟩; have hbq := bthen hb (bthen hb4 hb5)))
        go_roundw
        case rel => exact ⟨k + 1, U, by omega, hsl, rfl, by go_num, ⟨hst.out⟩, hbq⟩
        case measure => simp [intOf]; omega
    · have hS' : As (S = Lib.join (showAll true items) [32]) := ⟨by rw [hS.out, List.take_of_length_le (by omega)]⟩
      have hwi : As (wtAll items ≤ 536870912) := ⟨by have := Hwt.out; omega⟩
      have a1 : ∀ w : World, (Op.stringOp .add ⟨#[40]⟩ ⟨S.toArray⟩).run Tryd.prog w = .ok (.string ⟨([40] ++ S).toArray⟩) w := fun w => run_add_lists w [40] S (by simp; omega)
      have a2 : ∀ w : World, (Op.stringOp .add ⟨([40] ++ S).toArray⟩ ⟨#[41]⟩).run Tryd.prog w = .ok (.string ⟨([40] ++ S ++ [41]).toArray⟩) w := fun w => run_add_lists w ([40] ++ S) [41] (by simp; omega)
      have a3 : ∀ w : World, (Op.stringOp .add ⟨#[35, 40]⟩ ⟨S.toArray⟩).run Tryd.prog w = .ok (.string ⟨([35, 40] ++ S).toArray⟩) w := fun w => run_add_lists w [35, 40] S (by simp; omega)
      have a4 : ∀ w : World, (Op.stringOp .add ⟨([35, 40] ++ S).toArray⟩ ⟨#[41]⟩).run Tryd.prog w = .ok (.string ⟨([35, 40] ++ S ++ [41]).toArray⟩) w := fun w => run_add_lists w ([35, 40] ++ S) [41] (by simp; omega)
      obtain ⟨Q1, hQ1⟩ : ∃ Q1, Q1 = [40] ++ S ++ [41] := ⟨_, rfl⟩
      obtain ⟨Q2, hQ2⟩ : ∃ Q2, Q2 = [35, 40] ++ S ++ [41] := ⟨_, rfl⟩
      obtain ⟨P1, hP1⟩ : ∃ P1, P1 = [40] ++ S := ⟨_, rfl⟩
      obtain ⟨P2, hP2⟩ : ∃ P2, P2 = [35, 40] ++ S := ⟨_, rfl⟩
      simp only [← hQ1] at a2
      simp only [← hQ2] at a4
      simp only [← hP1] at a1 a2
      simp only [← hP2] at a3 a4
      have HQ1 := As.mk hQ1
      have HQ2 := As.mk hQ2
      clear hQ1 hQ2 hP1 hP2 hS
      have C1 := (B1.below hb).cells
      have hq0 := hb
      go_wp2_with (first
        | (go_at_call 12; (with_reducible refine (HCA.out _ (bthen hb1 hq0)).mono ?_); rintro e w2 ⟨v2, rfl, ⟨m1, ho2, hc2⟩, hb2⟩; have Hc2 := As.mk hc2; obtain ⟨A2, c2, rfl, h21, h22⟩ := ho2.form; have Hg2 := As.mk (lst_good 6 (ho2.rd lenD) h21 ho2.none hc2.good); have Hlt2 := As.mk (good_lt Hg2.out); have hq2 := bthen hq0 hb2; clear hc2 ho2)
        | ((with_reducible refine g_dst 9 ?_); go_must (refine ev_alloc 9 rfl infoD (cs := [.int .i64 0, .int .i64 0, .bool false, .slice none 0 0, .string ⟨#[]⟩, .slice none 0 0, .slice none 0 0]) rfl ?_); intro g3 w3 hb3 B3 hg3; have Hg3 := As.mk (Hg2.out.to hb3); have hq3 := bthen hq2 hb3; have hge3 := Nat.le_trans hq2.size hg3)
        | ((with_reducible refine g_store 9 ?_); go_must (refine ev_store rfl rfl B3 (news := [.int .i64 6, .int .i64 0, .bool false, .slice none 0 0, .string ⟨#[]⟩, .slice A2 m1.length c2, .slice none 0 0]) (by rfl) infoD (by simp) (by simp [Value.oneCell']) ?_); intro w4 ho4 B4; simp only [List.take_zero, List.nil_append, List.length_cons, List.length_nil, List.drop_succ_cons, List.drop_zero, List.append_nil, List.cons_append] at B4; have hq4 := hq3.trans (ho4.below hge3); have Hg4 := As.mk (good_only Hg3.out ho4 (fun b hb => by have := Hlt2.out b hb; omega)))
        | (go_at_call 12; (with_reducible refine (HCA.out _ (bthen hb1 hq4)).mono ?_); rintro e w5 ⟨v5, rfl, ⟨m2, ho5, hc5⟩, hb5⟩; have Hc5 := As.mk hc5; obtain ⟨A5, c5, rfl, h51, h52⟩ := ho5.form; have Hg5 := As.mk (lst_good 7 (ho5.rd lenD) h51 ho5.none hc5.good); have Hlt5 := As.mk (good_lt Hg5.out); have hq5 := bthen hq4 hb5; have Hg25 := As.mk (Hg4.out.to hb5); have hgl4 := B4.lt; have B5 := B4.below hb5; clear hc5 ho5)
        | ((with_reducible refine g_dst 10 ?_); go_must (refine ev_alloc 10 rfl infoD (cs := [.int .i64 0, .int .i64 0, .bool false, .slice none 0 0, .string ⟨#[]⟩, .slice none 0 0, .slice none 0 0]) rfl ?_); intro g6 w6 hb6 B6 hg6; have Hg6 := As.mk (Hg5.out.to hb6); have Hg26 := As.mk (Hg25.out.to hb6); have hq6 := bthen hq5 hb6; have hge6 := Nat.le_trans hq5.size hg6; have hne36 : g3 ≠ g6 := Nat.ne_of_lt (Nat.lt_of_lt_of_le B5.lt hg6); have Hlt26 := As.mk (good_lt Hg25.out); have B56 := B5.below hb6)
        | ((with_reducible refine g_store 10 ?_); go_must (refine ev_store rfl rfl B6 (news := [.int .i64 7, .int .i64 0, .bool false, .slice none 0 0, .string ⟨#[]⟩, .slice A5 m2.length c5, .slice none 0 0]) (by rfl) infoD (by simp) (by simp [Value.oneCell']) ?_); intro w7 ho7 B7; simp only [List.take_zero, List.nil_append, List.length_cons, List.length_nil, List.drop_succ_cons, List.drop_zero, List.append_nil, List.cons_append] at B7; have hq7 := hq6.trans (ho7.below hge6); have Hg7 := As.mk (good_only Hg6.out ho7 (fun b hb => by have := Hlt5.out b hb; omega)); have Hg27 := As.mk (good_only Hg26.out ho7 (fun b hb => by have := Hlt26.out b hb; omega)); have B57 := B56.only ho7 hne36; have C57 := B57.cells)
        | (go_at_call 6; (with_reducible refine (write_list S Q1 (HT.out.below (bthen hb1 hq7)) Hg27.out Hc2.out.same hS'.out HQ1.out hwi.out).mono ?_); rintro e w8 ⟨v8, rfl, rfl, hb8⟩; have hq8 := bthen hq7 hb8; have Hg8 := As.mk (Hg7.out.to hb8); have Hg28 := As.mk (Hg27.out.to hb8); have B8 := B7.below hb8; have C8 := B8.cells)
        | (go_at_call 6; (with_reducible refine (write_vec S Q2 (HT.out.below (bthen hb1 hq8)) Hg8.out Hc5.out.same hS'.out HQ2.out hwi.out).mono ?_); rintro e w9 ⟨v9, rfl, rfl, hb9⟩; have hq9 := bthen hq8 hb9; have Hg29 := As.mk (Hg28.out.to hb9); have B9 := B57.below (bthen hb8 hb9); clear C1 C57 C8; have C1 := (B1.below hq9).cells)
        | (go_at_call 9; (with_reducible refine (awake_any _ (HT.out.below (bthen hb1 hq9))).mono ?_); rintro e w10 ⟨v10, rfl, rfl, hb10⟩))
      go_ret
      exact ⟨_, rfl, rfl, bthen hb1 (bthen hq9 hb10)⟩
set_option maxRecDepth 100000 in
set_option maxHeartbeats 4000000 in
theorem showLists_none (items : List LD) (A : Option Addr) (c : Nat) (x : LD) (w : World) (htab : Tab w) (hr : Rd encD 7 w A items) (hc : items.length ≤ c) (hgi : ∀ y ∈ items, Good w y) (hgx : Good w x) (hwt : wtAll items + wtD x ≤ 536870912) (h0 : items = []) :
    Calls Tryd.prog 5 #[.slice A 0 c, .agg (encD x).toArray, .bool true] w (Gives w fun v _ => v = .bool true) := by
  have hlen := wt_len items
  have hwx := wtD_pos x
  have HI := As.mk (fun (k : Nat) (hk : k < items.length) w' hb => copy_ok w items[k] (hgi _ (List.getElem_mem hk)) (by have := wt_mem (List.getElem_mem hk); omega) w' hb)
  have HW := As.mk (fun (k : Nat) (hk : k < items.length) (y : LD) (W : World) (ht : Tab W) (hg : Good W y) (hs : SameD y items[k]) => write_any y W ht hg (by rw [hs.wt]; have := wt_mem (List.getElem_mem hk); omega))
  have HTL := As.mk (fun (k : Nat) (hk : k < items.length) => show_len (hgi _ (List.getElem_mem hk)) true)
  have HCA := As.mk (fun w' hb => copyAll_any w items A c hr hc (fun y hy => copy_ok w y (hgi y hy) (by have := wt_mem hy; omega)) (by omega) w' hb)
  have HJ := As.mk (fun k => Nat.le_trans (row_len2 (l := items.take k) (wr := true) (fun y hy => show_len (hgi y (List.mem_of_mem_take hy)) true)) (Nat.mul_le_mul_left 20 (wt_take items k)))
  have hcp := fun w' hb => copy_ok w x hgx (by omega) w' hb
  have HXL := As.mk (show_len hgx true)
  obtain ⟨x0, hx0⟩ : ∃ x0, x0 = x := ⟨_, rfl⟩
  have HT := As.mk htab
  have Hgi := As.mk hgi
  have Hwt := As.mk hwt
  have Hlen := As.mk hlen
  have hcp2 : ∀ w', Below w.heap.size w w' → Calls Tryd.prog 7 #[.agg (encD x).toArray] w' (Gives w' fun v w2 => ∃ y, v = .agg (encD y).toArray ∧ Good w2 y ∧ (∀ b ∈ footD y, w'.heap.size ≤ b) ∧ SameD y x0) := hx0 ▸ hcp
  rw [← hx0] at HXL Hwt
  have Hx0 := As.mk hx0
  have hl30 : items.length ≤ 536870912 := by omega
  have HCA0 : As (∀ w', Below w.heap.size w w' → Calls Tryd.prog 12 #[.slice A 0 c] w' (Gives w' fun v w2 => ∃ m, Ow encD 7 27 w'.heap.size w2 v m ∧ CopyOf w'.heap.size w2 m items)) := ⟨fun w' hb => by
    have := HCA.out w' hb
    rw [show items.length = 0 by rw [h0]; rfl] at this
    exact this⟩
  have H0 := As.mk h0
  clear h0
  clear hgi htab hgx hwt hlen hx0 hwx hcp
  obtain ⟨kind, n, neg, mA, mc, mag, text, Ai, ci, xitems, Ar, cr, xrest⟩ := x
  simp only [encD] at hcp2 ⊢
  have HCX := As.mk hcp2
  clear hcp2
  go_enter Tryd.func5, Tryd.ntmps5
  go_wp2_with ((with_reducible refine g_dst 4 ?_); go_must (refine ev_box 4 rfl (cs := [.int .i64 kind, .int .i64 n, .bool neg, .slice mA mag.length mc, .string ⟨text.toArray⟩, .slice Ai xitems.length ci, .slice Ar xrest.length cr]) (by rfl) ?_); intro g w1 hb1 B1 hg1)
  go_loopw [7, 8] (fun v u wq => ∃ k : Nat, ∃ S : List UInt8, k = 0 ∧ S.length ≤ 10737418240 ∧ v = .string ⟨S.toArray⟩ ∧ u = .int .i64 (k : Int) ∧ As (S = Lib.join (showAll true (items.take k)) [32]) ∧ Below w1.heap.size w1 wq) (fun v u _ => 0)
  case atStart => exact ⟨0, [], by omega, by simp, rfl, rfl, ⟨by simp [showAll, Lib.join_nil]⟩, Below.refl _ _⟩
  case round =>
    obtain ⟨k, S, hk, hSl, rfl, rfl, hS, hb⟩ := hrel
    have hbw := bthen hb1 hb
    subst hk
    · have hS' : As (S = Lib.join (showAll true items) [32]) := ⟨by rw [hS.out, H0.out]; simp⟩
      have hwi : As (wtAll items ≤ 536870912) := ⟨by have := Hwt.out; omega⟩
      have a1 : ∀ w : World, (Op.stringOp .add ⟨#[40]⟩ ⟨S.toArray⟩).run Tryd.prog w = .ok (.string ⟨([40] ++ S).toArray⟩) w := fun w => run_add_lists w [40] S (by simp; omega)
      have a2 : ∀ w : World, (Op.stringOp .add ⟨([40] ++ S).toArray⟩ ⟨#[41]⟩).run Tryd.prog w = .ok (.string ⟨([40] ++ S ++ [41]).toArray⟩) w := fun w => run_add_lists w ([40] ++ S) [41] (by simp; omega)
      have a3 : ∀ w : World, (Op.stringOp .add ⟨#[35, 40]⟩ ⟨S.toArray⟩).run Tryd.prog w = .ok (.string ⟨([35, 40] ++ S).toArray⟩) w := fun w => run_add_lists w [35, 40] S (by simp; omega)
      have a4 : ∀ w : World, (Op.stringOp .add ⟨([35, 40] ++ S).toArray⟩ ⟨#[41]⟩).run Tryd.prog w = .ok (.string ⟨([35, 40] ++ S ++ [41]).toArray⟩) w := fun w => run_add_lists w ([35, 40] ++ S) [41] (by simp; omega)
      obtain ⟨Q1, hQ1⟩ : ∃ Q1, Q1 = [40] ++ S ++ [41] := ⟨_, rfl⟩
      obtain ⟨Q2, hQ2⟩ : ∃ Q2, Q2 = [35, 40] ++ S ++ [41] := ⟨_, rfl⟩
      obtain ⟨P1, hP1⟩ : ∃ P1, P1 = [40] ++ S := ⟨_, rfl⟩
      obtain ⟨P2, hP2⟩ : ∃ P2, P2 = [35, 40] ++ S := ⟨_, rfl⟩
      simp only [← hQ1] at a2
      simp only [← hQ2] at a4
      simp only [← hP1] at a1 a2
      simp only [← hP2] at a3 a4
      have HQ1 := As.mk hQ1
      have HQ2 := As.mk hQ2
      clear hQ1 hQ2 hP1 hP2 hS
      have C1 := (B1.below hb).cells
      have hq0 := hb
      go_wp2_with (first
        | (go_at_call 12; (with_reducible refine (HCA0.out _ (bthen hb1 hq0)).mono ?_); rintro e w2 ⟨v2, rfl, ⟨m1, ho2, hc2⟩, hb2⟩; have Hc2 := As.mk hc2; obtain ⟨A2, c2, rfl, h21, h22⟩ := ho2.form; have Hg2 := As.mk (lst_good 6 (ho2.rd lenD) h21 ho2.none hc2.good); have Hlt2 := As.mk (good_lt Hg2.out); have hq2 := bthen hq0 hb2; clear hc2 ho2)
        | ((with_reducible refine g_dst 9 ?_); go_must (refine ev_alloc 9 rfl infoD (cs := [.int .i64 0, .int .i64 0, .bool false, .slice none 0 0, .string ⟨#[]⟩, .slice none 0 0, .slice none 0 0]) rfl ?_); intro g3 w3 hb3 B3 hg3; have Hg3 := As.mk (Hg2.out.to hb3); have hq3 := bthen hq2 hb3; have hge3 := Nat.le_trans hq2.size hg3)
        | ((with_reducible refine g_store 9 ?_); go_must (refine ev_store rfl rfl B3 (news := [.int .i64 6, .int .i64 0, .bool false, .slice none 0 0, .string ⟨#[]⟩, .slice A2 m1.length c2, .slice none 0 0]) (by rfl) infoD (by simp) (by simp [Value.oneCell']) ?_); intro w4 ho4 B4; simp only [List.take_zero, List.nil_append, List.length_cons, List.length_nil, List.drop_succ_cons, List.drop_zero, List.append_nil, List.cons_append] at B4; have hq4 := hq3.trans (ho4.below hge3); have Hg4 := As.mk (good_only Hg3.out ho4 (fun b hb => by have := Hlt2.out b hb; omega)))
        | (go_at_call 12; (with_reducible refine (HCA0.out _ (bthen hb1 hq4)).mono ?_); rintro e w5 ⟨v5, rfl, ⟨m2, ho5, hc5⟩, hb5⟩; have Hc5 := As.mk hc5; obtain ⟨A5, c5, rfl, h51, h52⟩ := ho5.form; have Hg5 := As.mk (lst_good 7 (ho5.rd lenD) h51 ho5.none hc5.good); have Hlt5 := As.mk (good_lt Hg5.out); have hq5 := bthen hq4 hb5; have Hg25 := As.mk (Hg4.out.to hb5); have hgl4 := B4.lt; have B5 := B4.below hb5; clear hc5 ho5)
        | ((with_reducible refine g_dst 10 ?_); go_must (refine ev_alloc 10 rfl infoD (cs := [.int .i64 0, .int .i64 0, .bool false, .slice none 0 0, .string ⟨#[]⟩, .slice none 0 0, .slice none 0 0]) rfl ?_); intro g6 w6 hb6 B6 hg6; have Hg6 := As.mk (Hg5.out.to hb6); have Hg26 := As.mk (Hg25.out.to hb6); have hq6 := bthen hq5 hb6; have hge6 := Nat.le_trans hq5.size hg6; have hne36 : g3 ≠ g6 := Nat.ne_of_lt (Nat.lt_of_lt_of_le B5.lt hg6); have Hlt26 := As.mk (good_lt Hg25.out); have B56 := B5.below hb6)
        | ((with_reducible refine g_store 10 ?_); go_must (refine ev_store rfl rfl B6 (news := [.int .i64 7, .int .i64 0, .bool false, .slice none 0 0, .string ⟨#[]⟩, .slice A5 m2.length c5, .slice none 0 0]) (by rfl) infoD (by simp) (by simp [Value.oneCell']) ?_); intro w7 ho7 B7; simp only [List.take_zero, List.nil_append, List.length_cons, List.length_nil, List.drop_succ_cons, List.drop_zero, List.append_nil, List.cons_append] at B7; have hq7 := hq6.trans (ho7.below hge6); have Hg7 := As.mk (good_only Hg6.out ho7 (fun b hb => by have := Hlt5.out b hb; omega)); have Hg27 := As.mk (good_only Hg26.out ho7 (fun b hb => by have := Hlt26.out b hb; omega)); have B57 := B56.only ho7 hne36; have C57 := B57.cells)
        | (go_at_call 6; (with_reducible refine (write_list S Q1 (HT.out.below (bthen hb1 hq7)) Hg27.out Hc2.out.same hS'.out HQ1.out hwi.out).mono ?_); rintro e w8 ⟨v8, rfl, rfl, hb8⟩; have hq8 := bthen hq7 hb8; have Hg8 := As.mk (Hg7.out.to hb8); have Hg28 := As.mk (Hg27.out.to hb8); have B8 := B7.below hb8; have C8 := B8.cells)
        | (go_at_call 6; (with_reducible refine (write_vec S Q2 (HT.out.below (bthen hb1 hq8)) Hg8.out Hc5.out.same hS'.out HQ2.out hwi.out).mono ?_); rintro e w9 ⟨v9, rfl, rfl, hb9⟩; have hq9 := bthen hq8 hb9; have Hg29 := As.mk (Hg28.out.to hb9); have B9 := B57.below (bthen hb8 hb9); clear C1 C57 C8; have C1 := (B1.below hq9).cells)
        | (go_at_call 9; (with_reducible refine (awake_any _ (HT.out.below (bthen hb1 hq9))).mono ?_); rintro e w10 ⟨v10, rfl, rfl, hb10⟩))
      go_ret
      exact ⟨_, rfl, rfl, bthen hb1 (bthen hq9 hb10)⟩
set_option maxRecDepth 100000 in
set_option maxHeartbeats 4000000 in
theorem showLists_dot (items : List LD) (A : Option Addr) (c : Nat) (x : LD) (w : World) (htab : Tab w) (hr : Rd encD 7 w A items) (hc : items.length ≤ c) (hgi : ∀ y ∈ items, Good w y) (hgx : Good w x) (hwt : wtAll items + wtD x ≤ 536870912) (h0 : 0 < items.length) :
    Calls Tryd.prog 5 #[.slice A items.length c, .agg (encD x).toArray, .bool true] w (Gives w fun v _ => v = .bool true) := by
  have hlen := wt_len items
  have hwx := wtD_pos x
  have HI := As.mk (fun (k : Nat) (hk : k < items.length) w' hb => copy_ok w items[k] (hgi _ (List.getElem_mem hk)) (by have := wt_mem (List.getElem_mem hk); omega) w' hb)
  have HW := As.mk (fun (k : Nat) (hk : k < items.length) (y : LD) (W : World) (ht : Tab W) (hg : Good W y) (hs : SameD y items[k]) => write_any y W ht hg (by rw [hs.wt]; have := wt_mem (List.getElem_mem hk); omega))
  have HTL := As.mk (fun (k : Nat) (hk : k < items.length) => show_len (hgi _ (List.getElem_mem hk)) true)
  have HCA := As.mk (fun w' hb => copyAll_any w items A c hr hc (fun y hy => copy_ok w y (hgi y hy) (by have := wt_mem hy; omega)) (by omega) w' hb)
  have HJ := As.mk (fun k => Nat.le_trans (row_len2 (l := items.take k) (wr := true) (fun y hy => show_len (hgi y (List.mem_of_mem_take hy)) true)) (Nat.mul_le_mul_left 20 (wt_take items k)))
  have hcp := fun w' hb => copy_ok w x hgx (by omega) w' hb
  have HXL := As.mk (show_len hgx true)
  obtain ⟨x0, hx0⟩ : ∃ x0, x0 = x := ⟨_, rfl⟩
  have HT := As.mk htab
  have Hgi := As.mk hgi
  have Hwt := As.mk hwt
  have Hlen := As.mk hlen
  have hcp2 : ∀ w', Below w.heap.size w w' → Calls Tryd.prog 7 #[.agg (encD x).toArray] w' (Gives w' fun v w2 => ∃ y, v = .agg (encD y).toArray ∧ Good w2 y ∧ (∀ b ∈ footD y, w'.heap.size ≤ b) ∧ SameD y x0) := hx0 ▸ hcp
  rw [← hx0] at HXL Hwt
  have Hx0 := As.mk hx0
  have hl30 : items.length ≤ 536870912 := by omega
  clear hgi htab hgx hwt hlen hx0 hwx hcp
  obtain ⟨kind, n, neg, mA, mc, mag, text, Ai, ci, xitems, Ar, cr, xrest⟩ := x
  simp only [encD] at hcp2 ⊢
  have HCX := As.mk hcp2
  clear hcp2
  go_enter Tryd.func5, Tryd.ntmps5
  go_wp2_with ((with_reducible refine g_dst 4 ?_); go_must (refine ev_box 4 rfl (cs := [.int .i64 kind, .int .i64 n, .bool neg, .slice mA mag.length mc, .string ⟨text.toArray⟩, .slice Ai xitems.length ci, .slice Ar xrest.length cr]) (by rfl) ?_); intro g w1 hb1 B1 hg1)
  go_loopw [7, 8] (fun v u wq => ∃ k : Nat, ∃ S : List UInt8, k ≤ items.length ∧ S.length ≤ 10737418240 ∧ v = .string ⟨S.toArray⟩ ∧ u = .int .i64 (k : Int) ∧ As (S = Lib.join (showAll true (items.take k)) [32]) ∧ Below w1.heap.size w1 wq) (fun v u _ => items.length - (intOf u).toNat)
  case atStart => exact ⟨0, [], by omega, by simp, rfl, rfl, ⟨by simp [showAll, Lib.join_nil]⟩, Below.refl _ _⟩
  case round =>
    obtain ⟨k, S, hk, hSl, rfl, rfl, hS, hb⟩ := hrel
    have hbw := bthen hb1 hb
    by_cases h : k < items.length
    · obtain ⟨b, off, rfl⟩ := hr.get (ne_nil_of_lt h)
      have hrk := (hr.below hbw).cell k h
      have hcp := fun w' hb => HI.out k h w' hb
      have hww := HW.out k h
      have htl := HTL.out k h
      have hwl := wt_mem (List.getElem_mem h)
      have hj1 := HJ.out (k + 1)
      have hall : showAll true (items.take (k + 1)) = showAll true (items.take k) ++ [showL true items[k]] := by
        rw [showAll_map, showAll_map, List.take_succ_eq_append_getElem h, List.map_append]; rfl
      obtain ⟨y, hy⟩ : ∃ y, y = items[k] := ⟨_, rfl⟩
      rw [← hy] at hrk hcp hww htl hall hwl
      obtain ⟨T, hT⟩ : ∃ T, T = showL true y := ⟨_, rfl⟩
      rw [← hT] at htl hall
      obtain ⟨y0, hy0⟩ : ∃ y0, y0 = y := ⟨_, rfl⟩
      have hwt0 := Hwt.out
      have hTl : T.length ≤ 10737418240 := by omega
      have hwk : ∀ (z : LD) (W : World), Tab W → Good W z → SameD z y0 → Calls Tryd.prog 6 #[.agg (encD z).toArray] W (Gives W fun v _ => v = .string ⟨T.toArray⟩) := fun z W ht hg hs => by
        have := hww z W ht hg (hy0 ▸ hs)
        rw [hs.text true, hy0, ← hT] at this
        exact this
      have Hwk := As.mk hwk
      rw [← hy0] at hcp
      have hlk : (showAll true (items.take k)).length = k := by rw [showAll_map, List.length_map, List.length_take]; omega
      have hj1' : (Lib.join (showAll true (items.take (k + 1))) [32]).length ≤ 10737418240 := by have := wt_take items (k + 1); omega
      have Hy0 := As.mk hy0
      clear hy hT htl hww hwk hwl hj1 hy0 hwt0
      obtain ⟨kind2, n2, neg2, mA2, mc2, mag2, text2, Ai2, ci2, items2, Ar2, cr2, rest2⟩ := y
      rw [Hy0.out] at hcp
      simp only [encD] at hcp
      have HS := As.mk hcp
      clear hcp
      have c0 : wr.cell? ⟨b, off + k * 7, none⟩ = some (.int .i64 kind2) := hrk 0 _ rfl
      have c1 := hrk 1 _ rfl
      have c2 := hrk 2 _ rfl
      have c3 := hrk 3 _ rfl
      have c4 := hrk 4 _ rfl
      have c5 := hrk 5 _ rfl
      have c6 := hrk 6 _ rfl
      clear hrk
      by_cases k0 : k = 0
      · have hst : As (S ++ T = Lib.join (showAll true (items.take (k + 1))) [32]) := ⟨by
          rw [hS.out, hall, k0, List.take_zero]; simp [showAll, Lib.join_nil, Lib.join_one]⟩
        have hsl : (S ++ T).length ≤ 10737418240 := by rw [hst.out]; exact hj1'
        have z0 : decide ((0 : Int) < (k : Int)) = false := by simp; omega
        have z1 : decide (0 < k) = false := by simp; omega
        have ha : ∀ w : World, (Op.stringOp .add ⟨S.toArray⟩ ⟨T.toArray⟩).run Tryd.prog w = .ok (.string ⟨(S ++ T).toArray⟩) w := fun w => run_add_lists w S T (by omega)
        obtain ⟨U, hU⟩ : ∃ U, U = S ++ T := ⟨_, rfl⟩
        rw [← hU] at hst hsl
        simp only [← hU] at ha
        clear hall hlk k0 hj1' hU
        go_wp2_with (first
          | (go_at_call 7; (with_reducible refine (HS.out _ hbw).mono ?_); rintro e w4 ⟨v4, rfl, ⟨z, rfl, hgz, hfz, hsz⟩, hb4⟩; have hbw4 := bthen hbw hb4; have hw := Hwk.out z _ (HT.out.below hbw4) hgz (Hy0.out ▸ hsz); obtain ⟨kind', n', neg', mA', mc', mag', text', Ai', ci', items', Ar', cr', rest'⟩ := z; simp only [encD] at hw; replace hw := As.mk hw; simp only [encD])
          | (go_at_call 6; (with_reducible refine hw.out.mono ?_); rintro e w5 ⟨v5, rfl, rfl, hb5⟩; have hbq := bthen hb (bthen hb4 hb5)))
        go_roundw
        case rel => exact ⟨k + 1, U, by omega, hsl, rfl, by go_num, ⟨hst.out⟩, hbq⟩
        case measure => simp [intOf]; omega
      · have hne : showAll true (items.take k) ≠ [] := fun e => by rw [e] at hlk; exact k0 hlk.symm
        have hst : As (S ++ [32] ++ T = Lib.join (showAll true (items.take (k + 1))) [32]) := ⟨by
          rw [hS.out, hall, join_snoc _ _ _ hne, List.append_assoc]⟩
        have hsl : (S ++ [32] ++ T).length ≤ 10737418240 := by rw [hst.out]; exact hj1'
        have z0 : decide ((0 : Int) < (k : Int)) = true := by simp; omega
        have z1 : decide (0 < k) = true := by simp; omega
        have ha0 : ∀ w : World, (Op.stringOp .add ⟨S.toArray⟩ ⟨#[32]⟩).run Tryd.prog w = .ok (.string ⟨(S ++ [32]).toArray⟩) w := fun w => run_add_lists w S [32] (by simp; omega)
        have ha : ∀ w : World, (Op.stringOp .add ⟨(S ++ [32]).toArray⟩ ⟨T.toArray⟩).run Tryd.prog w = .ok (.string ⟨(S ++ [32] ++ T).toArray⟩) w := fun w => run_add_lists w _ T (by simp; omega)
        obtain ⟨S1, hS1⟩ : ∃ S1, S1 = S ++ [32] := ⟨_, rfl⟩
        simp only [← hS1] at ha ha0 hst hsl
        obtain ⟨U, hU⟩ : ∃ U, U = S1 ++ T := ⟨_, rfl⟩
        rw [← hU] at hst hsl
        simp only [← hU] at ha
        clear hall hlk k0 hj1' hU hS1 hne
        go_wp2_with (first
          | (go_at_call 7; (with_reducible refine (HS.out _ hbw).mono ?_); rintro e w4 ⟨v4, rfl, ⟨z, rfl, hgz, hfz, hsz⟩, hb4⟩; have hbw4 := bthen hbw hb4; have hw := Hwk.out z _ (HT.out.below hbw4) hgz (Hy0.out ▸ hsz); obtain ⟨kind', n', neg', mA', mc', mag', text', Ai', ci', items', Ar', cr', rest'⟩ := z; simp only [encD] at hw; replace hw := As.mk hw; simp only [encD])
          | (go_at_call 6; (with_reducible refine hw.out.mono ?_); rintro e w5 ⟨v5, rfl, rfl, hb5⟩; have hbq := bthen hb (bthen hb4 hb5)))
        go_roundw
        case rel => exact ⟨k + 1, U, by omega, hsl, rfl, by go_num, ⟨hst.out⟩, hbq⟩
        case measure => simp [intOf]; omega
    · have hS' : As (S = Lib.join (showAll true items) [32]) := ⟨by rw [hS.out, List.take_of_length_le (by omega)]⟩
      have hwi : As (wtAll items ≤ 536870912) := ⟨by have := Hwt.out; omega⟩
      have a1 : ∀ w : World, (Op.stringOp .add ⟨#[40]⟩ ⟨S.toArray⟩).run Tryd.prog w = .ok (.string ⟨([40] ++ S).toArray⟩) w := fun w => run_add_lists w [40] S (by simp; omega)
      have a2 : ∀ w : World, (Op.stringOp .add ⟨([40] ++ S).toArray⟩ ⟨#[41]⟩).run Tryd.prog w = .ok (.string ⟨([40] ++ S ++ [41]).toArray⟩) w := fun w => run_add_lists w ([40] ++ S) [41] (by simp; omega)
      have a3 : ∀ w : World, (Op.stringOp .add ⟨#[35, 40]⟩ ⟨S.toArray⟩).run Tryd.prog w = .ok (.string ⟨([35, 40] ++ S).toArray⟩) w := fun w => run_add_lists w [35, 40] S (by simp; omega)
      have a4 : ∀ w : World, (Op.stringOp .add ⟨([35, 40] ++ S).toArray⟩ ⟨#[41]⟩).run Tryd.prog w = .ok (.string ⟨([35, 40] ++ S ++ [41]).toArray⟩) w := fun w => run_add_lists w ([35, 40] ++ S) [41] (by simp; omega)
      obtain ⟨D, hD⟩ : ∃ D, D = showL true x0 := ⟨_, rfl⟩
      have hDl : D.length ≤ 10737418240 := by have h1 := HXL.out; have h2 := Hwt.out; rw [← hD] at h1; omega
      have a5 : ∀ w : World, (Op.stringOp .add ⟨([40] ++ S).toArray⟩ ⟨#[32, 46, 32]⟩).run Tryd.prog w = .ok (.string ⟨([40] ++ S ++ [32, 46, 32]).toArray⟩) w := fun w => run_add_lists w ([40] ++ S) [32, 46, 32] (by simp; omega)
      have a6 : ∀ w : World, (Op.stringOp .add ⟨([40] ++ S ++ [32, 46, 32]).toArray⟩ ⟨D.toArray⟩).run Tryd.prog w = .ok (.string ⟨([40] ++ S ++ [32, 46, 32] ++ D).toArray⟩) w := fun w => run_add_lists w ([40] ++ S ++ [32, 46, 32]) D (by simp; omega)
      have a7 : ∀ w : World, (Op.stringOp .add ⟨([40] ++ S ++ [32, 46, 32] ++ D).toArray⟩ ⟨#[41]⟩).run Tryd.prog w = .ok (.string ⟨([40] ++ S ++ [32, 46, 32] ++ D ++ [41]).toArray⟩) w := fun w => run_add_lists w ([40] ++ S ++ [32, 46, 32] ++ D) [41] (by simp; omega)
      obtain ⟨S5, hS5⟩ : ∃ S5, S5 = [40] ++ S ++ [32, 46, 32] := ⟨_, rfl⟩
      obtain ⟨S6, hS6⟩ : ∃ S6, S6 = [40] ++ S ++ [32, 46, 32] ++ D := ⟨_, rfl⟩
      obtain ⟨S7, hS7⟩ : ∃ S7, S7 = [40] ++ S ++ [32, 46, 32] ++ D ++ [41] := ⟨_, rfl⟩
      simp only [← hS7] at a7
      simp only [← hS6] at a6 a7
      simp only [← hS5] at a5 a6
      have HS7 := As.mk (hD ▸ hS7)
      have HWX : As (∀ (z : LD) (W : World), Tab W → Good W z → SameD z x0 → Calls Tryd.prog 6 #[.agg (encD z).toArray] W (Gives W fun v _ => v = .string ⟨D.toArray⟩)) := ⟨fun z W ht hg hs => by
        have := write_any z W ht hg (by have := Hwt.out; rw [hs.wt]; omega)
        rw [hs.text true, ← hD] at this
        exact this⟩
      have HD := As.mk hD
      clear hS5 hS6 hS7 hD
      obtain ⟨Q1, hQ1⟩ : ∃ Q1, Q1 = [40] ++ S ++ [41] := ⟨_, rfl⟩
      obtain ⟨Q2, hQ2⟩ : ∃ Q2, Q2 = [35, 40] ++ S ++ [41] := ⟨_, rfl⟩
      obtain ⟨P1, hP1⟩ : ∃ P1, P1 = [40] ++ S := ⟨_, rfl⟩
      obtain ⟨P2, hP2⟩ : ∃ P2, P2 = [35, 40] ++ S := ⟨_, rfl⟩
      simp only [← hQ1] at a2
      simp only [← hQ2] at a4
      simp only [← hP1] at a1 a2 a5
      simp only [← hP2] at a3 a4
      have HQ1 := As.mk hQ1
      have HQ2 := As.mk hQ2
      clear hQ1 hQ2 hP1 hP2 hS
      have z9 : decide ((0 : Int) < (items.length : Int)) = true := by simp; omega
      have z8 : decide (0 < items.length) = true := by simp; omega
      have C1 := (B1.below hb).cells
      have hq0 := hb
      go_wp2_with (first
        | (go_at_call 12; (with_reducible refine (HCA.out _ (bthen hb1 hq0)).mono ?_); rintro e w2 ⟨v2, rfl, ⟨m1, ho2, hc2⟩, hb2⟩; have Hc2 := As.mk hc2; obtain ⟨A2, c2, rfl, h21, h22⟩ := ho2.form; have Hg2 := As.mk (lst_good 6 (ho2.rd lenD) h21 ho2.none hc2.good); have Hlt2 := As.mk (good_lt Hg2.out); have hq2 := bthen hq0 hb2; clear hc2 ho2)
        | ((with_reducible refine g_dst 9 ?_); go_must (refine ev_alloc 9 rfl infoD (cs := [.int .i64 0, .int .i64 0, .bool false, .slice none 0 0, .string ⟨#[]⟩, .slice none 0 0, .slice none 0 0]) rfl ?_); intro g3 w3 hb3 B3 hg3; have Hg3 := As.mk (Hg2.out.to hb3); have hq3 := bthen hq2 hb3; have hge3 := Nat.le_trans hq2.size hg3)
        | ((with_reducible refine g_store 9 ?_); go_must (refine ev_store rfl rfl B3 (news := [.int .i64 6, .int .i64 0, .bool false, .slice none 0 0, .string ⟨#[]⟩, .slice A2 m1.length c2, .slice none 0 0]) (by rfl) infoD (by simp) (by simp [Value.oneCell']) ?_); intro w4 ho4 B4; simp only [List.take_zero, List.nil_append, List.length_cons, List.length_nil, List.drop_succ_cons, List.drop_zero, List.append_nil, List.cons_append] at B4; have hq4 := hq3.trans (ho4.below hge3); have Hg4 := As.mk (good_only Hg3.out ho4 (fun b hb => by have := Hlt2.out b hb; omega)))
        | (go_at_call 12; (with_reducible refine (HCA.out _ (bthen hb1 hq4)).mono ?_); rintro e w5 ⟨v5, rfl, ⟨m2, ho5, hc5⟩, hb5⟩; have Hc5 := As.mk hc5; obtain ⟨A5, c5, rfl, h51, h52⟩ := ho5.form; have Hg5 := As.mk (lst_good 7 (ho5.rd lenD) h51 ho5.none hc5.good); have Hlt5 := As.mk (good_lt Hg5.out); have hq5 := bthen hq4 hb5; have Hg25 := As.mk (Hg4.out.to hb5); have hgl4 := B4.lt; have B5 := B4.below hb5; clear hc5 ho5)
        | ((with_reducible refine g_dst 10 ?_); go_must (refine ev_alloc 10 rfl infoD (cs := [.int .i64 0, .int .i64 0, .bool false, .slice none 0 0, .string ⟨#[]⟩, .slice none 0 0, .slice none 0 0]) rfl ?_); intro g6 w6 hb6 B6 hg6; have Hg6 := As.mk (Hg5.out.to hb6); have Hg26 := As.mk (Hg25.out.to hb6); have hq6 := bthen hq5 hb6; have hge6 := Nat.le_trans hq5.size hg6; have hne36 : g3 ≠ g6 := Nat.ne_of_lt (Nat.lt_of_lt_of_le B5.lt hg6); have Hlt26 := As.mk (good_lt Hg25.out); have B56 := B5.below hb6)
        | ((with_reducible refine g_store 10 ?_); go_must (refine ev_store rfl rfl B6 (news := [.int .i64 7, .int .i64 0, .bool false, .slice none 0 0, .string ⟨#[]⟩, .slice A5 m2.length c5, .slice none 0 0]) (by rfl) infoD (by simp) (by simp [Value.oneCell']) ?_); intro w7 ho7 B7; simp only [List.take_zero, List.nil_append, List.length_cons, List.length_nil, List.drop_succ_cons, List.drop_zero, List.append_nil, List.cons_append] at B7; have hq7 := hq6.trans (ho7.below hge6); have Hg7 := As.mk (good_only Hg6.out ho7 (fun b hb => by have := Hlt5.out b hb; omega)); have Hg27 := As.mk (good_only Hg26.out ho7 (fun b hb => by have := Hlt26.out b hb; omega)); have B57 := B56.only ho7 hne36; have C57 := B57.cells)
        | (go_at_call 6; (with_reducible refine (write_list S Q1 (HT.out.below (bthen hb1 hq7)) Hg27.out Hc2.out.same hS'.out HQ1.out hwi.out).mono ?_); rintro e w8 ⟨v8, rfl, rfl, hb8⟩; have hq8 := bthen hq7 hb8; have Hg8 := As.mk (Hg7.out.to hb8); have Hg28 := As.mk (Hg27.out.to hb8); have B8 := B7.below hb8; have C8 := B8.cells)
        | (go_at_call 6; (with_reducible refine (write_vec S Q2 (HT.out.below (bthen hb1 hq8)) Hg8.out Hc5.out.same hS'.out HQ2.out hwi.out).mono ?_); rintro e w9 ⟨v9, rfl, rfl, hb9⟩; have hq9 := bthen hq8 hb9; have Hg29 := As.mk (Hg28.out.to hb9); have B9 := B57.below (bthen hb8 hb9); clear C1 C57 C8; have C1 := (B1.below hq9).cells)
        | (go_at_call 7; (with_reducible refine (HCX.out _ (bthen hb1 hq9)).mono ?_); rintro e w10 ⟨v10, rfl, ⟨y1, rfl, hgy1, hfy1, hsy1⟩, hb10⟩; have hq10 := bthen hq9 hb10; have Hy1 := As.mk hgy1; have Hf1 := As.mk hfy1; have Hs1 := As.mk hsy1; have hgl9 := B9.lt; have B10 := B9.below hb10; have Hg210 := As.mk (Hg29.out.to hb10); clear hgy1 hfy1 hsy1; obtain ⟨kind1, n1, neg1, mA1, mc1, mag1, text1, Ai1, ci1, items1, Ar1, cr1, rest1⟩ := y1)
        | ((with_reducible refine g_dst 57 ?_); go_must (refine ev_lit (v := fun g => .slice (some ⟨g, 0, none⟩) 1 1) 57 rfl (cs := encD (.mk kind1 n1 neg1 mA1 mc1 mag1 text1 Ai1 ci1 items1 Ar1 cr1 rest1)) (t := 27) (by go_simp; rfl) ?_); intro g11 w11 hb11 B11 hg11; have Hy11 := As.mk (Hy1.out.to hb11); have Hg211 := As.mk (Hg210.out.to hb11); have hne311 : g11 ≠ g3 := Ne.symm (Nat.ne_of_lt (Nat.lt_of_lt_of_le B10.lt hg11)); have hq11 := bthen hq10 hb11; have B101 := B10.below hb11)
        | ((with_reducible refine g_store 58 ?_); go_must (refine ev_store rfl rfl B101 (news := [.slice (some ⟨g11, 0, none⟩) 1 1]) (by rfl) infoLD (by simp) (by simp [Value.oneCell']) ?_); intro w12 ho12 B12; simp only [List.take_succ_cons, List.take_zero, List.length_singleton, List.length_cons, List.length_nil, List.drop_succ_cons, List.drop_zero, List.drop_nil, List.cons_append, List.nil_append, List.append_nil] at B12; have hq12 := hq11.trans (ho12.below hge3); have Hdot := As.mk (dot_good 6 (good_only Hg211.out ho12 (fun b hb => by have := Hlt2.out b hb; omega)) (good_only Hy11.out ho12 (fun b hb => by have := Hf1.out b hb; omega)) (B11.only ho12 hne311))))
      have hSc : ∀ W, Below w12.heap.size w12 W → (W.cell? ⟨g3, 0, none⟩ = some (.int .i64 6) ∧ W.cell? ⟨g3, 1, none⟩ = some (.int .i64 0) ∧ W.cell? ⟨g3, 2, none⟩ = some (.bool false) ∧ W.cell? ⟨g3, 3, none⟩ = some (.slice none 0 0) ∧ W.cell? ⟨g3, 4, none⟩ = some (.string ⟨#[]⟩) ∧ W.cell? ⟨g3, 5, none⟩ = some (.slice A2 m1.length c2) ∧ W.cell? ⟨g3, 6, none⟩ = some (.slice (some ⟨g11, 0, none⟩) 1 1)) ∧ W.cell? ⟨g, 0, none⟩ = some (.int .i64 kind) ∧ W.cell? ⟨g, 1, none⟩ = some (.int .i64 n) ∧ W.cell? ⟨g, 2, none⟩ = some (.bool neg) ∧ W.cell? ⟨g, 3, none⟩ = some (.slice mA mag.length mc) ∧ W.cell? ⟨g, 4, none⟩ = some (.string ⟨text.toArray⟩) ∧ W.cell? ⟨g, 5, none⟩ = some (.slice Ai xitems.length ci) ∧ W.cell? ⟨g, 6, none⟩ = some (.slice Ar xrest.length cr) := fun W hb => by
        have B := (B12.below hb).cells
        have B' := (B1.below (bthen hq12 hb)).cells
        exact ⟨⟨B 0, B 1, B 2, B 3, B 4, B 5, B 6⟩, B' 0, B' 1, B' 2, B' 3, B' 4, B' 5, B' 6⟩
      have hd := (Below.refl w12.heap.size w12).drew
      have hS0 := hSc _ hd
      clear C1
      go_region_held3 (fun W => (W.cell? ⟨g3, 0, none⟩ = some (.int .i64 6) ∧ W.cell? ⟨g3, 1, none⟩ = some (.int .i64 0) ∧ W.cell? ⟨g3, 2, none⟩ = some (.bool false) ∧ W.cell? ⟨g3, 3, none⟩ = some (.slice none 0 0) ∧ W.cell? ⟨g3, 4, none⟩ = some (.string ⟨#[]⟩) ∧ W.cell? ⟨g3, 5, none⟩ = some (.slice A2 m1.length c2) ∧ W.cell? ⟨g3, 6, none⟩ = some (.slice (some ⟨g11, 0, none⟩) 1 1)) ∧ W.cell? ⟨g, 0, none⟩ = some (.int .i64 kind) ∧ W.cell? ⟨g, 1, none⟩ = some (.int .i64 n) ∧ W.cell? ⟨g, 2, none⟩ = some (.bool neg) ∧ W.cell? ⟨g, 3, none⟩ = some (.slice mA mag.length mc) ∧ W.cell? ⟨g, 4, none⟩ = some (.string ⟨text.toArray⟩) ∧ W.cell? ⟨g, 5, none⟩ = some (.slice Ai xitems.length ci) ∧ W.cell? ⟨g, 6, none⟩ = some (.slice Ar xrest.length cr)) (first | assumption | exact hSc _ hb13 | exact hSc _ hb14 | exact hSc _ hb15 | exact hSc _ hb16) (first
        | (go_at_call 6; (with_reducible refine (write_dot S S7 (HT.out.below (bthen hb1 (bthen hq12 hd))) (Hdot.out.to hd) Hc2.out.same Hs1.out h0 hS'.out HS7.out Hwt.out).mono ?_); rintro e w13 ⟨v13, rfl, rfl, hb13⟩; replace hb13 := bthen hd hb13)
        | (go_at_call 7; (with_reducible refine (HCX.out _ (bthen hb1 (bthen hq12 hb13))).mono ?_); rintro e w14 ⟨v14, rfl, ⟨y2, rfl, hgy2, hfy2, hsy2⟩, hb14⟩; replace hb14 := bthen hb13 hb14; have hw := HWX.out y2 _ (HT.out.below (bthen hb1 (bthen hq12 hb14))) hgy2 hsy2; obtain ⟨kind', n', neg', mA', mc', mag', text', Ai', ci', items', Ar', cr', rest'⟩ := y2; simp only [encD] at hw; replace hw := As.mk hw; simp only [encD])
        | (go_at_call 6; (with_reducible refine hw.out.mono ?_); rintro e w15 ⟨v15, rfl, rfl, hb15⟩; replace hb15 := bthen hb14 hb15)
        | (go_at_call 9; (with_reducible refine (awake_any _ (HT.out.below (bthen hb1 (bthen hq12 hb15)))).mono ?_); rintro e w16 ⟨v16, rfl, rfl, hb16⟩; replace hb16 := bthen hb15 hb16))
      go_wp2
      go_ret
      exact ⟨_, rfl, rfl, bthen hb1 (bthen hq12 hb16)⟩
end Go.Proofs.YtgeokccfobmeiaaDoor
