/- A part of the proof. -/
import Derived.Test.YtdapbegadhcpcaaGreatDoorRfH
import Derived.Test.YtdapbegadhcpcaaGreatDoorRdQ
set_option linter.unusedVariables false
set_option linter.unusedSimpArgs false
namespace Go.Proofs.YtdapbegadhcpcaaGreatDoor
open Go.RowKit Go.Proofs.YtdapbegadhcpcaaGreatDoorL Go.Proofs.YtdapbegadhcpcaaGreatDoorM
theorem skip0c {T : ByteArray} {i : Nat} (h : PCr T (.blanks 0 i)) {w : World} {g : Nat} {r : Rs} (h1 : i ≤ T.size) (R : RR w g T i 0 0) (hr : Run T.data.toList (.blanks 0 i) r) :
 Calls Tryz.prog 15 #[.pointer (some ⟨g, 0, none⟩), .int .i64 0] w fun x w' => x = .returned (.tuple #[]) ∧ Upg g w w' ∧ AftR w' g T r := h.blanksc h1 (by omega) R hr
theorem next0r {T : ByteArray} {i : Nat} (h : PCr T (.next 0 i)) {w : World} {g : Nat} {r : Rs} (h1 : i ≤ T.size) (R : RR w g T i 0 0) (hr : Run T.data.toList (.next 0 i) r) :
 Calls Tryz.prog 17 #[.pointer (some ⟨g, 0, none⟩), .int .i64 0] w fun x w' => ∃ v, x = .returned v ∧ Upg g w w' ∧ AftR w' g T r ∧ IsD w.heap.size w' r v := h.nextc h1 (by omega) R hr
theorem rall_long {w : World} {T : ByteArray} (hT : ¬ T.size ≤ 65536) : Calls Tryz.prog 6 #[.string T] w (Gives w fun v _ => v = .tuple #[.slice none 0 0, .int .i64 0, .int .i64 2]) := by
 have h1 : (65536 : Int) < (T.size : Int) := by omega
 go_enter Tryz.func6, Tryz.ntmps6
 go_wp2
 go_ret3
 exact ⟨_, rfl, rfl, Below.refl _ _⟩
structure AJr (w0 wr : World) (g : Nat) (T : ByteArray) (q : Except (Nat × Nat) (List DV)) (A : Option Addr) (c : Nat) (m : List LD) (acc : List DV) (e : Nat) : Prop where
 its : Its wr.heap.size (g + 1) wr A c m acc
 low : Below w0.heap.size w0 wr
 he : e ≤ T.size
 hml : m.length ≤ e
 R : RR wr g T e 0 0
 all : AllR T.data.toList e acc q
set_option maxRecDepth 16000 in
set_option maxHeartbeats 8000000 in
theorem rall_any {w : World} {T : ByteArray} (hT : T.size ≤ 65536) (q : Except (Nat × Nat) (List DV)) (hq : AllR T.data.toList 0 [] q) :
 Calls Tryz.prog 6 #[.string T] w (Gives w fun v w' => AllP w.heap.size w' v q) := by
 have hsl := size_list T
 have h1 : ¬ (65536 : Int) < (T.size : Int) := by omega
 have Hall := As.mk hq
 clear hq
 go_enter Tryz.func6, Tryz.ntmps6
 go_wp2_with (first
  | ((with_reducible refine g_dst 13 ?_); go_must (refine ev_box 13 rfl (cs := [.string T, .int .i64 0, .int .i64 0, .int .i64 0]) (by rfl) ?_); intro g wn hb B13 hg; have R : RR wn g T 0 0 0 := ⟨B13⟩; have C := R.out.cells; have hlo := hb; clear hb B13))
 go_loopw [6] (fun l wr => ∃ A c m acc e, l = .slice A m.length c ∧ AJr w wr g T q A c m acc e) (fun _ wr => T.size - atOf wr g)
 case atStart => exact ⟨none, 0, [], [], 0, rfl, Its.nil _ _ _, hlo, Nat.zero_le _, Nat.zero_le _, R, Hall.out⟩
 case round =>
  clear hlo R C Hall
  obtain ⟨A, c, m, acc, e, rfl, HI, hlo, he, hml, R, hall⟩ := hrel
  have hsW := Nat.le_refl (World.heap wr).size
  have hgW : g + 1 ≤ wr.heap.size := R.lt
  have hwW : w.heap.size ≤ wr.heap.size := hlo.size
  have C := R.out.cells
  have Hat := As.mk R.at_
  have Hml : As (m.length ≤ e ∧ e ≤ 65536) := ⟨hml, by omega⟩
  obtain ⟨q0, hq0, hrr⟩ := inv_all hall
  have Hq0 := As.mk hq0
  cases q0 with
  | error pc =>
    obtain ⟨p, c0⟩ := pc
    have Hr : As (q = .error (p, c0)) := ⟨hrr⟩
    clear hall hq0 hrr hml
    go_wp2_with (first
     | (go_at_call 15; (with_reducible refine (skip0c (pcr T hT (.blanks 0 e)) he R Hq0.out).mono ?_); rintro e9 wn ⟨rfl, hq, haf⟩; replace HI := HI.upg hq (Nat.lt_succ_self _) hsW; replace hsW := Nat.le_trans hsW hq.size; replace hlo := hlo.trans (Upg.below hq hlo.size hg); clear C R hq; obtain ⟨j2, R, hc2⟩ : ∃ j2, RR wn g T j2 (p : Int) (c0 : Int) ∧ c0 ≠ 0 := haf; have hz : ((c0 : Int) != 0) = true := (by simpa using hc2); have hz2 : ((c0 : Int) == 0) = false := (by simpa using hc2); have HC : As ((c0 : Int) ≠ 0) := ⟨by omega⟩; have HC2 := As.mk hc2; clear hc2; have C := R.out.cells)
     | (go_at_call 17; (with_reducible refine (rnext_err R HC.out 0 (.error (0, 1)) (fun x e h => nomatch h)).mono ?_); rintro e9 wn ⟨vn, rfl, hq, R2, ⟨y, rfl, hgy, _, _⟩⟩; obtain ⟨kind, n0, neg, mA, mc, mag, text, Ai, ci, items, Ar, cr, rest⟩ := y; replace HI := HI.upg hq (Nat.lt_succ_self _) hsW; replace hsW := Nat.le_trans hsW hq.size; replace hlo := hlo.trans (Upg.below hq hlo.size hg); clear C R hq; have R := R2; clear R2; have C := R.out.cells)
     | ((with_reducible refine g_dst 7 ?_); go_must (refine ev_alloc 7 rfl infoD (cs := [.int .i64 0, .int .i64 0, .bool false, .slice none 0 0, .string ⟨#[]⟩, .slice none 0 0, .slice none 0 0]) rfl ?_); intro g7 wn hb B7 hg7; have hn7 : ∀ b ∈ footD (.mk kind n0 neg mA mc mag text Ai ci items Ar cr rest), b ≠ g7 := (fun b hb => by have := good_lt hgy b hb; omega); have hs7 := Nat.le_trans hsW hg7; have hne7 : g ≠ g7 := (by omega); have hw7 : w.heap.size ≤ g7 := (by omega); replace R := R.below hb; clear C; have C := R.out.cells; replace HI := HI.below hb hsW; replace hsW := Nat.le_trans hsW hb.size; replace hlo := bthen hlo hb; replace hgy := hgy.to hb; clear hb hg7)
     | ((with_reducible refine g_store 7 ?_); go_must (refine ev_store rfl rfl B7 (news := encD (.mk kind n0 neg mA mc mag text Ai ci items Ar cr rest)) (by rfl) infoD (by simp [encD]) (by simp [encD, Value.oneCell']) ?_); intro wn ho Bn; simp only [encD, zA, zB, zC, zD, zE, zF, zG, zH] at Bn; have R2 : RR wn g T _ _ _ := ⟨R.out.only ho hne7⟩; clear C R; have R := R2; clear R2; have C := R.out.cells; replace HI := HI.only ho (.inr hs7); replace hsW := Nat.le_trans hsW (Nat.le_of_eq ho.size.symm); replace hlo := hlo.trans (ho.below hw7); replace hgy := good_only hgy ho hn7; replace B7 := Bn; clear Bn ho; have C7 := B7.cells))
    go_quiet (fail)
    go_wp2
    go_ret3
    exact ⟨_, rfl, by rw [Hr.out]; exact ⟨rfl, HC2.out⟩, dr hlo _⟩
  | ok xe =>
    obtain ⟨x, e1⟩ := xe
    have hee : e ≤ e1 := run_goes hq0 rfl
    simp only at hrr
    by_cases hm : e1 < T.size
    case neg =>
     have d1 : decide (T.size ≤ e1) = true := decide_eq_true (by omega)
     rw [if_neg (by omega)] at hrr
     have Hr : As (q = .ok acc) := ⟨hrr⟩
     clear hall hq0 hrr hml
     go_wp2_with (first
      | (go_at_call 15; (with_reducible refine (skip0c (pcr T hT (.blanks 0 e)) he R Hq0.out).mono ?_); rintro e9 wn ⟨rfl, hq, haf⟩; replace HI := HI.upg hq (Nat.lt_succ_self _) hsW; replace hsW := Nat.le_trans hsW hq.size; replace hlo := hlo.trans (Upg.below hq hlo.size hg); clear C R hq; obtain ⟨R, hle_e1⟩ : RR wn g T e1 0 0 ∧ e1 ≤ T.size := haf; have C := R.out.cells)
      | (go_at_call 16; (with_reducible refine (rend_b R true d1).mono ?_); rintro e9 wn ⟨vn, rfl, rfl, hb⟩; replace R := R.below hb; clear C; have C := R.out.cells; replace HI := HI.below hb hsW; replace hsW := Nat.le_trans hsW hb.size; replace hlo := bthen hlo hb; clear hb))
     go_ret3
     exact ⟨_, rfl, by rw [Hr.out]; exact ⟨A, c, m, rfl, (HI.more hsW).low_base hlo hg, by have := Hml.out; omega⟩, hlo⟩
    have d1 : decide (T.size ≤ e1) = false := decide_eq_false (by omega)
    rw [if_pos (by omega)] at hrr
    obtain ⟨q2, hq2, hr2⟩ := hrr
    have Hq2 := As.mk (next_of (run_end hq0 (by omega)) hq2)
    cases q2 with
    | error pc =>
      obtain ⟨p, c0⟩ := pc
      have Hr : As (q = .error (p, c0)) := ⟨hr2⟩
      clear hall hq0 hq2 hr2 hml
      go_wp2_with (first
       | (go_at_call 15; (with_reducible refine (skip0c (pcr T hT (.blanks 0 e)) he R Hq0.out).mono ?_); rintro e9 wn ⟨rfl, hq, haf⟩; replace HI := HI.upg hq (Nat.lt_succ_self _) hsW; replace hsW := Nat.le_trans hsW hq.size; replace hlo := hlo.trans (Upg.below hq hlo.size hg); clear C R hq; obtain ⟨R, hle_e1⟩ : RR wn g T e1 0 0 ∧ e1 ≤ T.size := haf; have C := R.out.cells)
       | (go_at_call 16; (with_reducible refine (rend_b R false d1).mono ?_); rintro e9 wn ⟨vn, rfl, rfl, hb⟩; replace R := R.below hb; clear C; have C := R.out.cells; replace HI := HI.below hb hsW; replace hsW := Nat.le_trans hsW hb.size; replace hlo := bthen hlo hb; clear hb)
       | (go_at_call 17; (with_reducible refine (next0r (pcr T hT (.next 0 e1)) hle_e1 R Hq2.out).mono ?_); rintro e9 wn ⟨vn, rfl, hq, haf, ⟨y, rfl, hgy, hfy0, hey⟩⟩; have hfy : ∀ b ∈ footD y, wr.heap.size ≤ b := (fun b hb => Nat.le_trans hsW (hfy0 b hb)); have Hey := As.mk hey; clear hfy0 hey C R; obtain ⟨kind, n0, neg, mA, mc, mag, text, Ai, ci, items, Ar, cr, rest⟩ := y; replace HI := HI.upg hq (Nat.lt_succ_self _) hsW; replace hsW := Nat.le_trans hsW hq.size; replace hlo := hlo.trans (Upg.below hq hlo.size hg); clear hq; obtain ⟨j2, R, hc2⟩ : ∃ j2, RR wn g T j2 (p : Int) (c0 : Int) ∧ c0 ≠ 0 := haf; have hz : ((c0 : Int) != 0) = true := (by simpa using hc2); have hz2 : ((c0 : Int) == 0) = false := (by simpa using hc2); have HC : As ((c0 : Int) ≠ 0) := ⟨by omega⟩; have HC2 := As.mk hc2; clear hc2; have C := R.out.cells)
       | ((with_reducible refine g_dst 7 ?_); go_must (refine ev_alloc 7 rfl infoD (cs := [.int .i64 0, .int .i64 0, .bool false, .slice none 0 0, .string ⟨#[]⟩, .slice none 0 0, .slice none 0 0]) rfl ?_); intro g7 wn hb B7 hg7; have hn7 : ∀ b ∈ footD (.mk kind n0 neg mA mc mag text Ai ci items Ar cr rest), b ≠ g7 := (fun b hb => by have := good_lt hgy b hb; omega); have hs7 := Nat.le_trans hsW hg7; have hne7 : g ≠ g7 := (by omega); have hw7 : w.heap.size ≤ g7 := (by omega); replace R := R.below hb; clear C; have C := R.out.cells; replace HI := HI.below hb hsW; replace hsW := Nat.le_trans hsW hb.size; replace hlo := bthen hlo hb; replace hgy := hgy.to hb; clear hb hg7)
       | ((with_reducible refine g_store 7 ?_); go_must (refine ev_store rfl rfl B7 (news := encD (.mk kind n0 neg mA mc mag text Ai ci items Ar cr rest)) (by rfl) infoD (by simp [encD]) (by simp [encD, Value.oneCell']) ?_); intro wn ho Bn; simp only [encD, zA, zB, zC, zD, zE, zF, zG, zH] at Bn; have R2 : RR wn g T _ _ _ := ⟨R.out.only ho hne7⟩; clear C R; have R := R2; clear R2; have C := R.out.cells; replace HI := HI.only ho (.inr hs7); replace hsW := Nat.le_trans hsW (Nat.le_of_eq ho.size.symm); replace hlo := hlo.trans (ho.below hw7); replace hgy := good_only hgy ho hn7; replace B7 := Bn; clear Bn ho; have C7 := B7.cells))
      go_quiet (fail)
      go_wp2
      go_ret3
      exact ⟨_, rfl, by rw [Hr.out]; exact ⟨rfl, HC2.out⟩, dr hlo _⟩
    | ok xf =>
      obtain ⟨x2, f⟩ := xf
      have hef : e1 < f := run_goes Hq2.out rfl
      have Ha : As (AllR T.data.toList f (acc ++ [x2]) q) := ⟨hr2⟩
      clear hall hq0 hq2 hr2 hml
      go_wp2_with (first
       | (go_at_call 15; (with_reducible refine (skip0c (pcr T hT (.blanks 0 e)) he R Hq0.out).mono ?_); rintro e9 wn ⟨rfl, hq, haf⟩; replace HI := HI.upg hq (Nat.lt_succ_self _) hsW; replace hsW := Nat.le_trans hsW hq.size; replace hlo := hlo.trans (Upg.below hq hlo.size hg); clear C R hq; obtain ⟨R, hle_e1⟩ : RR wn g T e1 0 0 ∧ e1 ≤ T.size := haf; have C := R.out.cells)
       | (go_at_call 16; (with_reducible refine (rend_b R false d1).mono ?_); rintro e9 wn ⟨vn, rfl, rfl, hb⟩; replace R := R.below hb; clear C; have C := R.out.cells; replace HI := HI.below hb hsW; replace hsW := Nat.le_trans hsW hb.size; replace hlo := bthen hlo hb; clear hb)
       | (go_at_call 17; (with_reducible refine (next0r (pcr T hT (.next 0 e1)) hle_e1 R Hq2.out).mono ?_); rintro e9 wn ⟨vn, rfl, hq, haf, ⟨y, rfl, hgy, hfy0, hey⟩⟩; have hfy : ∀ b ∈ footD y, wr.heap.size ≤ b := (fun b hb => Nat.le_trans hsW (hfy0 b hb)); have Hey := As.mk hey; clear hfy0 hey C R; obtain ⟨kind, n0, neg, mA, mc, mag, text, Ai, ci, items, Ar, cr, rest⟩ := y; replace HI := HI.upg hq (Nat.lt_succ_self _) hsW; replace hsW := Nat.le_trans hsW hq.size; replace hlo := hlo.trans (Upg.below hq hlo.size hg); clear hq; obtain ⟨R, hle_f⟩ : RR wn g T f 0 0 ∧ f ≤ T.size := haf; have C := R.out.cells)
       | ((with_reducible refine g_dst 7 ?_); go_must (refine ev_alloc 7 rfl infoD (cs := [.int .i64 0, .int .i64 0, .bool false, .slice none 0 0, .string ⟨#[]⟩, .slice none 0 0, .slice none 0 0]) rfl ?_); intro g7 wn hb B7 hg7; have hn7 : ∀ b ∈ footD (.mk kind n0 neg mA mc mag text Ai ci items Ar cr rest), b ≠ g7 := (fun b hb => by have := good_lt hgy b hb; omega); have hs7 := Nat.le_trans hsW hg7; have hne7 : g ≠ g7 := (by omega); have hw7 : w.heap.size ≤ g7 := (by omega); replace R := R.below hb; clear C; have C := R.out.cells; replace HI := HI.below hb hsW; replace hsW := Nat.le_trans hsW hb.size; replace hlo := bthen hlo hb; replace hgy := hgy.to hb; clear hb hg7)
       | ((with_reducible refine g_store 7 ?_); go_must (refine ev_store rfl rfl B7 (news := encD (.mk kind n0 neg mA mc mag text Ai ci items Ar cr rest)) (by rfl) infoD (by simp [encD]) (by simp [encD, Value.oneCell']) ?_); intro wn ho Bn; simp only [encD, zA, zB, zC, zD, zE, zF, zG, zH] at Bn; have R2 : RR wn g T _ _ _ := ⟨R.out.only ho hne7⟩; clear C R; have R := R2; clear R2; have C := R.out.cells; replace HI := HI.only ho (.inr hs7); replace hsW := Nat.le_trans hsW (Nat.le_of_eq ho.size.symm); replace hlo := hlo.trans (ho.below hw7); replace hgy := good_only hgy ho hn7; replace B7 := Bn; clear Bn ho; have C7 := B7.cells)
       | ((with_reducible refine g_dst 43 ?_); go_must (refine ev_lit (v := fun g => .slice (some ⟨g, 0, none⟩) 1 1) 43 rfl (cs := encD (.mk kind n0 neg mA mc mag text Ai ci items Ar cr rest)) (t := 35) (by go_simp; rfl) ?_); intro g6 wn hb B6 hg6; clear C7; replace R := R.below hb; clear C; have C := R.out.cells; replace HI := HI.below hb hsW; replace hsW := Nat.le_trans hsW hb.size; replace hlo := bthen hlo hb; replace hgy := hgy.to hb; clear hb hg6)
       | ((with_reducible refine g_dst 44 ?_); go_must (refine ev_append1 44 Tryz.underlying22 infoD rfl (by decide) rfl HI.ow (.mk kind n0 neg mA mc mag text Ai ci items Ar cr rest) rfl B6 rfl (oneD _) (by have := Hml.out; omega) (by have := Hml.out; simp only [maxLen]; omega) (Nat.le_trans hgW hsW) ?_); intro v9 wn how hg9 hor9; obtain ⟨A9, c9, rfl, h91, h92⟩ := how.form; have hb9 := HI.ow.grown (Below.refl (g + 1) _) hg9 (Nat.le_refl _) (Nat.le_trans hgW hsW); have HI9 := HI.append (l := [(.mk kind n0 neg mA mc mag text Ai ci items Ar cr rest)]) (accl := [erD (.mk kind n0 neg mA mc mag text Ai ci items Ar cr rest)]) hsW hgW (fun y hy => by rw [List.mem_singleton] at hy; subst hy; exact hgy) (fun b hb => by rw [footAll, footAll, List.append_nil] at hb; exact ⟨hfy b hb, good_lt hgy b hb⟩) (by simp [erAll]) how hg9 hor9; replace hlo := hlo.trans (hb9.mono (by omega)); replace R : RR wn g T _ _ _ := ⟨blkB R.out hb9 (Nat.lt_succ_self _)⟩; clear B6 HI hgy how hg9 hor9 hb9 h91 h92 C))
      go_roundw
      case rel =>
       refine ⟨A9, c9, m ++ [(.mk kind n0 neg mA mc mag text Ai ci items Ar cr rest)], acc ++ [erD (.mk kind n0 neg mA mc mag text Ai ci items Ar cr rest)], f, by simp, HI9, hlo, hle_f, by rw [List.length_append, List.length_singleton]; have := Hml.out; omega, R, ?_⟩
       rw [Hey.out x2 f rfl]
       exact Ha.out
      case measure => rw [R.at_, Hat.out]; omega
end Go.Proofs.YtdapbegadhcpcaaGreatDoor
