/- A part of the proof. -/
import Derived.Test.YtdapbegadhcpcaaGreatDoorRdP
set_option linter.unusedVariables false
set_option linter.unusedSimpArgs false
namespace Go.Proofs.YtdapbegadhcpcaaGreatDoor
open Go.RowKit Go.Proofs.YtdapbegadhcpcaaGreatDoorL Go.Proofs.YtdapbegadhcpcaaGreatDoorM
def AllP (base : Nat) (w : World) (v : Value) : Except (Nat × Nat) (List DV) → Prop
 | .ok l => ∃ A c m, v = .tuple #[.slice A m.length c, .int .i64 0, .int .i64 0] ∧ Its w.heap.size base w A c m l ∧ m.length ≤ 65536
 | .error (p, c) => v = .tuple #[.slice none 0 0, .int .i64 (p : Int), .int .i64 (c : Int)] ∧ c ≠ 0
def HeadR (s : List UInt8) (e : Nat) (acc : List DV) (q : Except (Nat × Nat) (List DV)) : Prop :=
 if e < s.length then ∃ q2, Run s (.datum 0 e) q2 ∧ (match q2 with | .error p => q = .error p | .ok (y, f) => AllR s f (acc ++ [y]) q) else q = .ok acc
def AllI (s : List UInt8) (acc : List DV) (q : Except (Nat × Nat) (List DV)) : Rs → Prop
 | .error p => q = .error p
 | .ok (_, e) => HeadR s e acc q
theorem allI {s : List UInt8} {acc : List DV} {r : Except (Nat × Nat) (List DV)} {q0 : Rs} (h : match q0 with
 | .error p => r = .error p
 | .ok (_, e) => if e < s.length then ∃ q2, Run s (.datum 0 e) q2 ∧ (match q2 with | .error p => r = .error p | .ok (y, f) => AllR s f (acc ++ [y]) r) else r = .ok acc) : AllI s acc r q0 := by
 cases q0 with
 | error p => exact h
 | ok xe =>
   obtain ⟨x, e⟩ := xe
   exact h
theorem blanks0c {T : ByteArray} {i : Nat} (h : PC T (.blanks 0 i)) {w : World} {g : Nat} {r : Rs} (h1 : i ≤ T.size) (R : RB w g T i 0 0) (hr : Run T.data.toList (.blanks 0 i) r) :
 Calls Tryz.prog 12 #[.pointer (some ⟨g, 0, none⟩), .int .i64 0] w fun x w' => x = .returned (.tuple #[]) ∧ Upg g w w' ∧ Aft w' g T r := h.blanksc h1 (by omega) R hr
theorem datum0c {T : ByteArray} {i : Nat} (h : PC T (.datum 0 i)) {w : World} {g : Nat} {r : Rs} (h1 : i < T.size) (R : RB w g T i 0 0) (hr : Run T.data.toList (.datum 0 i) r) :
 Calls Tryz.prog 14 #[.pointer (some ⟨g, 0, none⟩), .int .i64 0] w fun x w' => ∃ v, x = .returned v ∧ Upg g w w' ∧ Aft w' g T r ∧ IsD w.heap.size w' r v := h.datumc h1 (by omega) R hr
structure AJ (w0 wr : World) (g : Nat) (T : ByteArray) (q : Except (Nat × Nat) (List DV)) (A : Option Addr) (c : Nat) (m : List LD) (acc : List DV) : Prop where
 its : Its wr.heap.size (g + 1) wr A c m acc
 low : Below w0.heap.size w0 wr
 st : (∃ e, e ≤ T.size ∧ m.length ≤ e ∧ RB wr g T e 0 0 ∧ HeadR T.data.toList e acc q) ∨ (∃ (j p c : Nat), q = .error (p, c) ∧ c ≠ 0 ∧ RB wr g T j p c)
theorem Its.low_base {B0 g : Nat} {w W : World} {A : Option Addr} {c : Nat} {m : List LD} {acc : List DV} (h : Its B0 (g + 1) W A c m acc) (hl : Below w.heap.size w W) (hg : w.heap.size ≤ g) : Its B0 w.heap.size W A c m acc :=
 ⟨h.ow.lower (by omega), h.good, fun b hb => ⟨by have := (h.low b hb).1; omega, (h.low b hb).2⟩, fun k hk => ⟨by have := (h.own k hk).1; omega, (h.own k hk).2⟩, h.same⟩
theorem all_long {w : World} {T : ByteArray} (hT : ¬ T.size ≤ 65536) : Calls Tryz.prog 5 #[.string T] w (Gives w fun v _ => v = .tuple #[.slice none 0 0, .int .i64 0, .int .i64 2]) := by
 have h1 : (65536 : Int) < (T.size : Int) := by omega
 go_enter Tryz.func5, Tryz.ntmps5
 go_wp2
 go_ret3
 exact ⟨_, rfl, rfl, Below.refl _ _⟩
set_option maxRecDepth 16000 in
set_option maxHeartbeats 8000000 in
theorem all_any {w : World} {T : ByteArray} (hT : T.size ≤ 65536) (q : Except (Nat × Nat) (List DV)) (hq : AllR T.data.toList 0 [] q) :
 Calls Tryz.prog 5 #[.string T] w (Gives w fun v w' => AllP w.heap.size w' v q) := by
 have hsl := size_list T
 have h1 : ¬ (65536 : Int) < (T.size : Int) := by omega
 obtain ⟨q0, hq0, hrr⟩ := inv_all hq
 have Hq0 := As.mk hq0
 have H0 : As (AllI T.data.toList [] q q0) := ⟨allI hrr⟩
 clear hq hrr hq0
 go_enter Tryz.func5, Tryz.ntmps5
 go_wp2_with (first
  | ((with_reducible refine g_dst 13 ?_); go_must (refine ev_box 13 rfl (cs := [.string T, .int .i64 0, .int .i64 0, .int .i64 0]) (by rfl) ?_); intro g wn hb B13 hg; have R : RB wn g T 0 0 0 := ⟨B13⟩; have C := R.out.cells; have hlo := hb; clear hb B13)
  | (go_at_call 12; (with_reducible refine (blanks0c (pc T hT (.blanks 0 0)) (Nat.zero_le _) R Hq0.out).mono ?_); rintro e9 wn ⟨rfl, hq, haf⟩; replace hlo := hlo.trans (Upg.below hq hlo.size hg); have Haf := As.mk haf; clear haf C R hq))
 have hgs := Haf.out.lt
 go_loopw [6] (fun l wr => ∃ A c m acc, l = .slice A m.length c ∧ AJ w wr g T q A c m acc) (fun _ wr => muB T wr g)
 case atStart =>
  refine ⟨none, 0, [], [], rfl, Its.nil _ _ _, hlo, ?_⟩
  have h0 := H0.out
  cases q0 with
  | error pc =>
    obtain ⟨p, c⟩ := pc
    obtain ⟨j, R, hc⟩ := Haf.out
    exact .inr ⟨j, p, c, h0, hc, R⟩
  | ok xe =>
    obtain ⟨x, e⟩ := xe
    obtain ⟨R, he⟩ := Haf.out
    exact .inl ⟨e, he, by simp, R, h0⟩
 case round =>
  clear hlo hgs Haf H0 Hq0
  obtain ⟨A, c, m, acc, rfl, HI, hlo, hst⟩ := hrel
  have hsW := Nat.le_refl (World.heap wr).size
  rcases hst with ⟨e, he, hml, R, hh⟩ | ⟨j, p, c0, hr, hc0, R⟩
  · have C := R.out.cells
    have hgW : g + 1 ≤ wr.heap.size := R.lt
    have Hat := As.mk R.at_
    have Her := As.mk R.err
    have Hml : As (m.length ≤ e ∧ e ≤ 65536) := ⟨hml, by omega⟩
    by_cases hm : e < T.size
    · have d1 : decide (e < T.size) = true := decide_eq_true hm
      rw [HeadR, if_pos (by omega)] at hh
      obtain ⟨q2, hq2, hr2⟩ := hh
      have Hq2 := As.mk hq2
      cases q2 with
      | error pc =>
        obtain ⟨p, c0⟩ := pc
        have Hr : As (q = .error (p, c0)) := ⟨hr2⟩
        clear hq2 hr2 hml
        go_wp2_with (first
         | (go_at_call 13; (with_reducible refine (more_b R true d1).mono ?_); rintro e9 wn ⟨vn, rfl, rfl, hb⟩; replace R := R.below hb; clear C; have C := R.out.cells; replace HI := HI.below hb hsW; replace hsW := Nat.le_trans hsW hb.size; replace hlo := bthen hlo hb; clear hb)
         | (go_at_call 14; (with_reducible refine (datum0c (pc T hT (.datum 0 e)) hm R Hq2.out).mono ?_); rintro e9 wn ⟨vn, rfl, hq, haf, ⟨y, rfl, hgy, hfy0, hey⟩⟩; have hfy : ∀ b ∈ footD y, wr.heap.size ≤ b := (fun b hb => Nat.le_trans hsW (hfy0 b hb)); have Hey := As.mk hey; have Haf := As.mk haf; clear hfy0 hey haf C R; obtain ⟨kind, n0, neg, mA, mc, mag, text, Ai, ci, items, Ar, cr, rest⟩ := y; replace HI := HI.upg hq (Nat.lt_succ_self _) hsW; replace hsW := Nat.le_trans hsW hq.size; replace hlo := hlo.trans (Upg.below hq hlo.size hg); clear hq; obtain ⟨j2, R, hc2⟩ : ∃ j2, RB wn g T j2 (p : Int) (c0 : Int) ∧ c0 ≠ 0 := Haf.out; have HC2 := As.mk hc2; have HC : As ((c0 : Int) ≠ 0) := ⟨by omega⟩; clear hc2)
         | ((with_reducible refine g_dst 33 ?_); go_must (refine ev_lit (v := fun g => .slice (some ⟨g, 0, none⟩) 1 1) 33 rfl (cs := encD (.mk kind n0 neg mA mc mag text Ai ci items Ar cr rest)) (t := 35) (by go_simp; rfl) ?_); intro g6 wn hb B6 hg6; replace HI := HI.below hb hsW; replace hsW := Nat.le_trans hsW hb.size; replace hlo := bthen hlo hb; replace Haf := As.mk (Haf.out.below hb); replace hgy := hgy.to hb; clear hb hg6; obtain ⟨j2, R, _⟩ : ∃ j2, RB wn g T j2 (p : Int) (c0 : Int) ∧ c0 ≠ 0 := Haf.out)
         | ((with_reducible refine g_dst 34 ?_); go_must (refine ev_append1 34 Tryz.underlying22 infoD rfl (by decide) rfl HI.ow (.mk kind n0 neg mA mc mag text Ai ci items Ar cr rest) rfl B6 rfl (oneD _) (by have := Hml.out; omega) (by have := Hml.out; simp only [maxLen]; omega) (Nat.le_trans hgW hsW) ?_); intro v9 wn how hg9 hor9; obtain ⟨A9, c9, rfl, h91, h92⟩ := how.form; have hb9 := HI.ow.grown (Below.refl (g + 1) _) hg9 (Nat.le_refl _) (Nat.le_trans hgW hsW); have HI9 := HI.append (l := [(.mk kind n0 neg mA mc mag text Ai ci items Ar cr rest)]) (accl := [erD (.mk kind n0 neg mA mc mag text Ai ci items Ar cr rest)]) hsW hgW (fun y hy => by rw [List.mem_singleton] at hy; subst hy; exact hgy) (fun b hb => by rw [footAll, footAll, List.append_nil] at hb; exact ⟨hfy b hb, good_lt hgy b hb⟩) (by simp [erAll]) how hg9 hor9; replace hlo := hlo.trans (hb9.mono (by omega)); replace Haf := As.mk (Haf.out.belowB hb9 (Nat.lt_succ_self _)); clear B6 HI hgy how hg9 hor9 hb9 h91 h92; obtain ⟨j2, R, _⟩ : ∃ j2, RB wn g T j2 (p : Int) (c0 : Int) ∧ c0 ≠ 0 := Haf.out)
         | (go_at_call 12; (with_reducible refine (blanks_err R HC.out _).mono ?_); rintro e9 wn ⟨rfl, rfl⟩))
        go_roundw
        case rel => exact ⟨A9, c9, m ++ [(.mk kind n0 neg mA mc mag text Ai ci items Ar cr rest)], acc ++ [erD (.mk kind n0 neg mA mc mag text Ai ci items Ar cr rest)], by simp, HI9, hlo, .inr ⟨_, p, c0, Hr.out, HC2.out, R⟩⟩
        case measure => rw [show muB T wr g = T.size - e + 1 by rw [muB, Her.out, if_pos rfl, Hat.out], muB, R.err, if_neg HC.out]; omega
      | ok xf =>
        obtain ⟨x, f⟩ := xf
        have hef : e < f := run_goes hq2 rfl (by omega)
        obtain ⟨q3, hq3, hr3⟩ := inv_all (show AllR T.data.toList f (acc ++ [x]) q from hr2)
        have Hq3 := As.mk hq3
        have H3 : As (AllI T.data.toList (acc ++ [x]) q q3) := ⟨allI hr3⟩
        have Hgo : As (∀ x e, q3 = .ok (x, e) → f ≤ e) := ⟨fun x e h => run_goes hq3 h⟩
        clear hq2 hr2 hml hq3 hr3
        go_wp2_with (first
         | (go_at_call 13; (with_reducible refine (more_b R true d1).mono ?_); rintro e9 wn ⟨vn, rfl, rfl, hb⟩; replace R := R.below hb; clear C; have C := R.out.cells; replace HI := HI.below hb hsW; replace hsW := Nat.le_trans hsW hb.size; replace hlo := bthen hlo hb; clear hb)
         | (go_at_call 14; (with_reducible refine (datum0c (pc T hT (.datum 0 e)) hm R Hq2.out).mono ?_); rintro e9 wn ⟨vn, rfl, hq, haf, ⟨y, rfl, hgy, hfy0, hey⟩⟩; have hfy : ∀ b ∈ footD y, wr.heap.size ≤ b := (fun b hb => Nat.le_trans hsW (hfy0 b hb)); have Hey := As.mk hey; have Haf := As.mk haf; clear hfy0 hey haf C R; obtain ⟨kind, n0, neg, mA, mc, mag, text, Ai, ci, items, Ar, cr, rest⟩ := y; replace HI := HI.upg hq (Nat.lt_succ_self _) hsW; replace hsW := Nat.le_trans hsW hq.size; replace hlo := hlo.trans (Upg.below hq hlo.size hg); clear hq)
         | ((with_reducible refine g_dst 33 ?_); go_must (refine ev_lit (v := fun g => .slice (some ⟨g, 0, none⟩) 1 1) 33 rfl (cs := encD (.mk kind n0 neg mA mc mag text Ai ci items Ar cr rest)) (t := 35) (by go_simp; rfl) ?_); intro g6 wn hb B6 hg6; replace HI := HI.below hb hsW; replace hsW := Nat.le_trans hsW hb.size; replace hlo := bthen hlo hb; replace Haf := As.mk (Haf.out.below hb); replace hgy := hgy.to hb; clear hb hg6)
         | ((with_reducible refine g_dst 34 ?_); go_must (refine ev_append1 34 Tryz.underlying22 infoD rfl (by decide) rfl HI.ow (.mk kind n0 neg mA mc mag text Ai ci items Ar cr rest) rfl B6 rfl (oneD _) (by have := Hml.out; omega) (by have := Hml.out; simp only [maxLen]; omega) (Nat.le_trans hgW hsW) ?_); intro v9 wn how hg9 hor9; obtain ⟨A9, c9, rfl, h91, h92⟩ := how.form; have hb9 := HI.ow.grown (Below.refl (g + 1) _) hg9 (Nat.le_refl _) (Nat.le_trans hgW hsW); have HI9 := HI.append (l := [(.mk kind n0 neg mA mc mag text Ai ci items Ar cr rest)]) (accl := [erD (.mk kind n0 neg mA mc mag text Ai ci items Ar cr rest)]) hsW hgW (fun y hy => by rw [List.mem_singleton] at hy; subst hy; exact hgy) (fun b hb => by rw [footAll, footAll, List.append_nil] at hb; exact ⟨hfy b hb, good_lt hgy b hb⟩) (by simp [erAll]) how hg9 hor9; replace hlo := hlo.trans (hb9.mono (by omega)); replace Haf := As.mk (Haf.out.belowB hb9 (Nat.lt_succ_self _)); clear B6 HI hgy how hg9 hor9 hb9 h91 h92; obtain ⟨R, hf2⟩ : RB wn g T f 0 0 ∧ f ≤ T.size := Haf.out; have C := R.out.cells; clear Haf)
         | (go_at_call 12; (with_reducible refine (blanks0c (pc T hT (.blanks 0 f)) hf2 R Hq3.out).mono ?_); rintro e9 wn ⟨rfl, hq, haf⟩; have hsq := hq.size; have HI := (HI9.upg hq (Nat.lt_succ_self _) (Nat.le_refl _)).more hq.size; replace hlo := hlo.trans (Upg.below hq hlo.size hg); have Haf := As.mk haf; clear haf C R hq HI9))
        go_roundw
        case rel =>
         refine ⟨A9, c9, m ++ [(.mk kind n0 neg mA mc mag text Ai ci items Ar cr rest)], acc ++ [erD (.mk kind n0 neg mA mc mag text Ai ci items Ar cr rest)], by simp, HI, hlo, ?_⟩
         have h3 := H3.out
         rw [Hey.out x f rfl]
         cases q3 with
         | error pc =>
           obtain ⟨p, c⟩ := pc
           obtain ⟨j, R, hc⟩ := Haf.out
           exact .inr ⟨j, p, c, h3, hc, R⟩
         | ok xe =>
           obtain ⟨x, e2⟩ := xe
           obtain ⟨R, he⟩ := Haf.out
           have := Hgo.out x e2 rfl
           exact .inl ⟨e2, he, by rw [List.length_append, List.length_singleton]; have := Hml.out; omega, R, h3⟩
        case measure =>
         rw [show muB T wr g = T.size - e + 1 by rw [muB, Her.out, if_pos rfl, Hat.out], muB]
         cases q3 with
         | error pc =>
           obtain ⟨p, c⟩ := pc
           obtain ⟨j, R, hc⟩ := Haf.out
           rw [R.err, if_neg (by omega)]; omega
         | ok xe =>
           obtain ⟨x, e2⟩ := xe
           obtain ⟨R, he⟩ := Haf.out
           have := Hgo.out x e2 rfl
           rw [R.err, if_pos rfl, R.at_]; omega
    · have d1 : decide (e < T.size) = false := decide_eq_false hm
      rw [HeadR, if_neg (by omega)] at hh
      have Hr : As (q = .ok acc) := ⟨hh⟩
      clear hh hml
      go_wp2_with (first
       | (go_at_call 13; (with_reducible refine (more_b R false d1).mono ?_); rintro e9 wn ⟨vn, rfl, rfl, hb⟩; replace R := R.below hb; clear C; have C := R.out.cells; replace HI := HI.below hb hsW; replace hsW := Nat.le_trans hsW hb.size; replace hlo := bthen hlo hb; clear hb))
      go_ret3
      exact ⟨_, rfl, by rw [Hr.out]; exact ⟨A, c, m, rfl, (HI.more hsW).low_base hlo hg, by have := Hml.out; omega⟩, hlo⟩
  · have C := R.out.cells
    have Hr : As (q = .error (p, c0)) := ⟨hr⟩
    have hz : ((c0 : Int) == 0) = false := by simpa using hc0
    have hz2 : ((c0 : Int) != 0) = true := by simpa using hc0
    have HC2 := As.mk hc0
    clear hr hc0
    go_wp2
    go_quiet (fail)
    go_wp2
    go_ret3
    exact ⟨_, rfl, by rw [Hr.out]; exact ⟨rfl, HC2.out⟩, dr hlo _⟩
end Go.Proofs.YtdapbegadhcpcaaGreatDoor
