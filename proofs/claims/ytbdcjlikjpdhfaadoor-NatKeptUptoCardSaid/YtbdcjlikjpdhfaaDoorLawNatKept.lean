/- NatKept. -/
import Derived.Test.YtbdcjlikjpdhfaaDoorAwake1
import Derived.Test.YtbdcjlikjpdhfaaDoorOwnAny
import Derived.Test.YtbdcjlikjpdhfaaDoorMark
namespace Go.Proofs.YtbdcjlikjpdhfaaDoor
open Go.RowKit Go.Proofs.YtbdcjlikjpdhfaaDoorL Go.Proofs.YtbdcjlikjpdhfaaDoorM
set_option linter.unusedVariables false
set_option linter.unusedSimpArgs false
theorem ev_append9 {e : TypeId} {base k : Nat} {v : Value} {P : Program} {ops : Array Oper} {Q : Exit → Act → World → Prop} {a : Act} {W : World} {rest : List Oper} (N : Tmp) {s y : Operand} {t ty : TypeId} {ps : String} {af : Array Edge} {gd : Option (Nat × Bool)}
    (hw : Region.wanted { dst := some N, op := .call { callee := .builtin .append, args := #[s, y], argTypes := #[t, t] }, type := ty, pos := ps, after := af, guard := gd } (yielded ops a.tmps) = true)
    (ht : P.underlying t = some (.slice e)) {z : Value} {bytes : Nat} (hi : (P.info? e).map (fun i => (i.zero, i.size, i.bytes)) = some (some z, 1, bytes)) (hz : z.cells.size = 1) (hbt : bytes ≤ 8)
    (hs : a.eval s = v) (f : On e base k W v) {c : Nat} (hy : a.eval y = .slice (some ⟨W.heap.size, 0, none⟩) 1 c) (x : Value) (h1 : x.oneCell' = true) (hk : k ≤ 1048576) (hbase : base ≤ W.heap.size)
    (h : ∀ v' w1, On e base (k + 1) w1 v' → Fr W w1 → Below base W w1 → wpList P ops Q rest (a.put (some N) v') w1) :
    wpList P ops Q ({ dst := some N, op := .call { callee := .builtin .append, args := #[s, y], argTypes := #[t, t] }, type := ty, pos := ps, after := af, guard := gd } :: rest) a (W.alloc (.cells #[x] e)) := by
  have hn := new_below W (.cells [x].toArray e)
  refine ev_appendO N hw ht hi hz hbt hs (f.frame (Fr.below hn)) hy (Blk.new W [x] e) h1 hk (Nat.le_trans hbase hn.size) ?_
  intro v' w1 ho hf hb
  exact h v' w1 ho ((Fr.below hn).trans hf) ((hn.mono hbase).trans hb)
theorem LimRes.on {w w' : World} {V K base : Nat} {v : Value} (h : LimRes w V K v w') (hb : base ≤ w.heap.size) : On 36 base 0 w' v := by
  obtain ⟨A, n, c, rfl, ⟨⟨l, h1, h2, _, _⟩, _⟩, how⟩ := h
  have hn := how.len_eq
  simp only at h1 h2
  have := h2.max
  exact (On.of how encU_one (by omega)).lower hb
theorem On.none (t : TypeId) (base : Nat) (w : World) : On t base 0 w (.slice none 0 0) := ⟨[], Nat.le_refl _, by simp, Ow.nil _ _ _ _ _⟩
theorem On.form {t : TypeId} {base k : Nat} {w : World} {v : Value} (h : On t base k w v) : ∃ A n c, v = .slice A n c := by
  obtain ⟨l, _, _, ho⟩ := h.ex
  obtain ⟨A, c, e, _⟩ := ho.form
  exact ⟨A, _, c, e⟩
section
variable {w : World} {L : List UR} {A A2 : Option Addr} {n n2 c c2 V U K K2 : Nat} {can can2 : Bool}
theorem subU_any (F : Us w L) (h : (⟨A, n, c, V, K, can⟩ : UR) ∈ L) (h' : (⟨A2, n2, c2, U, K2, can2⟩ : UR) ∈ L) (hK : K ≤ 274877906944 ∧ K2 ≤ 274877906944) :
    Calls Tryd.prog 28 #[.slice A n c, .slice A2 n2 c2] w (Gives w (fun v _ => ∃ q b, v = .tuple #[q, .bool b])) := by
  rcases Nat.lt_or_ge V U with hlt | hge
  · refine (subU_lt F h h' hlt hK).mono ?_
    rintro e w' ⟨v, rfl, rfl, hb⟩
    exact ⟨_, rfl, ⟨_, _, rfl⟩, hb⟩
  · refine (subU_ge F h h' hge hK).mono ?_
    rintro e w' ⟨v, rfl, ⟨q, rfl, _⟩, hb⟩
    exact ⟨_, rfl, ⟨_, _, rfl⟩, hb⟩
theorem divU_any (F : Us w L) (h : (⟨A, n, c, V, K, can⟩ : UR) ∈ L) (h' : (⟨A2, n2, c2, U, K2, can2⟩ : UR) ∈ L) (hK : K ≤ 274877906944) :
    Calls Tryd.prog 32 #[.slice A n c, .slice A2 n2 c2] w (Gives w (fun v w' => ∃ q r b, v = .tuple #[q, r, .bool b] ∧ On 36 w.heap.size 0 w' q ∧ On 36 w.heap.size 0 w' r)) := by
  rcases Nat.eq_zero_or_pos U with h0 | h0
  · refine (divU0 F h h' h0).mono ?_
    rintro e w' ⟨v, rfl, rfl, hb⟩
    exact ⟨_, rfl, ⟨_, _, _, rfl, On.none _ _ _, On.none _ _ _⟩, hb⟩
  · refine (divU F h h' h0 hK).mono ?_
    rintro e w' ⟨v, rfl, ⟨q, r, rfl, hq, hr⟩, hb⟩
    exact ⟨_, rfl, ⟨_, _, _, rfl, hq.on (Nat.le_refl _), hr.on (Nat.le_refl _)⟩, hb⟩
end
theorem marked_lim {W : World} {base n d : Nat} {B : Option Addr} {l : List Nat} (f : Ow encU 1 36 base W (.slice B n d) (l ++ marks 40)) (hl : ∀ x ∈ l, x < 4294967296) (hm : l.length ≤ 1073741824) : Lim W B d l := by
  obtain ⟨A', c', e, h1, h2⟩ := f.form
  simp only [Value.slice.injEq] at e
  obtain ⟨rfl, rfl, rfl⟩ := e
  have := (f.rd lenU).take l.length
  rw [List.take_left] at this
  exact ⟨this, hl, by rw [List.length_append] at h1; omega, f.none, by omega⟩
theorem UR.Ok.of2 {w : World} {A : Option Addr} {c n V : Nat} {l : List Nat} (h : Lim w A c l) (hn : l.length = n) (hV : valB 4294967296 l = V) : UR.Ok w ⟨A, n, c, V, n, false⟩ := by
  subst hn hV
  exact ⟨⟨l, rfl, h, rfl, fun h => (nomatch h)⟩, Nat.le_refl _⟩
set_option maxRecDepth 16000 in
set_option maxHeartbeats 8000000 in
theorem natKept_any (l1 l2 : List Nat) (A1 A2 : Option Addr) (c1 c2 : Nat) (w : World) (htab : Tab w) (h1 : Lim w A1 c1 l1) (h2 : Lim w A2 c2 l2) (hl : l1.length + l2.length ≤ 1048576) :
    Calls Tryd.prog 13 #[.slice A1 l1.length c1, .slice A2 l2.length c2] w (Gives w fun v _ => v = .bool true) := by
  have HT := As.mk htab
  have HM1 := As.mk (marked_any l1 A1 c1 w h1.rd h1.none (by omega))
  have HM2 := As.mk (fun (W : World) (hb : Below w.heap.size w W) => marked_any l2 A2 c2 W (h2.rd.below hb) h2.none (by omega))
  obtain ⟨k1, V1, e1, f1, o1⟩ := UR.Ok.of h1
  obtain ⟨k2, V2, e2, f2, o2⟩ := UR.Ok.of h2
  clear o1 o2
  have HF := As.mk (fun (W : World) (b1 n1 d1 b2 n2 d2 : Nat) (B1 B2 : Option Addr) (g1 : Ow encU 1 36 b1 W (.slice B1 n1 d1) (l1 ++ marks 40)) (g2 : Ow encU 1 36 b2 W (.slice B2 n2 d2) (l2 ++ marks 40)) =>
    show Us W [⟨B1, k1, d1, V1, k1, false⟩, ⟨B2, k2, d2, V2, k2, false⟩] from ((Us.nil W).cons (UR.Ok.of2 (marked_lim g2 h2.lt (by omega)) e2 f2)).cons (UR.Ok.of2 (marked_lim g1 h1.lt (by omega)) e1 f1))
  have HB1 := As.mk (fun (W W2 : World) (base n d : Nat) (B : Option Addr) (g : Ow encU 1 36 base W (.slice B n d) (l1 ++ marks 40)) (hb0 : Below w.heap.size w W) (hb : Below W.heap.size W W2) => back_any l1 A1 B c1 n d W2 ((h1.rd.below hb0).below hb) ((g.rd lenU).below hb) h1.cap (by rw [g.len_eq, List.length_append, marks_len]) (by obtain ⟨A', c', e, h1, h2⟩ := g.form; simp only [Value.slice.injEq] at e; omega) (by omega))
  have HB2 := As.mk (fun (W W2 : World) (base n d : Nat) (B : Option Addr) (g : Ow encU 1 36 base W (.slice B n d) (l2 ++ marks 40)) (hb0 : Below w.heap.size w W) (hb : Below W.heap.size W W2) => back_any l2 A2 B c2 n d W2 ((h2.rd.below hb0).below hb) ((g.rd lenU).below hb) h2.cap (by rw [g.len_eq, List.length_append, marks_len]) (by obtain ⟨A', c', e, h1, h2⟩ := g.form; simp only [Value.slice.injEq] at e; omega) (by omega))
  rw [e1] at hl HM1 HB1 ⊢
  rw [e2] at hl HM2 HB2 ⊢
  clear htab h1 h2 f1 e1 f2 e2
  go_enter Tryd.func13, Tryd.ntmps13
  go_wp2_with (first
    | (go_at_call 34; (with_reducible refine HM1.out.mono ?_); rintro e w1 ⟨v1, rfl, ⟨B1, n1, d1, rfl, g1⟩, hb1⟩)
    | (go_at_call 34; (with_reducible refine (HM2.out _ hb1).mono ?_); rintro e w2 ⟨v2, rfl, ⟨B2, n2, d2, rfl, g2⟩, hb2⟩; have hb0 := As.mk (bthen hb1 hb2); have F := HF.out w2 _ _ _ _ _ _ _ _ (g1.below hb2) g2; replace HB1 := As.mk (fun W2 => HB1.out w2 W2 _ _ _ _ (g1.below hb2) hb0.out); replace HB2 := As.mk (fun W2 => HB2.out w2 W2 _ _ _ _ g2 hb0.out); have hcur := Below.refl w2.heap.size w2; clear hb1 hb2 g1 g2 HF HM1 HM2)
    | (go_at_call 16; (with_reducible refine (addU F (by repeat (first | exact List.mem_cons_self .. | apply List.mem_cons_of_mem)) (by repeat (first | exact List.mem_cons_self .. | apply List.mem_cons_of_mem)) (by omega)).mono ?_); rintro e wn ⟨vn, rfl, o, hb⟩; have Qsn := o.on (base := w2.heap.size) hcur.size; replace F := F.below hb; replace hcur := bthen hcur hb; (try replace Qs := Qs.frame (Fr.below hb)); (try replace Qp := Qp.frame (Fr.below hb)); (try replace Qq := Qq.frame (Fr.below hb)); (try replace Qr := Qr.frame (Fr.below hb)); (try replace Qz := Qz.frame (Fr.below hb)); obtain ⟨An, nn, cn, rfl, o, _⟩ := o; have Qs := Qsn; clear Qsn hb)
    | (go_at_call 16; (with_reducible refine (addU0 F (by repeat (first | exact List.mem_cons_self .. | apply List.mem_cons_of_mem)) (by omega)).mono ?_); rintro e wn ⟨vn, rfl, o, hb⟩; have Qzn := o.on (base := w2.heap.size) hcur.size; replace F := F.below hb; replace hcur := bthen hcur hb; (try replace Qs := Qs.frame (Fr.below hb)); (try replace Qp := Qp.frame (Fr.below hb)); (try replace Qq := Qq.frame (Fr.below hb)); (try replace Qr := Qr.frame (Fr.below hb)); (try replace Qz := Qz.frame (Fr.below hb)); obtain ⟨An, nn, cn, rfl, o, _⟩ := o; have Qz := Qzn; clear Qzn hb)
    | (go_at_call 26; (with_reducible refine (mulU F (by repeat (first | exact List.mem_cons_self .. | apply List.mem_cons_of_mem)) (by repeat (first | exact List.mem_cons_self .. | apply List.mem_cons_of_mem)) (by omega)).mono ?_); rintro e wn ⟨vn, rfl, o, hb⟩; have Qpn := o.on (base := w2.heap.size) hcur.size; replace F := F.below hb; replace hcur := bthen hcur hb; (try replace Qs := Qs.frame (Fr.below hb)); (try replace Qp := Qp.frame (Fr.below hb)); (try replace Qq := Qq.frame (Fr.below hb)); (try replace Qr := Qr.frame (Fr.below hb)); (try replace Qz := Qz.frame (Fr.below hb)); obtain ⟨An, nn, cn, rfl, o, _⟩ := o; have Qp := Qpn; clear Qpn hb)
    | (go_at_call 32; (with_reducible refine (divU_any F (by repeat (first | exact List.mem_cons_self .. | apply List.mem_cons_of_mem)) (by repeat (first | exact List.mem_cons_self .. | apply List.mem_cons_of_mem)) (by omega)).mono ?_); rintro e wn ⟨vn, rfl, ⟨qn, rn, bn, rfl, Qq, Qr⟩, hb⟩; replace Qq := Qq.lower hcur.size; replace Qr := Qr.lower hcur.size; replace F := F.below hb; replace hcur := bthen hcur hb; (try replace Qs := Qs.frame (Fr.below hb)); (try replace Qp := Qp.frame (Fr.below hb)); clear hb)
    | (go_at_call 28; (with_reducible refine (subU_any F (by repeat (first | exact List.mem_cons_self .. | apply List.mem_cons_of_mem)) (by repeat (first | exact List.mem_cons_self .. | apply List.mem_cons_of_mem)) (by omega)).mono ?_); rintro e wn ⟨vn, rfl, ⟨qd, bd, rfl⟩, hb⟩; replace F := F.below hb; replace hcur := bthen hcur hb; (try replace Qs := Qs.frame (Fr.below hb)); (try replace Qp := Qp.frame (Fr.below hb)); (try replace Qq := Qq.frame (Fr.below hb)); (try replace Qr := Qr.frame (Fr.below hb)); (try replace Qz := Qz.frame (Fr.below hb)); clear hb))
  clear F
  go_loopw [9, 10, 11, 12, 14, 15] (fun s p q r z i wr => ∃ k : Nat, k ≤ 5 ∧ i = .int .i64 (k : Int) ∧ On 36 w2.heap.size k wr s ∧ On 36 w2.heap.size k wr p ∧ On 36 w2.heap.size k wr q ∧ On 36 w2.heap.size k wr r ∧ On 36 w2.heap.size k wr z ∧ Below w2.heap.size w2 wr) (fun _ _ _ _ _ i _ => 5 - (intOf i).toNat)
  case atStart => exact ⟨0, by omega, rfl, Qs, Qp, Qq, Qr, Qz, hcur⟩
  case round =>
    clear Qs Qp Qq Qr Qz hcur
    obtain ⟨k, hk, rfl, Qs, Qp, Qq, Qr, Qz, hcur⟩ := hrel
    by_cases h : k < 5
    · have hk2 : As (k ≤ 1048576) := ⟨by omega⟩
      obtain ⟨Cs, ns, cs, rfl⟩ := Qs.form
      obtain ⟨Cp, np, cp, rfl⟩ := Qp.form
      obtain ⟨Cq, nq, cq, rfl⟩ := Qq.form
      obtain ⟨Cr, nr, cr, rfl⟩ := Qr.form
      obtain ⟨Cz, nz, cz, rfl⟩ := Qz.form
      go_wp2_with (first
        | ((with_reducible refine g_dst 50 ?_); go_must (refine ev_append9 50 rfl Tryd.underlying22 infoU rfl (by decide) rfl Qs rfl (.int .u32 9) rfl hk2.out hcur.size ?_); intro vv ww Qn hf hb; replace Qp := Qp.frame hf; replace Qq := Qq.frame hf; replace Qr := Qr.frame hf; replace Qz := Qz.frame hf; replace hcur := hcur.trans hb; clear Qs; have Qs := Qn; clear Qn hf hb)
        | ((with_reducible refine g_dst 53 ?_); go_must (refine ev_append9 53 rfl Tryd.underlying22 infoU rfl (by decide) rfl Qp rfl (.int .u32 9) rfl hk2.out hcur.size ?_); intro vv ww Qn hf hb; replace Qs := Qs.frame hf; replace Qq := Qq.frame hf; replace Qr := Qr.frame hf; replace Qz := Qz.frame hf; replace hcur := hcur.trans hb; clear Qp; have Qp := Qn; clear Qn hf hb)
        | ((with_reducible refine g_dst 56 ?_); go_must (refine ev_append9 56 rfl Tryd.underlying22 infoU rfl (by decide) rfl Qq rfl (.int .u32 9) rfl hk2.out hcur.size ?_); intro vv ww Qn hf hb; replace Qs := Qs.frame hf; replace Qp := Qp.frame hf; replace Qr := Qr.frame hf; replace Qz := Qz.frame hf; replace hcur := hcur.trans hb; clear Qq; have Qq := Qn; clear Qn hf hb)
        | ((with_reducible refine g_dst 59 ?_); go_must (refine ev_append9 59 rfl Tryd.underlying22 infoU rfl (by decide) rfl Qr rfl (.int .u32 9) rfl hk2.out hcur.size ?_); intro vv ww Qn hf hb; replace Qs := Qs.frame hf; replace Qp := Qp.frame hf; replace Qq := Qq.frame hf; replace Qz := Qz.frame hf; replace hcur := hcur.trans hb; clear Qr; have Qr := Qn; clear Qn hf hb)
        | ((with_reducible refine g_dst 62 ?_); go_must (refine ev_append9 62 rfl Tryd.underlying22 infoU rfl (by decide) rfl Qz rfl (.int .u32 9) rfl hk2.out hcur.size ?_); intro vv ww Qn hf hb; replace Qs := Qs.frame hf; replace Qp := Qp.frame hf; replace Qq := Qq.frame hf; replace Qr := Qr.frame hf; replace hcur := hcur.trans hb; clear Qz; have Qz := Qn; clear Qn hf hb))
      go_roundw
      case rel => exact ⟨k + 1, by omega, by go_num, Qs, Qp, Qq, Qr, Qz, hcur⟩
      case measure => simp [intOf]; omega
    · obtain rfl : k = 5 := by omega
      obtain ⟨gs, ns, cs, rfl, hgs, hns, Qs⟩ := Qs.open (by omega)
      obtain ⟨gp, np, cp, rfl, hgp, hnp, Qp⟩ := Qp.open (by omega)
      obtain ⟨gq, nq, cq, rfl, hgq, hnq, Qq⟩ := Qq.open (by omega)
      obtain ⟨gr, nr, cr, rfl, hgr, hnr, Qr⟩ := Qr.open (by omega)
      obtain ⟨gz, nz, cz, rfl, hgz, hnz, Qz⟩ := Qz.open (by omega)
      go_wp2_with (first
        | ((with_reducible refine g_store 68 ?_); go_must (refine ev_storeO rfl (by go_simp) Qs (u := .int .u32 7) (by first | rfl | (go_simp; try rfl)) infoU rfl ?_); intro ww hf ho; replace Qs := Qs.frame hf; replace Qp := Qp.frame hf; replace Qq := Qq.frame hf; replace Qr := Qr.frame hf; replace Qz := Qz.frame hf; replace hcur := hcur.trans (ho.below hgs); clear hf ho)
        | ((with_reducible refine g_store 69 ?_); go_must (refine ev_storeO rfl (by go_simp) Qp (u := .int .u32 7) (by first | rfl | (go_simp; try rfl)) infoU rfl ?_); intro ww hf ho; replace Qs := Qs.frame hf; replace Qp := Qp.frame hf; replace Qq := Qq.frame hf; replace Qr := Qr.frame hf; replace Qz := Qz.frame hf; replace hcur := hcur.trans (ho.below hgp); clear hf ho)
        | ((with_reducible refine g_store 70 ?_); go_must (refine ev_storeO rfl (by go_simp) Qq (u := .int .u32 7) (by first | rfl | (go_simp; try rfl)) infoU rfl ?_); intro ww hf ho; replace Qs := Qs.frame hf; replace Qp := Qp.frame hf; replace Qq := Qq.frame hf; replace Qr := Qr.frame hf; replace Qz := Qz.frame hf; replace hcur := hcur.trans (ho.below hgq); clear hf ho)
        | ((with_reducible refine g_store 71 ?_); go_must (refine ev_storeO rfl (by go_simp) Qr (u := .int .u32 7) (by first | rfl | (go_simp; try rfl)) infoU rfl ?_); intro ww hf ho; replace Qs := Qs.frame hf; replace Qp := Qp.frame hf; replace Qq := Qq.frame hf; replace Qr := Qr.frame hf; replace Qz := Qz.frame hf; replace hcur := hcur.trans (ho.below hgr); clear hf ho)
        | ((with_reducible refine g_store 72 ?_); go_must (refine ev_storeO rfl (by go_simp) Qz (u := .int .u32 7) (by first | rfl | (go_simp; try rfl)) infoU rfl ?_); intro ww hf ho; replace Qs := Qs.frame hf; replace Qp := Qp.frame hf; replace Qq := Qq.frame hf; replace Qr := Qr.frame hf; replace Qz := Qz.frame hf; replace hcur := hcur.trans (ho.below hgz); clear hf ho)
        | (go_at_call 35; (with_reducible refine (HB1.out _ hcur).mono ?_); rintro e wn ⟨vn, rfl, rfl, hb⟩; replace hcur := bthen hcur hb)
        | (go_at_call 35; (with_reducible refine (HB2.out _ hcur).mono ?_); rintro e wn ⟨vn, rfl, rfl, hb⟩; replace hcur := bthen hcur hb)
        | (go_at_call 18; (with_reducible refine (awake01_any _ (HT.out.below (bthen hb0.out hcur))).mono ?_); rintro e wn ⟨vn, rfl, rfl, hb⟩; replace hcur := bthen hcur hb))
      go_ret
      exact ⟨_, rfl, rfl, bthen hb0.out hcur⟩
end Go.Proofs.YtbdcjlikjpdhfaaDoor
