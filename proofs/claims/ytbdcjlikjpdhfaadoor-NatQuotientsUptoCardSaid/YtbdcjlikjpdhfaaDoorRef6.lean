/- tandemref01.Div: quotient and rest, digit by digit. -/
import Derived.Test.YtbdcjlikjpdhfaaDoorRef5
import Derived.Test.YtbdcjlikjpdhfaaDoorNat5
import Derived.Test.YtbdcjlikjpdhfaaDoorKeep
namespace Go.Proofs.YtbdcjlikjpdhfaaDoor
open Go.RowKit Go.Proofs.YtbdcjlikjpdhfaaDoorL Go.Proofs.YtbdcjlikjpdhfaaDoorM
set_option linter.unusedVariables false
set_option linter.unusedSimpArgs false
set_option maxHeartbeats 1000000 in
theorem rDiv0_any (l m : List Nat) (A A2 : Option Addr) (c c2 : Nat) (w : World) (h : Sl.Good ⟨A, c, l⟩ w) (h2 : Sl.Good ⟨A2, c2, m⟩ w) (h0 : valB 4294967296 m = 0) :
    Calls Tryd.prog 33 #[.slice A l.length c, .slice A2 m.length c2] w (Gives w fun v w' => v = .tuple #[.slice none 0 0, .slice none 0 0, .bool false]) := by
  have H1 := As.mk (half_any l _ rfl A c w h.rd h.lt h.cap (Nat.le_trans h.max (by omega)))
  have H2 := As.mk (fun w1 (hb : Below w.heap.size w w1) => half_any m _ rfl A2 c2 w1 (h2.rd.below hb) h2.lt h2.cap (Nat.le_trans h2.max (by omega)))
  rw [h0, digB_zero] at H2
  clear h0
  go_enter Tryd.func33, Tryd.ntmps33
  go_wp2_with (first
    | (go_at_call 40; (with_reducible refine H1.out.mono ?_); rintro e w1 ⟨v1, rfl, ho1, hb1⟩; obtain ⟨A1, k1, rfl, h11, h12⟩ := ho1.form)
    | (go_at_call 40; (with_reducible refine (H2.out _ hb1).mono ?_); rintro e w2 ⟨v2, rfl, ho2, hb2⟩; obtain ⟨A3, k3, rfl, h31, h32⟩ := ho2.form; have hb := bthen hb1 hb2))
  go_ret3
  exact ⟨_, rfl, rfl, hb⟩
theorem mul_len (U k n : Nat) (hU : (digB 65536 U).length ≤ n) (hk : k ≤ 65536) : (digB 65536 (U * k)).length ≤ n + 2 := by
  refine digB_len_lt 65536 (by omega) _ _ ?_
  have h1 : U < 65536 ^ n := Nat.lt_of_lt_of_le (lt_pow_len 65536 (by omega) U) (Nat.pow_le_pow_right (by omega) hU)
  rw [Nat.pow_add]
  exact Nat.mul_lt_mul_of_lt_of_le h1 (Nat.le_trans hk (by decide)) (by decide)
theorem own_lt6 {α : Type} {enc : α → List Value} {sz : Nat} {e : TypeId} {base n c : Nat} {w : World} {A : Option Addr} {l : List α} (f : Ow enc sz e base w (.slice A n c) l) : ∀ b ∈ addrBlock A, b < w.heap.size := by
  intro b hb
  cases A with
  | none => cases hb
  | some a =>
    simp only [addrBlock, List.mem_singleton] at hb
    subst hb
    exact (f.own.lt a.block rfl).2
theorem rd_only6 {α : Type} {enc : α → List Value} {sz g : Nat} {w w1 : World} {A : Option Addr} {l : List α} (f : Rd enc sz w A l) (h : Only g w w1) (hne : ∀ b ∈ addrBlock A, b ≠ g) : Rd enc sz w1 A l := Rd.keep f (fun _ b hb => h.block b (hne b hb))
theorem valI_lit (x : Nat) : ([x].map valI) = [valI x] := rfl
set_option maxRecDepth 8000 in
set_option maxHeartbeats 4000000 in
theorem rDiv_any (l m : List Nat) (A A2 : Option Addr) (c c2 : Nat) (w : World) (h : Sl.Good ⟨A, c, l⟩ w) (h2 : Sl.Good ⟨A2, c2, m⟩ w) (h0 : 0 < valB 4294967296 m) :
    Calls Tryd.prog 33 #[.slice A l.length c, .slice A2 m.length c2] w (Gives w fun v w' => ∃ q r, v = .tuple #[q, r, .bool true] ∧ Ow encU 1 36 w.heap.size w' q (digB 4294967296 (valB 4294967296 l / valB 4294967296 m)) ∧ Ow encU 1 36 w.heap.size w' r (digB 4294967296 (valB 4294967296 l % valB 4294967296 m))) := by
  obtain ⟨V, hV⟩ : ∃ V, V = valB 4294967296 l := ⟨_, rfl⟩
  obtain ⟨U, hU⟩ : ∃ U, U = valB 4294967296 m := ⟨_, rfl⟩
  have q1 := half_len3 l h.lt h.max
  have q2 := half_len3 m h2.lt h2.max
  have H1 := As.mk (half_any l _ rfl A c w h.rd h.lt h.cap (Nat.le_trans h.max (by omega)))
  have H2 := As.mk (fun w1 (hb : Below w.heap.size w w1) => half_any m _ rfl A2 c2 w1 (h2.rd.below hb) h2.lt h2.cap (Nat.le_trans h2.max (by omega)))
  rw [← hU] at h0
  rw [← hV] at H1 q1 ⊢
  rw [← hU] at H2 q2 ⊢
  obtain ⟨L, hL⟩ : ∃ L, L = digB 65536 V := ⟨_, rfl⟩
  obtain ⟨M, hM⟩ : ∃ M, M = digB 65536 U := ⟨_, rfl⟩
  rw [← hL] at H1 q1
  rw [← hM] at H2 q2
  have HV : As (valB 65536 L = V) := ⟨by rw [hL]; exact digB_val _ (by omega) V⟩
  have HU : As (valB 65536 M = U) := ⟨by rw [hM]; exact digB_val _ (by omega) U⟩
  have HL : As (∀ x ∈ L, x < 65536) := ⟨by rw [hL]; exact digB_lt _ (by omega) V⟩
  have HM : As (∀ x ∈ M, x < 65536) := ⟨by rw [hM]; exact digB_lt _ (by omega) U⟩
  have hM0 : ((M.length : Int) == 0) = false := by
    have : M ≠ [] := fun e => by rw [e] at hM; have := (digB_eq_nil 65536 U (by omega)).1 hM.symm; omega
    simp; exact this
  have HUp : As (∀ k, k ≤ 65536 → (digB 65536 (U * k)).length ≤ 549755813890) := ⟨fun k hk => Nat.le_trans (mul_len U k M.length (by rw [hM]; exact Nat.le_refl _) hk) (by omega)⟩
  have HRn : As (∀ R, R < 65536 * U → (digB 65536 R).length ≤ 549755813890) := ⟨fun R hR => by
    refine Nat.le_trans (digB_mono8 65536 (by omega) (Nat.le_of_lt hR)) ?_
    rw [Nat.mul_comm]; exact HUp.out 65536 (Nat.le_refl _)⟩
  clear hV hU hL hM
  go_enter Tryd.func33, Tryd.ntmps33
  go_wp2_with (first
    | (go_at_call 40; (with_reducible refine H1.out.mono ?_); rintro e w1 ⟨v1, rfl, ho1, hb1⟩; obtain ⟨A1, k1, rfl, h11, h12⟩ := ho1.form)
    | (go_at_call 40; (with_reducible refine (H2.out _ hb1).mono ?_); rintro e w2 ⟨v2, rfl, ho2, hb2⟩; obtain ⟨A3, k3, rfl, h31, h32⟩ := ho2.form; have hb := bthen hb1 hb2; have hrx := (ho1.below hb2).rd lenI; have hry := ho2.rd lenI)
    | ((with_reducible refine g_dst 24 ?_); go_must (refine ev_make 24 rfl Tryd.underlying47 infoI rfl (n := L.length) rfl rfl (by omega) (by omega) ?_); intro g w3 hb3 B3 hg; have HnA1 : As (∀ b ∈ addrBlock A1, b ≠ g) := ⟨fun b hb => Nat.ne_of_lt (Nat.lt_of_lt_of_le (own_lt6 (ho1.below hb2) b hb) hg)⟩; have HnA3 : As (∀ b ∈ addrBlock A3, b ≠ g) := ⟨fun b hb => Nat.ne_of_lt (Nat.lt_of_lt_of_le (own_lt6 ho2 b hb) hg)⟩; replace hrx := hrx.below hb3; replace hry := hry.below hb3; replace hg := Nat.le_trans hb.size hg; replace hb := bthen hb hb3))
  clear hM0 ho1 ho2 hb1 hb2 hb3
  go_loopw [11, 10, 12, 13, 14] (fun v u _ _ _ wr => ∃ (k r nr cr : Nat) (qs : List Nat) (Ar : Option Addr), k ≤ L.length ∧ r < U ∧ v = .int .i64 ((k : Int) - 1) ∧ u = .slice Ar nr cr ∧ As (r = valB 65536 (L.drop k) % U) ∧ As (qs = qL 65536 U (L.drop k)) ∧ Below w.heap.size w wr ∧ Ow encI 1 3 w.heap.size wr (.slice Ar nr cr) (digB 65536 r) ∧ Rd encI 1 wr A1 L ∧ Rd encI 1 wr A3 M ∧ Blk wr g ((List.replicate k 0 ++ qs).map valI) 3) (fun v _ _ _ _ _ => (intOf v + 1).toNat)
  case atStart => exact ⟨L.length, 0, 0, 0, [], none, Nat.le_refl _, h0, by go_num, rfl, ⟨by rw [List.drop_length]; simp [valB]⟩, ⟨by rw [List.drop_length]; rfl⟩, hb, by rw [digB_zero]; exact Ow.nil _ _ _ _ _, hrx, hry, by simpa [valI] using B3⟩
  case round =>
    clear hb hrx hry B3
    obtain ⟨k, r, nr, cr, qs, Ar, hk, hrU, rfl, rfl, hR, hQ, hb, hor, hrx, hry, B⟩ := hrel
    have Hnr := As.mk hor.len_eq
    obtain ⟨Ar', cr', her, hrc, _⟩ := hor.form
    have hrc2 : (digB 65536 r).length ≤ cr := by simp only [Value.slice.injEq] at her; rw [her.2.2]; exact hrc
    clear her hrc
    cases k with
    | zero =>
      rw [List.replicate_zero, List.nil_append] at B
      have hql : qs.length = L.length := by rw [hQ.out, qL_len]; simp
      have hqd : ∀ x ∈ qs, x < 65536 := by rw [hQ.out]; exact qL_lt 65536 U h0 _ (fun x hx => HL.out x (by simpa using hx))
      have F1 := As.mk (full_any qs L.length hql (some ⟨g, 0, none⟩) L.length wr (B.rdm encI_one) hqd (Nat.le_refl _) (fun h => (nomatch h)) (by omega))
      rw [show valB 65536 qs = V / U by rw [hQ.out, qL_val 65536 U h0, List.drop_zero, HV.out]] at F1
      have hrn := HRn.out r (by omega)
      have F2 := As.mk (fun w1 (hb : Below wr.heap.size wr w1) => full_any (digB 65536 r) nr Hnr.out.symm Ar cr w1 ((hor.below hb).rd lenI) (digB_lt 65536 (by omega) r) (by rw [Hnr.out]; exact hrc2) hor.none (by rw [Hnr.out]; omega))
      rw [digB_val 65536 (by omega), show r = V % U by rw [hR.out, List.drop_zero, HV.out]] at F2
      clear hql hqd hrn hrc2
      go_wp2_with (first
        | (go_at_call 41; (with_reducible refine F1.out.mono ?_); rintro e w5 ⟨v5, rfl, ho5, hb5⟩)
        | (go_at_call 41; (with_reducible refine (F2.out _ hb5).mono ?_); rintro e w6 ⟨v6, rfl, ho6, hb6⟩; replace ho5 := ho5.below hb6))
      go_ret3
      exact ⟨_, rfl, ⟨_, _, rfl, ho5.lower hb.size, ho6.lower (Nat.le_trans hb.size hb5.size)⟩, bthen (bthen hb hb5) hb6⟩
    | succ i =>
      have hgw := B.lt
      obtain ⟨b, off, rfl⟩ := hrx.get (ne_nil_of_lt (i := i) (by omega))
      have hcell := Rd.i hrx i (by omega)
      obtain ⟨x, hx⟩ : ∃ x, x = L[i] := ⟨_, rfl⟩
      have hx2 : x < 65536 := by rw [hx]; exact HL.out _ (List.getElem_mem _)
      rw [← hx] at hcell
      obtain ⟨R, hRe⟩ : ∃ R, R = r * 65536 + x := ⟨_, rfl⟩
      have hRU : R < 65536 * U := by
        have := Nat.mul_le_mul_right 65536 (Nat.succ_le_of_lt hrU)
        rw [Nat.succ_mul] at this
        rw [Nat.mul_comm 65536 U]; omega
      have HR' : As (R % U = valB 65536 (L.drop i) % U) := ⟨by rw [drop_cons_of_lt L i (by omega), rem_cons, ← hR.out, ← hx, hRe]⟩
      have HQ' : As (R / U :: qs = qL 65536 U (L.drop i)) := ⟨by rw [drop_cons_of_lt L i (by omega), qL, ← hR.out, ← hx, hRe, hQ.out]⟩
      obtain ⟨T, hT⟩ : ∃ T, T = [x] ++ digB 65536 r := ⟨_, rfl⟩
      have HTe := As.mk hT
      have hTl : T.length = nr + 1 := by rw [hT, List.length_append, List.length_singleton, ← Hnr.out]; omega
      have HTl := As.mk hTl
      have Htr : As (trimL T = digB 65536 R) := ⟨by
        rw [hT]
        rw [trimL_dig 65536 (by omega) _ (fun y hy => by
          rcases List.mem_append.1 hy with hy | hy
          · simp only [List.mem_singleton] at hy; omega
          · exact digB_lt 65536 (by omega) r y hy)]
        congr 1
        rw [List.singleton_append, valB_cons, digB_val 65536 (by omega), hRe]; omega⟩
      have hrn := HRn.out r (by omega)
      have hRn := HRn.out R hRU
      have Hl1 : As (([x] : List Nat).length + nr ≤ 549755813891) := ⟨by rw [Hnr.out, List.length_singleton]; omega⟩
      have HB1 : As ((([x] : List Nat).length + nr) * 8 ≤ 140737488355328) := ⟨by have := Hl1.out; omega⟩
      have HM1 : As (([x] : List Nat).length + nr ≤ maxLen) := ⟨by have := Hl1.out; simp only [maxLen]; omega⟩
      have Hcr : As ((digB 65536 r).length ≤ cr) := ⟨hrc2⟩
      have Hx := As.mk hx
      have HRe := As.mk hRe
      have hilt : i < L.length := by omega
      have hik : i < k1 := by omega
      clear hx hRe hR hQ hrn hrc2 hT hTl
      go_wp2_with (first
        | ((with_reducible refine g_dst 36 ?_); go_must (refine ev_lit (v := fun g => .slice (some ⟨g, 0, none⟩) 1 1) 36 rfl (cs := [x].map valI) (t := 3) (by go_simp; try rfl) ?_); intro g4 w4 hb4 B4 hg4; have f4 : Ow encI 1 3 wr.heap.size w4 (.slice (some ⟨g4, 0, none⟩) 1 1) [x] := (by have := B4.ow (base := wr.heap.size) encI_one hg4 (by simp [maxLen]) 1 (Nat.le_refl _); simpa using this))
        | ((with_reducible refine g_dst 38 ?_); go_must (refine ev_append 38 rfl Tryd.underlying47 infoI rfl (by decide) rfl f4 rfl Hnr.out.symm ((hor.below hb4).rd lenI) lenI oneI hor.none HB1.out HM1.out hb4.size ?_); intro v5 w5 ho5 hg5; rw [← HTe.out] at ho5; have hb5 := f4.grown hb4 hg5 (Nat.le_refl _) hb4.size; obtain ⟨A5, c5, rfl, h51, h52⟩ := ho5.form)
        | (go_at_call 61; (with_reducible refine (rtrim_any T _ rfl A5 c5 w5 (ho5.rd lenI) h51 ho5.none (by rw [HTl.out]; have := Hl1.out; rw [List.length_singleton] at this; omega)).mono ?_); rintro e w6 ⟨v6, rfl, ho6, hb6⟩; rw [Htr.out] at ho6; obtain ⟨A6, c6, rfl, h61, h62⟩ := ho6.form; replace hb6 := bthen hb5 hb6))
      replace hrx := hrx.below hb6
      replace hry := hry.below hb6
      replace B := B.below hb6
      replace ho6 : Ow encI 1 3 wr.heap.size w6 (.slice A6 (digB 65536 R).length c6) (digB 65536 R) := ho6.lower hb5.size
      obtain ⟨D, hDe⟩ : ∃ D, D = digB 65536 R := ⟨_, rfl⟩
      rw [← hDe] at ho6 h61 hRn
      have HD : As (D = digB 65536 R ∧ (∀ y ∈ D, y < 65536) ∧ valB 65536 D = R) := ⟨hDe, by rw [hDe]; exact digB_lt _ (by omega) R, by rw [hDe]; exact digB_val _ (by omega) R⟩
      simp only [← hDe]
      clear hDe hcell f4 ho5 hor hb4 hb5
      obtain ⟨wo, rfl⟩ : ∃ wo : World, wo = wr := ⟨_, rfl⟩
      go_loopw [12, 13, 14] (fun v u _ wq => ∃ lo hi : Nat, v = .int .i64 (lo : Int) ∧ u = .int .i64 (hi : Int) ∧ lo < hi ∧ hi ≤ 65536 ∧ As (U * lo ≤ R ∧ R < U * hi) ∧ Below w6.heap.size w6 wq) (fun v u _ _ => (intOf u - intOf v).toNat)
      case atStart => exact ⟨0, 65536, rfl, rfl, by omega, by omega, ⟨by omega, by rw [Nat.mul_comm]; exact hRU⟩, Below.refl _ _⟩
      case round =>
        obtain ⟨lo, hi, rfl, rfl, hlh, hh, hlr, hbq⟩ := hrel
        have hryq := hry.below hbq
        have hrdq := (ho6.below hbq).rd lenI
        by_cases hgo : lo + 1 < hi
        · obtain ⟨mid, hmid⟩ : ∃ mid, mid = (lo + hi) / 2 := ⟨_, rfl⟩
          have em : ((lo : Int) + (hi : Int)) / 2 = (mid : Int) := by rw [hmid]; rfl
          have hg1 : (1 : Int) < (hi : Int) - (lo : Int) := by omega
          have hm1 : lo < mid := by omega
          have hm2 : mid < hi := by omega
          have HMu := As.mk (fun (W : World) (gg : Nat) (BB : Blk W gg ([mid].map valI) 3) (hy : Rd encI 1 W A3 M) => rmul_any M [mid] M.length 1 rfl rfl A3 (some ⟨gg, 0, none⟩) k3 1 W hy (BB.rdm encI_one) ⟨HM.out, fun y hy => by simp only [List.mem_singleton] at hy; omega⟩ h31 (Nat.le_refl _) (by omega) (by omega))
          rw [HU.out, show valB 65536 [mid] = mid by simp [valB]] at HMu
          have hlen := HUp.out mid (by omega)
          obtain ⟨E, hE⟩ : ∃ E, E = digB 65536 (U * mid) := ⟨_, rfl⟩
          rw [← hE] at HMu hlen
          have HE : As ((∀ y ∈ E, y < 65536) ∧ valB 65536 E = U * mid) := ⟨by rw [hE]; exact digB_lt _ (by omega) _, by rw [hE]; exact digB_val _ (by omega) _⟩
          clear hmid hE
          have hcv : (cmpN (U * mid) R = -1 ∧ U * mid ≤ R) ∨ (cmpN (U * mid) R = 0 ∧ U * mid ≤ R) ∨ (cmpN (U * mid) R = 1 ∧ R < U * mid) := by
            rcases Nat.lt_trichotomy (U * mid) R with h1 | h1 | h1
            · exact .inl ⟨cmpN_lt h1, by omega⟩
            · exact .inr (.inl ⟨cmpN_eq h1, by omega⟩)
            · exact .inr (.inr ⟨cmpN_gt h1, h1⟩)
          have HC := As.mk (fun (W : World) (AE : Option Addr) (cE : Nat) (oE : Ow encI 1 3 wo.heap.size W (.slice AE E.length cE) E) (hcE : E.length ≤ cE) (hd : Rd encI 1 W A6 D) => rcmp_any E D _ _ rfl rfl AE A6 cE c6 W (oE.rd lenI) hd ⟨HE.out.1, HD.out.2.1⟩ hcE h61 oE.none ho6.none (by omega) (by omega))
          rw [HE.out.2, HD.out.2.2] at HC
          have hsz := Nat.le_trans hb6.size hbq.size
          rcases hcv with ⟨h1, h2⟩ | ⟨h1, h2⟩ | ⟨h1, h2⟩
          all_goals
            rw [h1] at HC
            have H3 := As.mk h2
            clear h1 h2
            go_wp2_with (first
              | ((with_reducible refine g_dst 50 ?_); go_must (refine ev_lit (v := fun g => .slice (some ⟨g, 0, none⟩) 1 1) 50 rfl (cs := [mid].map valI) (t := 3) (by go_simp; try rfl) ?_); intro g7 w7 hb7 B7 hg7; replace hryq := hryq.below hb7; replace hrdq := hrdq.below hb7; replace hbq := bthen hbq hb7; replace hsz := Nat.le_trans hsz hb7.size)
              | (go_at_call 45; (with_reducible refine (HMu.out _ _ B7 hryq).mono ?_); rintro e w8 ⟨v8, rfl, ho8, hb8⟩; obtain ⟨A8, c8, rfl, h81, h82⟩ := ho8.form; replace ho8 := ho8.lower hsz; replace hrdq := hrdq.below hb8; replace hbq := bthen hbq hb8)
              | (go_at_call 56; (with_reducible refine (HC.out _ A8 c8 ho8 h81 hrdq).mono ?_); rintro e w9 ⟨v9, rfl, rfl, hb9⟩; replace hbq := bthen hbq hb9))
            go_roundw
            case rel => first
              | exact ⟨mid, hi, rfl, rfl, hm2, hh, ⟨H3.out, hlr.out.2⟩, hbq⟩
              | exact ⟨lo, mid, rfl, rfl, hm1, by omega, ⟨hlr.out.1, H3.out⟩, hbq⟩
            case measure => simp [intOf]; omega
        · obtain rfl : hi = lo + 1 := by omega
          have hg1 : ¬ (1 : Int) < ((lo + 1 : Nat) : Int) - (lo : Int) := by omega
          have hdiv : R / U = lo := by
            have h1 := hlr.out.1
            have h2 := hlr.out.2
            rw [Nat.mul_comm] at h1 h2
            exact Nat.div_eq_of_lt_le h1 h2
          have HMu := As.mk (fun (W : World) (gg : Nat) (BB : Blk W gg ([lo].map valI) 3) (hy : Rd encI 1 W A3 M) => rmul_any M [lo] M.length 1 rfl rfl A3 (some ⟨gg, 0, none⟩) k3 1 W hy (BB.rdm encI_one) ⟨HM.out, fun y hy => by simp only [List.mem_singleton] at hy; omega⟩ h31 (Nat.le_refl _) (by omega) (by omega))
          rw [HU.out, show valB 65536 [lo] = lo by simp [valB]] at HMu
          have hlen := HUp.out lo (by omega)
          obtain ⟨E, hE⟩ : ∃ E, E = digB 65536 (U * lo) := ⟨_, rfl⟩
          have hED : E.length ≤ D.length := by rw [hE, HD.out.1]; exact digB_mono8 65536 (by omega) hlr.out.1
          rw [← hE] at HMu hlen
          have HE : As ((∀ y ∈ E, y < 65536) ∧ valB 65536 E = U * lo) := ⟨by rw [hE]; exact digB_lt _ (by omega) _, by rw [hE]; exact digB_val _ (by omega) _⟩
          have hmod : R - U * lo = R % U := by have := Nat.div_add_mod R U; rw [hdiv] at this; omega
          have HS := As.mk (fun (W : World) (AE : Option Addr) (cE : Nat) (oE : Ow encI 1 3 wo.heap.size W (.slice AE E.length cE) E) (hcE : E.length ≤ cE) (hd : Rd encI 1 W A6 D) => rsub_any D E _ _ rfl rfl A6 AE c6 cE W hd (oE.rd lenI) ⟨HD.out.2.1, HE.out.1⟩ h61 hcE (by omega) hED (by rw [HE.out.2, HD.out.2.2]; exact hlr.out.1))
          rw [HE.out.2, HD.out.2.2, hmod] at HS
          have HmU := As.mk (Nat.mod_lt R h0)
          rw [hdiv] at HQ'
          obtain ⟨R2, hR2⟩ : ∃ R2, R2 = R % U := ⟨_, rfl⟩
          rw [← hR2] at HS HmU HR'
          have Hlen := As.mk (show i < (List.replicate (i + 1) 0 ++ qs).length by simp only [List.length_append, List.length_replicate]; omega)
          have hsz := Nat.le_trans hb6.size hbq.size
          have B9 := B.below hbq
          have hb0 := bthen (bthen hb hb6) hbq
          have hrxq := hrx.below hbq
          have hbw6 : Below w.heap.size w w6 := bthen hb hb6
          clear hdiv hE hmod hR2
          go_wp2_with (first
            | ((with_reducible refine g_store 60 ?_); go_must (refine ev_set rfl (by go_simp) B9 (u := lo) (by go_simp; try rfl) infoI Hlen.out (by rfl) ?_); intro w10 ho10 B10; rw [fill_down] at B10; replace hsz : wo.heap.size ≤ w10.heap.size := (by rw [ho10.size]; exact hsz); replace hryq := rd_only6 hryq ho10 HnA3.out; replace hrdq := rd_only6 hrdq ho10 (fun b hb => Nat.ne_of_gt (Nat.lt_of_lt_of_le hgw (own_block_ge ho6 b hb))); replace hrxq := rd_only6 hrxq ho10 HnA1.out; replace hb0 := hb0.trans (ho10.below hg))
            | ((with_reducible refine g_dst 64 ?_); go_must (refine ev_lit (v := fun g => .slice (some ⟨g, 0, none⟩) 1 1) 64 rfl (cs := [lo].map valI) (t := 3) (by go_simp; try rfl) ?_); intro g7 w11 hb7 B7 hg7; replace hryq := hryq.below hb7; replace hrdq := hrdq.below hb7; replace hrxq := hrxq.below hb7; replace B10 := B10.below hb7; replace hsz := Nat.le_trans hsz hb7.size; replace hb0 := bthen hb0 hb7)
            | (go_at_call 45; (with_reducible refine (HMu.out _ _ B7 hryq).mono ?_); rintro e w12 ⟨v8, rfl, ho8, hb8⟩; obtain ⟨A8, c8, rfl, h81, h82⟩ := ho8.form; replace ho8 := ho8.lower hsz; replace hrdq := hrdq.below hb8; replace hryq := hryq.below hb8; replace hrxq := hrxq.below hb8; replace B10 := B10.below hb8; replace hb0 := bthen hb0 hb8)
            | (go_at_call 55; (with_reducible refine (HS.out _ A8 c8 ho8 h81 hrdq).mono ?_); rintro e w13 ⟨v9, rfl, ho9, hb9⟩; obtain ⟨A9, c9, rfl, h91, h92⟩ := ho9.form; replace ho9 := ho9.lower hb0.size; replace hryq := hryq.below hb9; replace hrxq := hrxq.below hb9; replace B10 := B10.below hb9; replace hb0 := bthen hb0 hb9))
          refine ⟨⟨i, R2, (digB 65536 R2).length, c9, lo :: qs, A9, by omega, HmU.out, by go_num, rfl, HR', HQ', hb0, ho9, hrxq, hryq, B10⟩, by simp [intOf]⟩
end Go.Proofs.YtbdcjlikjpdhfaaDoor
