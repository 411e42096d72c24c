/- Ref6 Num24 Num25, in one text. -/
import Derived.Test.YtigoofeodbbbhaaDoorRef5
import Derived.Test.YtigoofeodbbbhaaDoorNat5
import Derived.Test.YtigoofeodbbbhaaDoorKeep
import Derived.Test.YtigoofeodbbbhaaDoorNumT
import Derived.Test.YtigoofeodbbbhaaDoorNumR
/- tandemref01.Div: quotient and rest, digit by digit. -/
namespace Go.Proofs.YtigoofeodbbbhaaDoor
open Go.RowKit Go.Proofs.YtigoofeodbbbhaaDoorL Go.Proofs.YtigoofeodbbbhaaDoorM
set_option linter.unusedVariables false
set_option linter.unusedSimpArgs false
set_option maxHeartbeats 1000000 in
theorem rDiv0_any (l m : List Nat) (A A2 : Option Addr) (c c2 : Nat) (w : World) (h : Sl.Good ⟨A, c, l⟩ w) (h2 : Sl.Good ⟨A2, c2, m⟩ w) (h0 : valB 4294967296 m = 0) :
    Calls Tryd.prog 53 #[.slice A l.length c, .slice A2 m.length c2] w (Gives w fun v w' => v = .tuple #[.slice none 0 0, .slice none 0 0, .bool false]) := by
  have H1 := As.mk (half_any l _ rfl A c w h.rd h.lt h.cap (Nat.le_trans h.max (by omega)))
  have H2 := As.mk (fun w1 (hb : Below w.heap.size w w1) => half_any m _ rfl A2 c2 w1 (h2.rd.below hb) h2.lt h2.cap (Nat.le_trans h2.max (by omega)))
  rw [h0, digB_zero] at H2
  clear h0
  go_enter Tryd.func53, Tryd.ntmps53
  go_wp2_with (first
    | (go_at_call 81; (with_reducible refine H1.out.mono ?_); rintro e w1 ⟨v1, rfl, ho1, hb1⟩; obtain ⟨A1, k1, rfl, h11, h12⟩ := ho1.form)
    | (go_at_call 81; (with_reducible refine (H2.out _ hb1).mono ?_); rintro e w2 ⟨v2, rfl, ho2, hb2⟩; obtain ⟨A3, k3, rfl, h31, h32⟩ := ho2.form; have hb := bthen hb1 hb2))
  go_ret3
  exact ⟨_, rfl, rfl, hb⟩
theorem mul_len (U k n : Nat) (hU : (digB 65536 U).length ≤ n) (hk : k ≤ 65536) : (digB 65536 (U * k)).length ≤ n + 2 := by
  refine digB_len_lt 65536 (by omega) _ _ ?_
  have h1 : U < 65536 ^ n := Nat.lt_of_lt_of_le (lt_pow_len 65536 (by omega) U) (Nat.pow_le_pow_right (by omega) hU)
  rw [Nat.pow_add]
  exact Nat.mul_lt_mul_of_lt_of_le h1 (Nat.le_trans hk (by decide)) (by decide)
theorem own_lt6 {α : Type} {enc : α → List Value} {sz : Nat} {e : TypeId} {base n c : Nat} {w : World} {A : Option Addr} {l : List α} (f : Ow enc sz e base w (.slice A n c) l) : ∀ b ∈ addrBlock A, b < w.heap.size := by
  intro b hb
  cases A with
  | none => cases hb
  | some a =>
    simp only [addrBlock, List.mem_singleton] at hb
    subst hb
    exact (f.own.lt a.block rfl).2
theorem rd_only6 {α : Type} {enc : α → List Value} {sz g : Nat} {w w1 : World} {A : Option Addr} {l : List α} (f : Rd enc sz w A l) (h : Only g w w1) (hne : ∀ b ∈ addrBlock A, b ≠ g) : Rd enc sz w1 A l := Rd.keep f (fun _ b hb => h.block b (hne b hb))
theorem valI_lit (x : Nat) : ([x].map valI) = [valI x] := rfl
set_option maxRecDepth 8000 in
set_option maxHeartbeats 4000000 in
theorem rDiv_any (l m : List Nat) (A A2 : Option Addr) (c c2 : Nat) (w : World) (h : Sl.Good ⟨A, c, l⟩ w) (h2 : Sl.Good ⟨A2, c2, m⟩ w) (h0 : 0 < valB 4294967296 m) :
    Calls Tryd.prog 53 #[.slice A l.length c, .slice A2 m.length c2] w (Gives w fun v w' => ∃ q r, v = .tuple #[q, r, .bool true] ∧ Ow encU 1 62 w.heap.size w' q (digB 4294967296 (valB 4294967296 l / valB 4294967296 m)) ∧ Ow encU 1 62 w.heap.size w' r (digB 4294967296 (valB 4294967296 l % valB 4294967296 m))) := by
  obtain ⟨V, hV⟩ : ∃ V, V = valB 4294967296 l := ⟨_, rfl⟩
  obtain ⟨U, hU⟩ : ∃ U, U = valB 4294967296 m := ⟨_, rfl⟩
  have q1 := half_len3 l h.lt h.max
  have q2 := half_len3 m h2.lt h2.max
  have H1 := As.mk (half_any l _ rfl A c w h.rd h.lt h.cap (Nat.le_trans h.max (by omega)))
  have H2 := As.mk (fun w1 (hb : Below w.heap.size w w1) => half_any m _ rfl A2 c2 w1 (h2.rd.below hb) h2.lt h2.cap (Nat.le_trans h2.max (by omega)))
  rw [← hU] at h0
  rw [← hV] at H1 q1 ⊢
  rw [← hU] at H2 q2 ⊢
  obtain ⟨L, hL⟩ : ∃ L, L = digB 65536 V := ⟨_, rfl⟩
  obtain ⟨M, hM⟩ : ∃ M, M = digB 65536 U := ⟨_, rfl⟩
  rw [← hL] at H1 q1
  rw [← hM] at H2 q2
  have HV : As (valB 65536 L = V) := ⟨by rw [hL]; exact digB_val _ (by omega) V⟩
  have HU : As (valB 65536 M = U) := ⟨by rw [hM]; exact digB_val _ (by omega) U⟩
  have HL : As (∀ x ∈ L, x < 65536) := ⟨by rw [hL]; exact digB_lt _ (by omega) V⟩
  have HM : As (∀ x ∈ M, x < 65536) := ⟨by rw [hM]; exact digB_lt _ (by omega) U⟩
  have hM0 : ((M.length : Int) == 0) = false := by
    have : M ≠ [] := fun e => by rw [e] at hM; have := (digB_eq_nil 65536 U (by omega)).1 hM.symm; omega
    simp; exact this
  have HUp : As (∀ k, k ≤ 65536 → (digB 65536 (U * k)).length ≤ 549755813890) := ⟨fun k hk => Nat.le_trans (mul_len U k M.length (by rw [hM]; exact Nat.le_refl _) hk) (by omega)⟩
  have HRn : As (∀ R, R < 65536 * U → (digB 65536 R).length ≤ 549755813890) := ⟨fun R hR => by
    refine Nat.le_trans (digB_mono8 65536 (by omega) (Nat.le_of_lt hR)) ?_
    rw [Nat.mul_comm]; exact HUp.out 65536 (Nat.le_refl _)⟩
  clear hV hU hL hM
  go_enter Tryd.func53, Tryd.ntmps53
  go_wp2_with (first
    | (go_at_call 81; (with_reducible refine H1.out.mono ?_); rintro e w1 ⟨v1, rfl, ho1, hb1⟩; obtain ⟨A1, k1, rfl, h11, h12⟩ := ho1.form)
    | (go_at_call 81; (with_reducible refine (H2.out _ hb1).mono ?_); rintro e w2 ⟨v2, rfl, ho2, hb2⟩; obtain ⟨A3, k3, rfl, h31, h32⟩ := ho2.form; have hb := bthen hb1 hb2; have hrx := (ho1.below hb2).rd lenI; have hry := ho2.rd lenI)
    | ((with_reducible refine g_dst 24 ?_); go_must (refine ev_make 24 rfl Tryd.underlying80 infoI rfl (n := L.length) rfl rfl (by omega) (by omega) ?_); intro g w3 hb3 B3 hg; have HnA1 : As (∀ b ∈ addrBlock A1, b ≠ g) := ⟨fun b hb => Nat.ne_of_lt (Nat.lt_of_lt_of_le (own_lt6 (ho1.below hb2) b hb) hg)⟩; have HnA3 : As (∀ b ∈ addrBlock A3, b ≠ g) := ⟨fun b hb => Nat.ne_of_lt (Nat.lt_of_lt_of_le (own_lt6 ho2 b hb) hg)⟩; replace hrx := hrx.below hb3; replace hry := hry.below hb3; replace hg := Nat.le_trans hb.size hg; replace hb := bthen hb hb3))
  clear hM0 ho1 ho2 hb1 hb2 hb3
  go_loopw [11, 10, 12, 13, 14] (fun v u _ _ _ wr => ∃ (k r nr cr : Nat) (qs : List Nat) (Ar : Option Addr), k ≤ L.length ∧ r < U ∧ v = .int .i64 ((k : Int) - 1) ∧ u = .slice Ar nr cr ∧ As (r = valB 65536 (L.drop k) % U) ∧ As (qs = qL 65536 U (L.drop k)) ∧ Below w.heap.size w wr ∧ Ow encI 1 3 w.heap.size wr (.slice Ar nr cr) (digB 65536 r) ∧ Rd encI 1 wr A1 L ∧ Rd encI 1 wr A3 M ∧ Blk wr g ((List.replicate k 0 ++ qs).map valI) 3) (fun v _ _ _ _ _ => (intOf v + 1).toNat)
  case atStart => exact ⟨L.length, 0, 0, 0, [], none, Nat.le_refl _, h0, by go_num, rfl, ⟨by rw [List.drop_length]; simp [valB]⟩, ⟨by rw [List.drop_length]; rfl⟩, hb, by rw [digB_zero]; exact Ow.nil _ _ _ _ _, hrx, hry, by simpa [valI] using B3⟩
  case round =>
    clear hb hrx hry B3
    obtain ⟨k, r, nr, cr, qs, Ar, hk, hrU, rfl, rfl, hR, hQ, hb, hor, hrx, hry, B⟩ := hrel
    have Hnr := As.mk hor.len_eq
    obtain ⟨Ar', cr', her, hrc, _⟩ := hor.form
    have hrc2 : (digB 65536 r).length ≤ cr := by simp only [Value.slice.injEq] at her; rw [her.2.2]; exact hrc
    clear her hrc
    cases k with
    | zero =>
      rw [List.replicate_zero, List.nil_append] at B
      have hql : qs.length = L.length := by rw [hQ.out, qL_len]; simp
      have hqd : ∀ x ∈ qs, x < 65536 := by rw [hQ.out]; exact qL_lt 65536 U h0 _ (fun x hx => HL.out x (by simpa using hx))
      have F1 := As.mk (full_any qs L.length hql (some ⟨g, 0, none⟩) L.length wr (B.rdm encI_one) hqd (Nat.le_refl _) (fun h => (nomatch h)) (by omega))
      rw [show valB 65536 qs = V / U by rw [hQ.out, qL_val 65536 U h0, List.drop_zero, HV.out]] at F1
      have hrn := HRn.out r (by omega)
      have F2 := As.mk (fun w1 (hb : Below wr.heap.size wr w1) => full_any (digB 65536 r) nr Hnr.out.symm Ar cr w1 ((hor.below hb).rd lenI) (digB_lt 65536 (by omega) r) (by rw [Hnr.out]; exact hrc2) hor.none (by rw [Hnr.out]; omega))
      rw [digB_val 65536 (by omega), show r = V % U by rw [hR.out, List.drop_zero, HV.out]] at F2
      clear hql hqd hrn hrc2
      go_wp2_with (first
        | (go_at_call 86; (with_reducible refine F1.out.mono ?_); rintro e w5 ⟨v5, rfl, ho5, hb5⟩)
        | (go_at_call 86; (with_reducible refine (F2.out _ hb5).mono ?_); rintro e w6 ⟨v6, rfl, ho6, hb6⟩; replace ho5 := ho5.below hb6))
      go_ret3
      exact ⟨_, rfl, ⟨_, _, rfl, ho5.lower hb.size, ho6.lower (Nat.le_trans hb.size hb5.size)⟩, bthen (bthen hb hb5) hb6⟩
    | succ i =>
      have hgw := B.lt
      obtain ⟨b, off, rfl⟩ := hrx.get (ne_nil_of_lt (i := i) (by omega))
      have hcell := Rd.i hrx i (by omega)
      obtain ⟨x, hx⟩ : ∃ x, x = L[i] := ⟨_, rfl⟩
      have hx2 : x < 65536 := by rw [hx]; exact HL.out _ (List.getElem_mem _)
      rw [← hx] at hcell
      obtain ⟨R, hRe⟩ : ∃ R, R = r * 65536 + x := ⟨_, rfl⟩
      have hRU : R < 65536 * U := by
        have := Nat.mul_le_mul_right 65536 (Nat.succ_le_of_lt hrU)
        rw [Nat.succ_mul] at this
        rw [Nat.mul_comm 65536 U]; omega
      have HR' : As (R % U = valB 65536 (L.drop i) % U) := ⟨by rw [drop_cons_of_lt L i (by omega), rem_cons, ← hR.out, ← hx, hRe]⟩
      have HQ' : As (R / U :: qs = qL 65536 U (L.drop i)) := ⟨by rw [drop_cons_of_lt L i (by omega), qL, ← hR.out, ← hx, hRe, hQ.out]⟩
      obtain ⟨T, hT⟩ : ∃ T, T = [x] ++ digB 65536 r := ⟨_, rfl⟩
      have HTe := As.mk hT
      have hTl : T.length = nr + 1 := by rw [hT, List.length_append, List.length_singleton, ← Hnr.out]; omega
      have HTl := As.mk hTl
      have Htr : As (trimL T = digB 65536 R) := ⟨by
        rw [hT]
        rw [trimL_dig 65536 (by omega) _ (fun y hy => by
          rcases List.mem_append.1 hy with hy | hy
          · simp only [List.mem_singleton] at hy; omega
          · exact digB_lt 65536 (by omega) r y hy)]
        congr 1
        rw [List.singleton_append, valB_cons, digB_val 65536 (by omega), hRe]; omega⟩
      have hrn := HRn.out r (by omega)
      have hRn := HRn.out R hRU
      have Hl1 : As (([x] : List Nat).length + nr ≤ 549755813891) := ⟨by rw [Hnr.out, List.length_singleton]; omega⟩
      have HB1 : As ((([x] : List Nat).length + nr) * 8 ≤ 140737488355328) := ⟨by have := Hl1.out; omega⟩
      have HM1 : As (([x] : List Nat).length + nr ≤ maxLen) := ⟨by have := Hl1.out; simp only [maxLen]; omega⟩
      have Hcr : As ((digB 65536 r).length ≤ cr) := ⟨hrc2⟩
      have Hx := As.mk hx
      have HRe := As.mk hRe
      have hilt : i < L.length := by omega
      have hik : i < k1 := by omega
      clear hx hRe hR hQ hrn hrc2 hT hTl
      go_wp2_with (first
        | ((with_reducible refine g_dst 36 ?_); go_must (refine ev_lit (v := fun g => .slice (some ⟨g, 0, none⟩) 1 1) 36 rfl (cs := [x].map valI) (t := 3) (by go_simp; try rfl) ?_); intro g4 w4 hb4 B4 hg4; have f4 : Ow encI 1 3 wr.heap.size w4 (.slice (some ⟨g4, 0, none⟩) 1 1) [x] := (by have := B4.ow (base := wr.heap.size) encI_one hg4 (by simp [maxLen]) 1 (Nat.le_refl _); simpa using this))
        | ((with_reducible refine g_dst 38 ?_); go_must (refine ev_append 38 rfl Tryd.underlying80 infoI rfl (by decide) rfl f4 rfl Hnr.out.symm ((hor.below hb4).rd lenI) lenI oneI hor.none HB1.out HM1.out hb4.size ?_); intro v5 w5 ho5 hg5; rw [← HTe.out] at ho5; have hb5 := f4.grown hb4 hg5 (Nat.le_refl _) hb4.size; obtain ⟨A5, c5, rfl, h51, h52⟩ := ho5.form)
        | (go_at_call 82; (with_reducible refine (rtrim_any T _ rfl A5 c5 w5 (ho5.rd lenI) h51 ho5.none (by rw [HTl.out]; have := Hl1.out; rw [List.length_singleton] at this; omega)).mono ?_); rintro e w6 ⟨v6, rfl, ho6, hb6⟩; rw [Htr.out] at ho6; obtain ⟨A6, c6, rfl, h61, h62⟩ := ho6.form; replace hb6 := bthen hb5 hb6))
      replace hrx := hrx.below hb6
      replace hry := hry.below hb6
      replace B := B.below hb6
      replace ho6 : Ow encI 1 3 wr.heap.size w6 (.slice A6 (digB 65536 R).length c6) (digB 65536 R) := ho6.lower hb5.size
      obtain ⟨D, hDe⟩ : ∃ D, D = digB 65536 R := ⟨_, rfl⟩
      rw [← hDe] at ho6 h61 hRn
      have HD : As (D = digB 65536 R ∧ (∀ y ∈ D, y < 65536) ∧ valB 65536 D = R) := ⟨hDe, by rw [hDe]; exact digB_lt _ (by omega) R, by rw [hDe]; exact digB_val _ (by omega) R⟩
      simp only [← hDe]
      clear hDe hcell f4 ho5 hor hb4 hb5
      obtain ⟨wo, rfl⟩ : ∃ wo : World, wo = wr := ⟨_, rfl⟩
      go_loopw [12, 13, 14] (fun v u _ wq => ∃ lo hi : Nat, v = .int .i64 (lo : Int) ∧ u = .int .i64 (hi : Int) ∧ lo < hi ∧ hi ≤ 65536 ∧ As (U * lo ≤ R ∧ R < U * hi) ∧ Below w6.heap.size w6 wq) (fun v u _ _ => (intOf u - intOf v).toNat)
      case atStart => exact ⟨0, 65536, rfl, rfl, by omega, by omega, ⟨by omega, by rw [Nat.mul_comm]; exact hRU⟩, Below.refl _ _⟩
      case round =>
        obtain ⟨lo, hi, rfl, rfl, hlh, hh, hlr, hbq⟩ := hrel
        have hryq := hry.below hbq
        have hrdq := (ho6.below hbq).rd lenI
        by_cases hgo : lo + 1 < hi
        · obtain ⟨mid, hmid⟩ : ∃ mid, mid = (lo + hi) / 2 := ⟨_, rfl⟩
          have em : ((lo : Int) + (hi : Int)) / 2 = (mid : Int) := by rw [hmid]; rfl
          have hg1 : (1 : Int) < (hi : Int) - (lo : Int) := by omega
          have hm1 : lo < mid := by omega
          have hm2 : mid < hi := by omega
          have HMu := As.mk (fun (W : World) (gg : Nat) (BB : Blk W gg ([mid].map valI) 3) (hy : Rd encI 1 W A3 M) => rmul_any M [mid] M.length 1 rfl rfl A3 (some ⟨gg, 0, none⟩) k3 1 W hy (BB.rdm encI_one) ⟨HM.out, fun y hy => by simp only [List.mem_singleton] at hy; omega⟩ h31 (Nat.le_refl _) (by omega) (by omega))
          rw [HU.out, show valB 65536 [mid] = mid by simp [valB]] at HMu
          have hlen := HUp.out mid (by omega)
          obtain ⟨E, hE⟩ : ∃ E, E = digB 65536 (U * mid) := ⟨_, rfl⟩
          rw [← hE] at HMu hlen
          have HE : As ((∀ y ∈ E, y < 65536) ∧ valB 65536 E = U * mid) := ⟨by rw [hE]; exact digB_lt _ (by omega) _, by rw [hE]; exact digB_val _ (by omega) _⟩
          clear hmid hE
          have hcv : (cmpN (U * mid) R = -1 ∧ U * mid ≤ R) ∨ (cmpN (U * mid) R = 0 ∧ U * mid ≤ R) ∨ (cmpN (U * mid) R = 1 ∧ R < U * mid) := by
            rcases Nat.lt_trichotomy (U * mid) R with h1 | h1 | h1
            · exact .inl ⟨cmpN_lt h1, by omega⟩
            · exact .inr (.inl ⟨cmpN_eq h1, by omega⟩)
            · exact .inr (.inr ⟨cmpN_gt h1, h1⟩)
          have HC := As.mk (fun (W : World) (AE : Option Addr) (cE : Nat) (oE : Ow encI 1 3 wo.heap.size W (.slice AE E.length cE) E) (hcE : E.length ≤ cE) (hd : Rd encI 1 W A6 D) => rcmp_any E D _ _ rfl rfl AE A6 cE c6 W (oE.rd lenI) hd ⟨HE.out.1, HD.out.2.1⟩ hcE h61 oE.none ho6.none (by omega) (by omega))
          rw [HE.out.2, HD.out.2.2] at HC
          have hsz := Nat.le_trans hb6.size hbq.size
          rcases hcv with ⟨h1, h2⟩ | ⟨h1, h2⟩ | ⟨h1, h2⟩
          all_goals
            rw [h1] at HC
            have H3 := As.mk h2
            clear h1 h2
            go_wp2_with (first
              | ((with_reducible refine g_dst 50 ?_); go_must (refine ev_lit (v := fun g => .slice (some ⟨g, 0, none⟩) 1 1) 50 rfl (cs := [mid].map valI) (t := 3) (by go_simp; try rfl) ?_); intro g7 w7 hb7 B7 hg7; replace hryq := hryq.below hb7; replace hrdq := hrdq.below hb7; replace hbq := bthen hbq hb7; replace hsz := Nat.le_trans hsz hb7.size)
              | (go_at_call 84; (with_reducible refine (HMu.out _ _ B7 hryq).mono ?_); rintro e w8 ⟨v8, rfl, ho8, hb8⟩; obtain ⟨A8, c8, rfl, h81, h82⟩ := ho8.form; replace ho8 := ho8.lower hsz; replace hrdq := hrdq.below hb8; replace hbq := bthen hbq hb8)
              | (go_at_call 83; (with_reducible refine (HC.out _ A8 c8 ho8 h81 hrdq).mono ?_); rintro e w9 ⟨v9, rfl, rfl, hb9⟩; replace hbq := bthen hbq hb9))
            go_roundw
            case rel => first
              | exact ⟨mid, hi, rfl, rfl, hm2, hh, ⟨H3.out, hlr.out.2⟩, hbq⟩
              | exact ⟨lo, mid, rfl, rfl, hm1, by omega, ⟨hlr.out.1, H3.out⟩, hbq⟩
            case measure => simp [intOf]; omega
        · obtain rfl : hi = lo + 1 := by omega
          have hg1 : ¬ (1 : Int) < ((lo + 1 : Nat) : Int) - (lo : Int) := by omega
          have hdiv : R / U = lo := by
            have h1 := hlr.out.1
            have h2 := hlr.out.2
            rw [Nat.mul_comm] at h1 h2
            exact Nat.div_eq_of_lt_le h1 h2
          have HMu := As.mk (fun (W : World) (gg : Nat) (BB : Blk W gg ([lo].map valI) 3) (hy : Rd encI 1 W A3 M) => rmul_any M [lo] M.length 1 rfl rfl A3 (some ⟨gg, 0, none⟩) k3 1 W hy (BB.rdm encI_one) ⟨HM.out, fun y hy => by simp only [List.mem_singleton] at hy; omega⟩ h31 (Nat.le_refl _) (by omega) (by omega))
          rw [HU.out, show valB 65536 [lo] = lo by simp [valB]] at HMu
          have hlen := HUp.out lo (by omega)
          obtain ⟨E, hE⟩ : ∃ E, E = digB 65536 (U * lo) := ⟨_, rfl⟩
          have hED : E.length ≤ D.length := by rw [hE, HD.out.1]; exact digB_mono8 65536 (by omega) hlr.out.1
          rw [← hE] at HMu hlen
          have HE : As ((∀ y ∈ E, y < 65536) ∧ valB 65536 E = U * lo) := ⟨by rw [hE]; exact digB_lt _ (by omega) _, by rw [hE]; exact digB_val _ (by omega) _⟩
          have hmod : R - U * lo = R % U := by have := Nat.div_add_mod R U; rw [hdiv] at this; omega
          have HS := As.mk (fun (W : World) (AE : Option Addr) (cE : Nat) (oE : Ow encI 1 3 wo.heap.size W (.slice AE E.length cE) E) (hcE : E.length ≤ cE) (hd : Rd encI 1 W A6 D) => rsub_any D E _ _ rfl rfl A6 AE c6 cE W hd (oE.rd lenI) ⟨HD.out.2.1, HE.out.1⟩ h61 hcE (by omega) hED (by rw [HE.out.2, HD.out.2.2]; exact hlr.out.1))
          rw [HE.out.2, HD.out.2.2, hmod] at HS
          have HmU := As.mk (Nat.mod_lt R h0)
          rw [hdiv] at HQ'
          obtain ⟨R2, hR2⟩ : ∃ R2, R2 = R % U := ⟨_, rfl⟩
          rw [← hR2] at HS HmU HR'
          have Hlen := As.mk (show i < (List.replicate (i + 1) 0 ++ qs).length by simp only [List.length_append, List.length_replicate]; omega)
          have hsz := Nat.le_trans hb6.size hbq.size
          have B9 := B.below hbq
          have hb0 := bthen (bthen hb hb6) hbq
          have hrxq := hrx.below hbq
          have hbw6 : Below w.heap.size w w6 := bthen hb hb6
          clear hdiv hE hmod hR2
          go_wp2_with (first
            | ((with_reducible refine g_store 60 ?_); go_must (refine ev_set rfl (by go_simp) B9 (u := lo) (by go_simp; try rfl) infoI Hlen.out (by rfl) ?_); intro w10 ho10 B10; rw [fill_down] at B10; replace hsz : wo.heap.size ≤ w10.heap.size := (by rw [ho10.size]; exact hsz); replace hryq := rd_only6 hryq ho10 HnA3.out; replace hrdq := rd_only6 hrdq ho10 (fun b hb => Nat.ne_of_gt (Nat.lt_of_lt_of_le hgw (own_block_ge ho6 b hb))); replace hrxq := rd_only6 hrxq ho10 HnA1.out; replace hb0 := hb0.trans (ho10.below hg))
            | ((with_reducible refine g_dst 64 ?_); go_must (refine ev_lit (v := fun g => .slice (some ⟨g, 0, none⟩) 1 1) 64 rfl (cs := [lo].map valI) (t := 3) (by go_simp; try rfl) ?_); intro g7 w11 hb7 B7 hg7; replace hryq := hryq.below hb7; replace hrdq := hrdq.below hb7; replace hrxq := hrxq.below hb7; replace B10 := B10.below hb7; replace hsz := Nat.le_trans hsz hb7.size; replace hb0 := bthen hb0 hb7)
            | (go_at_call 84; (with_reducible refine (HMu.out _ _ B7 hryq).mono ?_); rintro e w12 ⟨v8, rfl, ho8, hb8⟩; obtain ⟨A8, c8, rfl, h81, h82⟩ := ho8.form; replace ho8 := ho8.lower hsz; replace hrdq := hrdq.below hb8; replace hryq := hryq.below hb8; replace hrxq := hrxq.below hb8; replace B10 := B10.below hb8; replace hb0 := bthen hb0 hb8)
            | (go_at_call 85; (with_reducible refine (HS.out _ A8 c8 ho8 h81 hrdq).mono ?_); rintro e w13 ⟨v9, rfl, ho9, hb9⟩; obtain ⟨A9, c9, rfl, h91, h92⟩ := ho9.form; replace ho9 := ho9.lower hb0.size; replace hryq := hryq.below hb9; replace hrxq := hrxq.below hb9; replace B10 := B10.below hb9; replace hb0 := bthen hb0 hb9))
          refine ⟨⟨i, R2, (digB 65536 R2).length, c9, lo :: qs, A9, by omega, HmU.out, by go_num, rfl, HR', HQ', hb0, ho9, hrxq, hryq, B10⟩, by simp [intOf]⟩
end Go.Proofs.YtigoofeodbbbhaaDoor
/- tandemref02.Truncate and Floor, told of numbers that are held; by zero too. -/
namespace Go.Proofs.YtigoofeodbbbhaaDoor
open Go.RowKit Go.Proofs.YtigoofeodbbbhaaDoorL Go.Proofs.YtigoofeodbbbhaaDoorM
set_option linter.unusedVariables false
set_option linter.unusedSimpArgs false
section
variable {w : World} {L : List NR} {b b2 : Bool} {A A2 : Option Addr} {n c n2 c2 : Nat} {z z2 q r : Int} {K K2 : Nat} {can can2 ok : Bool}
/-- limbs as an answer: in memory that is new -/
def LimRes (w : World) (N K : Nat) (v : Value) (w' : World) : Prop := ∃ A n c, v = .slice A n c ∧ NR.Ok w' ⟨false, A, n, c, (N : Int), K, true⟩ ∧ (∀ k ∈ addrBlock A, w.heap.size ≤ k ∧ k < w'.heap.size)
theorem LimRes.of {w w' : World} {v : Value} {N K : Nat} (h : Ow encU 1 62 w.heap.size w' v (digB 4294967296 N)) (hs : N < 4294967296 ^ K) (hK : K ≤ 274877906944) : LimRes w N K v w' := by
  obtain ⟨A, c, rfl, h1, h2⟩ := h.form
  have hl : (digB 4294967296 N).length ≤ K := digB_len_lt _ (by omega) K N hs
  refine ⟨A, _, c, rfl, ⟨⟨_, rfl, ⟨h.rd lenU, digB_lt _ (by omega) _, h1, h.none, Nat.le_trans hl hK⟩, ?_, fun _ => ⟨?_, rfl⟩⟩, hl⟩, fun k hk => ⟨own_block_ge h k hk, own_block_lt h k hk⟩⟩
  · simp only [sval]; rw [digB_val _ (by omega)]; rfl
  · simp
theorem rdivF (F : Fs w L) (h : (⟨b, A, n, c, z, K, can⟩ : NR) ∈ L) (h' : (⟨b2, A2, n2, c2, z2, K2, can2⟩ : NR) ∈ L) (hz : z2 ≠ 0) (hK : K ≤ 274877906942) :
    Calls Tryd.prog 53 #[.slice A n c, .slice A2 n2 c2] w (Gives w fun v w' => ∃ qv rv, v = .tuple #[qv, rv, .bool true] ∧ LimRes w (z.natAbs / z2.natAbs) K qv w' ∧ LimRes w (z.natAbs % z2.natAbs) K rv w') := by
  have ho := F.out _ h
  have hs := ho.sm
  obtain ⟨⟨l, h1, h2, h3, h4⟩, h5⟩ := ho
  obtain ⟨⟨m, k1, k2, k3, k4⟩, k5⟩ := F.out _ h'
  simp only at h1 h2 h3 h4 h5 hs k1 k2 k3 k4 k5
  subst h1 k1
  have e : valB 4294967296 l = z.natAbs := by rw [← h3, sval_abs]
  have e2 : valB 4294967296 m = z2.natAbs := by rw [← k3, sval_abs]
  have := rDiv_any l m A A2 c c2 w (sl_good h2) (sl_good k2) (by omega)
  rw [e, e2] at this
  refine this.mono ?_
  rintro e' w' ⟨v, rfl, ⟨qv, rv, rfl, o1, o2⟩, hb⟩
  have hs' : z.natAbs < 4294967296 ^ K := hs
  exact ⟨_, rfl, ⟨_, _, rfl, LimRes.of o1 (Nat.lt_of_le_of_lt (Nat.div_le_self _ _) hs') (by omega), LimRes.of o2 (Nat.lt_of_le_of_lt (Nat.mod_le _ _) hs') (by omega)⟩, hb⟩
theorem rdiv0F (F : Fs w L) (h : (⟨b, A, n, c, z, K, can⟩ : NR) ∈ L) (h' : (⟨b2, A2, n2, c2, z2, K2, can2⟩ : NR) ∈ L) (hz : z2 = 0) :
    Calls Tryd.prog 53 #[.slice A n c, .slice A2 n2 c2] w (Gives w fun v w' => v = .tuple #[.slice none 0 0, .slice none 0 0, .bool false]) := by
  obtain ⟨⟨l, h1, h2, h3, h4⟩, h5⟩ := F.out _ h
  obtain ⟨⟨m, k1, k2, k3, k4⟩, k5⟩ := F.out _ h'
  simp only at h1 h2 h3 h4 h5 k1 k2 k3 k4 k5
  subst h1 k1
  exact rDiv0_any l m A A2 c c2 w (sl_good h2) (sl_good k2) ((sval_zero _ _).1 (k3.trans hz))
set_option maxRecDepth 8000 in
set_option maxHeartbeats 4000000 in
theorem rtrunc0_go (F0 : Fs w [⟨b, A, n, c, z, K, can⟩, ⟨b2, A2, n2, c2, z2, K2, can2⟩]) (h0 : z2 = 0) (hK : K ≤ 274877906942) (hK2 : K2 ≤ 274877906942) :
    Calls Tryd.prog 22 #[.agg #[.bool b, .slice A n c], .agg #[.bool b2, .slice A2 n2 c2]] w (Gives w fun v w' => ∃ qv rv, v = .tuple #[qv, rv, .bool false] ∧ NumRes w 0 K true qv w' ∧ NumRes w 0 K true rv w') := by
  have H0 := As.mk h0
  clear h0
  go_enter Tryd.func22, Tryd.ntmps22
  go_wp2_with (first
    | ((with_reducible refine g_dst 2 ?_); go_must (refine ev_box 2 rfl (cs := [.bool b, .slice A n c]) (by rfl) ?_); intro g2 wn hb2 B2 hg2; have hb := hb2)
    | ((with_reducible refine g_dst 3 ?_); go_must (refine ev_box 3 rfl (cs := [.bool b2, .slice A2 n2 c2]) (by rfl) ?_); intro g3 wn hb3 B3 hgn; have hneb3_2 : g3 ≠ g2 := (fun e => by (have h1 := B2.lt; omega)); have hg3 := Nat.le_trans hb.size hgn; replace B2 := B2.below hb3; replace hb := bthen hb hb3)
    | ((with_reducible refine g_dst 4 ?_); go_must (refine ev_alloc 4 rfl infoNum (cs := [.bool false, .slice none 0 0]) rfl ?_); intro g4 wn hb4 B4 hgn; have hneb4_2 : g4 ≠ g2 := (fun e => by (have h1 := B2.lt; omega)); have hneb4_3 : g4 ≠ g3 := (fun e => by (have h1 := B3.lt; omega)); have hg4 := Nat.le_trans hb.size hgn; replace B2 := B2.below hb4; replace B3 := B3.below hb4; replace hb := bthen hb hb4)
    | ((with_reducible refine g_dst 5 ?_); go_must (refine ev_alloc 5 rfl infoNum (cs := [.bool false, .slice none 0 0]) rfl ?_); intro g5 wn hb5 B5 hgn; have hneb5_2 : g5 ≠ g2 := (fun e => by (have h1 := B2.lt; omega)); have hneb5_3 : g5 ≠ g3 := (fun e => by (have h1 := B3.lt; omega)); have hneb5_4 : g5 ≠ g4 := (fun e => by (have h1 := B4.lt; omega)); have hg5 := Nat.le_trans hb.size hgn; replace B2 := B2.below hb5; replace B3 := B3.below hb5; replace B4 := B4.below hb5; replace hb := bthen hb hb5; have C2 := B2.cells; have C3 := B3.cells)
    | (go_at_call 52; (with_reducible refine (rcanonF (F0.below hb) (show (⟨b, A, n, c, _, _, _⟩ : NR) ∈ _ from (by repeat (first | exact List.mem_cons_self .. | apply List.mem_cons_of_mem))) (by omega)).mono ?_); rintro e wn ⟨vn, rfl, ⟨b6, A6, n6, c6, rfl, o6, f6⟩, hbn⟩; have hne6 : ∀ k ∈ addrBlock A6, k ≠ g2 := (fun k hk e => by (have h1 := (f6 k hk).1; have h2 := B2.lt; omega)); have hne6c : ∀ k ∈ addrBlock A6, k ≠ g3 := (fun k hk e => by (have h1 := (f6 k hk).1; have h2 := B3.lt; omega)); clear f6 C2; replace B2 := B2.below hbn; replace B3 := B3.below hbn; replace B4 := B4.below hbn; replace B5 := B5.below hbn; replace hb := bthen hb hbn; clear hbn)
    | ((with_reducible refine g_store 2 ?_); go_must (refine ev_store rfl rfl B2 (news := [.bool b6, .slice A6 n6 c6]) (by rfl) infoNum (by simp) (by simp [Value.oneCell']) ?_); intro wn hon Bn; simp only [List.take_zero, List.nil_append, List.length_cons, List.length_nil, List.drop_succ_cons, List.drop_zero, List.append_nil, List.cons_append] at Bn; replace B3 := B3.only hon hneb3_2; replace B4 := B4.only hon hneb4_2; replace B5 := B5.only hon hneb5_2; replace B2 := Bn; clear Bn; replace o6 := o6.only hon hne6; have hne63 : ∀ k ∈ addrBlock A6, k ≠ g3 := hne6c; replace hb := hb.trans (hon.below hg2); clear hon; replace C3 := B3.cells)
    | (go_at_call 52; (with_reducible refine (rcanonF (F0.below hb) (show (⟨b2, A2, n2, c2, _, _, _⟩ : NR) ∈ _ from (by repeat (first | exact List.mem_cons_self .. | apply List.mem_cons_of_mem))) (by omega)).mono ?_); rintro e wn ⟨vn, rfl, ⟨b7, A7, n7, c7, rfl, o7, f7⟩, hbn⟩; have hne7 : ∀ k ∈ addrBlock A7, k ≠ g3 := (fun k hk e => by (have h1 := (f7 k hk).1; have h2 := B3.lt; omega)); clear f7 C3; replace B2 := B2.below hbn; replace B3 := B3.below hbn; replace B4 := B4.below hbn; replace B5 := B5.below hbn; replace o6 := o6.below hbn; replace hb := bthen hb hbn; clear hbn)
    | ((with_reducible refine g_store 3 ?_); go_must (refine ev_store rfl rfl B3 (news := [.bool b7, .slice A7 n7 c7]) (by rfl) infoNum (by simp) (by simp [Value.oneCell']) ?_); intro wn hon Bn; simp only [List.take_zero, List.nil_append, List.length_cons, List.length_nil, List.drop_succ_cons, List.drop_zero, List.append_nil, List.cons_append] at Bn; replace B2 := B2.only hon (Ne.symm hneb3_2); replace B4 := B4.only hon hneb4_3; replace B5 := B5.only hon hneb5_3; replace B3 := Bn; clear Bn; replace o7 := o7.only hon hne7; replace o6 := o6.only hon hne63; replace hb := hb.trans (hon.below hg3); clear hon; have C2 := B2.cells; have C3 := B3.cells)
    | (go_at_call 53; (with_reducible refine (rdiv0F (((Fs.nil _).cons o7).cons o6) (by repeat (first | exact List.mem_cons_self .. | apply List.mem_cons_of_mem)) (by repeat (first | exact List.mem_cons_self .. | apply List.mem_cons_of_mem)) H0.out).mono ?_); rintro e wn ⟨vn, rfl, rfl, hbn⟩; clear C2 C3; replace B2 := B2.below hbn; replace B3 := B3.below hbn; replace B4 := B4.below hbn; replace B5 := B5.below hbn; replace hb := bthen hb hbn; clear hbn)
    | ((with_reducible refine g_store 4 ?_); go_must (refine ev_store rfl rfl B4 (news := [.bool false, .slice none 0 0]) (by first | rfl | (go_simp; try rfl)) infoNum (by simp) (by simp [Value.oneCell']) ?_); intro wn hon Bn; simp only [List.take_zero, List.nil_append, List.length_cons, List.length_nil, List.drop_succ_cons, List.drop_zero, List.append_nil, List.cons_append] at Bn; replace B5 := B5.only hon hneb5_4; replace B4 := Bn; clear Bn; replace hb := hb.trans (hon.below hg4); clear hon)
    | ((with_reducible refine g_store 5 ?_); go_must (refine ev_store rfl rfl B5 (news := [.bool false, .slice none 0 0]) (by first | rfl | (go_simp; try rfl)) infoNum (by simp) (by simp [Value.oneCell']) ?_); intro wn hon Bn; simp only [List.take_zero, List.nil_append, List.length_cons, List.length_nil, List.drop_succ_cons, List.drop_zero, List.append_nil, List.cons_append] at Bn; replace B4 := B4.only hon (Ne.symm hneb5_4); replace B5 := Bn; clear Bn; replace hb := hb.trans (hon.below hg5); clear hon))
  refine bodyPost_ret (results_cct rfl _ _ g4 g5 26 26 #[.bool false, .slice none 0 0] #[.bool false, .slice none 0 0] (0, 0) (0, 0) _ rfl rfl B4.h B5.h Tryd.underlying26 rfl (by kernel_rfl) (by kernel_rfl)) rfl ?_
  exact ⟨_, rfl, ⟨_, _, rfl, NumRes.zero' _ _ _, NumRes.zero' _ _ _⟩, hb⟩
set_option maxRecDepth 8000 in
set_option maxHeartbeats 4000000 in
theorem rtrunc1_go (F0 : Fs w [⟨b, A, n, c, z, K, can⟩, ⟨b2, A2, n2, c2, z2, K2, can2⟩]) (h0 : z2 ≠ 0) (hK : K ≤ 274877906942) (hK2 : K2 ≤ 274877906942) :
    Calls Tryd.prog 22 #[.agg #[.bool b, .slice A n c], .agg #[.bool b2, .slice A2 n2 c2]] w (Gives w fun v w' => ∃ qv rv, v = .tuple #[qv, rv, .bool true] ∧ NumRes w (z.tdiv z2) K true qv w' ∧ NumRes w (z.tmod z2) K true rv w') := by
  have H0 := As.mk h0
  clear h0
  go_enter Tryd.func22, Tryd.ntmps22
  go_wp2_with (first
    | ((with_reducible refine g_dst 2 ?_); go_must (refine ev_box 2 rfl (cs := [.bool b, .slice A n c]) (by rfl) ?_); intro g2 wn hb2 B2 hg2; have hb := hb2)
    | ((with_reducible refine g_dst 3 ?_); go_must (refine ev_box 3 rfl (cs := [.bool b2, .slice A2 n2 c2]) (by rfl) ?_); intro g3 wn hb3 B3 hgn; have hneb3_2 : g3 ≠ g2 := (fun e => by (have h1 := B2.lt; omega)); have hg3 := Nat.le_trans hb.size hgn; replace B2 := B2.below hb3; replace hb := bthen hb hb3)
    | ((with_reducible refine g_dst 4 ?_); go_must (refine ev_alloc 4 rfl infoNum (cs := [.bool false, .slice none 0 0]) rfl ?_); intro g4 wn hb4 B4 hgn; have hneb4_2 : g4 ≠ g2 := (fun e => by (have h1 := B2.lt; omega)); have hneb4_3 : g4 ≠ g3 := (fun e => by (have h1 := B3.lt; omega)); have hg4 := Nat.le_trans hb.size hgn; replace B2 := B2.below hb4; replace B3 := B3.below hb4; replace hb := bthen hb hb4)
    | ((with_reducible refine g_dst 5 ?_); go_must (refine ev_alloc 5 rfl infoNum (cs := [.bool false, .slice none 0 0]) rfl ?_); intro g5 wn hb5 B5 hgn; have hneb5_2 : g5 ≠ g2 := (fun e => by (have h1 := B2.lt; omega)); have hneb5_3 : g5 ≠ g3 := (fun e => by (have h1 := B3.lt; omega)); have hneb5_4 : g5 ≠ g4 := (fun e => by (have h1 := B4.lt; omega)); have hg5 := Nat.le_trans hb.size hgn; replace B2 := B2.below hb5; replace B3 := B3.below hb5; replace B4 := B4.below hb5; replace hb := bthen hb hb5; have C2 := B2.cells; have C3 := B3.cells)
    | (go_at_call 52; (with_reducible refine (rcanonF (F0.below hb) (show (⟨b, A, n, c, _, _, _⟩ : NR) ∈ _ from (by repeat (first | exact List.mem_cons_self .. | apply List.mem_cons_of_mem))) (by omega)).mono ?_); rintro e wn ⟨vn, rfl, ⟨b6, A6, n6, c6, rfl, o6, f6⟩, hbn⟩; have hne6 : ∀ k ∈ addrBlock A6, k ≠ g2 := (fun k hk e => by (have h1 := (f6 k hk).1; have h2 := B2.lt; omega)); have hne6c : ∀ k ∈ addrBlock A6, k ≠ g3 := (fun k hk e => by (have h1 := (f6 k hk).1; have h2 := B3.lt; omega)); clear f6 C2; replace B2 := B2.below hbn; replace B3 := B3.below hbn; replace B4 := B4.below hbn; replace B5 := B5.below hbn; replace hb := bthen hb hbn; clear hbn)
    | ((with_reducible refine g_store 2 ?_); go_must (refine ev_store rfl rfl B2 (news := [.bool b6, .slice A6 n6 c6]) (by rfl) infoNum (by simp) (by simp [Value.oneCell']) ?_); intro wn hon Bn; simp only [List.take_zero, List.nil_append, List.length_cons, List.length_nil, List.drop_succ_cons, List.drop_zero, List.append_nil, List.cons_append] at Bn; replace B3 := B3.only hon hneb3_2; replace B4 := B4.only hon hneb4_2; replace B5 := B5.only hon hneb5_2; replace B2 := Bn; clear Bn; replace o6 := o6.only hon hne6; have hne63 : ∀ k ∈ addrBlock A6, k ≠ g3 := hne6c; replace hb := hb.trans (hon.below hg2); clear hon; replace C3 := B3.cells)
    | (go_at_call 52; (with_reducible refine (rcanonF (F0.below hb) (show (⟨b2, A2, n2, c2, _, _, _⟩ : NR) ∈ _ from (by repeat (first | exact List.mem_cons_self .. | apply List.mem_cons_of_mem))) (by omega)).mono ?_); rintro e wn ⟨vn, rfl, ⟨b7, A7, n7, c7, rfl, o7, f7⟩, hbn⟩; have hne7 : ∀ k ∈ addrBlock A7, k ≠ g3 := (fun k hk e => by (have h1 := (f7 k hk).1; have h2 := B3.lt; omega)); clear f7 C3; replace B2 := B2.below hbn; replace B3 := B3.below hbn; replace B4 := B4.below hbn; replace B5 := B5.below hbn; replace o6 := o6.below hbn; replace hb := bthen hb hbn; clear hbn)
    | ((with_reducible refine g_store 3 ?_); go_must (refine ev_store rfl rfl B3 (news := [.bool b7, .slice A7 n7 c7]) (by rfl) infoNum (by simp) (by simp [Value.oneCell']) ?_); intro wn hon Bn; simp only [List.take_zero, List.nil_append, List.length_cons, List.length_nil, List.drop_succ_cons, List.drop_zero, List.append_nil, List.cons_append] at Bn; replace B2 := B2.only hon (Ne.symm hneb3_2); replace B4 := B4.only hon hneb4_3; replace B5 := B5.only hon hneb5_3; replace B3 := Bn; clear Bn; replace o7 := o7.only hon hne7; replace o6 := o6.only hon hne63; replace hb := hb.trans (hon.below hg3); clear hon; have C2 := B2.cells; have C3 := B3.cells)
    | (go_at_call 53; (with_reducible refine (rdivF (((Fs.nil _).cons o7).cons o6) (by repeat (first | exact List.mem_cons_self .. | apply List.mem_cons_of_mem)) (by repeat (first | exact List.mem_cons_self .. | apply List.mem_cons_of_mem)) H0.out hK).mono ?_); rintro e wn ⟨vn, rfl, ⟨qv, rv, rfl, ⟨A8, n8, c8, rfl, o8, f8⟩, ⟨A9, n9, c9, rfl, o9, f9⟩⟩, hbn⟩; clear C2 C3 f8 f9; replace o6 := o6.below hbn; replace o7 := o7.below hbn; replace B2 := B2.below hbn; replace B3 := B3.below hbn; replace B4 := B4.below hbn; replace B5 := B5.below hbn; replace hb := bthen hb hbn; clear hbn))
  obtain ⟨nx, hnx⟩ : ∃ nx, nx = (b6 != b7) := ⟨_, rfl⟩
  have e1 : (b6 != b7) = nx := hnx.symm
  have e2 : (!(b6 == b7)) = nx := by rw [hnx]; rfl
  have e3 : (!decide (b6 = b7)) = nx := by rw [hnx]; cases b6 <;> cases b7 <;> rfl
  have hb6 : b6 = decide (z < 0) := by
    obtain ⟨l, _, _, _, h4⟩ := o6.ex
    exact (h4 rfl).1
  have hb7 : b7 = decide (z2 < 0) := by
    obtain ⟨l, _, _, _, h4⟩ := o7.ex
    exact (h4 rfl).1
  have HQ : As (sval nx (((z.natAbs / z2.natAbs : Nat) : Int)).natAbs = z.tdiv z2) := ⟨by
    rw [hnx, hb6, hb7, Int.natAbs_natCast, (trunc_sval _ _ _ _).1, sval_of, sval_of]⟩
  have HR : As (sval b6 (((z.natAbs % z2.natAbs : Nat) : Int)).natAbs = z.tmod z2) := ⟨by
    rw [hb6, Int.natAbs_natCast, (trunc_sval _ (decide (z2 < 0)) _ _).2, sval_of, sval_of]⟩
  clear hb6 hb7 hnx
  have hd := (Below.refl wn.heap.size wn).drew
  replace B2 := B2.below hd
  replace B3 := B3.below hd
  replace B4 := B4.below hd
  replace B5 := B5.below hd
  have hcur := bthen hb hd
  have F := ((F0.below hcur).cons (o9.below hd)).cons (o8.below hd)
  clear o6 o7 o8 o9 hb hne6 hne7 hne6c hne63
  refine wp_gen2 (fun Q7 hQ7 => ?_)
  refine wp_region_held_drew (S := fun W => Below w.heap.size w W ∧ Blk W g2 [.bool b6, .slice A6 n6 c6] 26 ∧ Blk W g3 [.bool b7, .slice A7 n7 c7] 26) (by kernel_rfl) ⟨hcur, B2, B3⟩ (fun hHeld => ?_)
  clear hHeld
  refine wpAnyH_take (i := 0) (oi := _) (v := .pointer (some ⟨g2, 0, none⟩)) rfl (by kernel_rfl) (by kernel_rfl) (by kernel_rfl) (fun _ _ _ h => h) (Or.inl ⟨by kernel_rfl, fun W hSw => by ((try dsimp only at hSw); go_simp; (try (with_reducible rfl)))⟩) ⟨hcur, B2, B3⟩ ?_
  (try simp (config := {maxSteps := 2000000}) only [Act.put, List.setIfInBounds_toArray, List.set_cons_zero, List.set_cons_succ, List.getElem_toArray, List.getElem_cons_zero, List.getElem_cons_succ])
  refine wpAnyH_take (i := 1) (oi := _) (v := .bool b6) rfl (by kernel_rfl) (by kernel_rfl) (by kernel_rfl) (fun _ _ _ h => h) (Or.inl ⟨by kernel_rfl, fun W hSw => by have Cb := hSw.2.1.cells; ((try dsimp only at hSw); go_simp; (try (with_reducible rfl)))⟩) ⟨hcur, B2, B3⟩ ?_
  (try simp (config := {maxSteps := 2000000}) only [Act.put, List.setIfInBounds_toArray, List.set_cons_zero, List.set_cons_succ, List.getElem_toArray, List.getElem_cons_zero, List.getElem_cons_succ])
  refine wpAnyH_take (i := 2) (oi := _) (v := .pointer (some ⟨g3, 0, none⟩)) rfl (by kernel_rfl) (by kernel_rfl) (by kernel_rfl) (fun _ _ _ h => h) (Or.inl ⟨by kernel_rfl, fun W hSw => by ((try dsimp only at hSw); go_simp; (try (with_reducible rfl)))⟩) ⟨hcur, B2, B3⟩ ?_
  (try simp (config := {maxSteps := 2000000}) only [Act.put, List.setIfInBounds_toArray, List.set_cons_zero, List.set_cons_succ, List.getElem_toArray, List.getElem_cons_zero, List.getElem_cons_succ])
  refine wpAnyH_take (i := 3) (oi := _) (v := .bool b7) rfl (by kernel_rfl) (by kernel_rfl) (by kernel_rfl) (fun _ _ _ h => h) (Or.inl ⟨by kernel_rfl, fun W hSw => by have Cb := hSw.2.2.cells; ((try dsimp only at hSw); go_simp; (try (with_reducible rfl)))⟩) ⟨hcur, B2, B3⟩ ?_
  (try simp (config := {maxSteps := 2000000}) only [Act.put, List.setIfInBounds_toArray, List.set_cons_zero, List.set_cons_succ, List.getElem_toArray, List.getElem_cons_zero, List.getElem_cons_succ])
  refine wpAnyH_take (i := 4) (oi := _) (v := .bool nx) rfl (by kernel_rfl) (by kernel_rfl) (by kernel_rfl) (fun _ _ _ h => h) (Or.inl ⟨by kernel_rfl, fun W hSw => by ((try dsimp only at hSw); go_simp; (try (with_reducible rfl)))⟩) ⟨hcur, B2, B3⟩ ?_
  (try simp (config := {maxSteps := 2000000}) only [Act.put, List.setIfInBounds_toArray, List.set_cons_zero, List.set_cons_succ, List.getElem_toArray, List.getElem_cons_zero, List.getElem_cons_succ])
  refine wpAnyH_take (i := 5) (oi := _) (v := .slice A8 n8 c8) rfl (by kernel_rfl) (by kernel_rfl) (by kernel_rfl) (fun _ _ _ h => h) (Or.inl ⟨by kernel_rfl, fun W hSw => by ((try dsimp only at hSw); go_simp; (try (with_reducible rfl)))⟩) ⟨hcur, B2, B3⟩ ?_
  (try simp (config := {maxSteps := 2000000}) only [Act.put, List.setIfInBounds_toArray, List.set_cons_zero, List.set_cons_succ, List.getElem_toArray, List.getElem_cons_zero, List.getElem_cons_succ])
  refine wpAnyH_take (i := 7) (oi := _) (v := .pointer (some ⟨g2, 0, none⟩)) rfl (by kernel_rfl) (by kernel_rfl) (by kernel_rfl) (fun _ _ _ h => h) (Or.inl ⟨by kernel_rfl, fun W hSw => by ((try dsimp only at hSw); go_simp; (try (with_reducible rfl)))⟩) ⟨hcur, B2, B3⟩ ?_
  (try simp (config := {maxSteps := 2000000}) only [Act.put, List.setIfInBounds_toArray, List.set_cons_zero, List.set_cons_succ, List.getElem_toArray, List.getElem_cons_zero, List.getElem_cons_succ])
  refine wpAnyH_take (i := 8) (oi := _) (v := .bool b6) rfl (by kernel_rfl) (by kernel_rfl) (by kernel_rfl) (fun _ _ _ h => h) (Or.inl ⟨by kernel_rfl, fun W hSw => by have Cb := hSw.2.1.cells; ((try dsimp only at hSw); go_simp; (try (with_reducible rfl)))⟩) ⟨hcur, B2, B3⟩ ?_
  (try simp (config := {maxSteps := 2000000}) only [Act.put, List.setIfInBounds_toArray, List.set_cons_zero, List.set_cons_succ, List.getElem_toArray, List.getElem_cons_zero, List.getElem_cons_succ])
  refine wpAnyH_take (i := 9) (oi := _) (v := .slice A9 n9 c9) rfl (by kernel_rfl) (by kernel_rfl) (by kernel_rfl) (fun _ _ _ h => h) (Or.inl ⟨by kernel_rfl, fun W hSw => by ((try dsimp only at hSw); go_simp; (try (with_reducible rfl)))⟩) ⟨hcur, B2, B3⟩ ?_
  (try simp (config := {maxSteps := 2000000}) only [Act.put, List.setIfInBounds_toArray, List.set_cons_zero, List.set_cons_succ, List.getElem_toArray, List.getElem_cons_zero, List.getElem_cons_succ])
  refine wpAnyH_ready (rs := [6]) (by kernel_rfl) (by simp) ?_
  refine AllReadyH.cons (o := _) rfl (fun K hK => ?_) AllReadyH.nil
  go_simp; (with_reducible refine (rofF F (by repeat (first | exact List.mem_cons_self .. | apply List.mem_cons_of_mem)) nx _ HQ.out (by omega)).mono ?_); rintro e wn ⟨vn, rfl, ⟨b33, A33, n33, c33, rfl, o, hf⟩, hb⟩; replace F := (F.below hb).cons o; have hne33_2 : ∀ k ∈ addrBlock A33, k ≠ g2 := (fun k hk e => by (have h1 := (hf k hk).1; have h2 := B2.lt; omega)); have hne33_3 : ∀ k ∈ addrBlock A33, k ≠ g3 := (fun k hk e => by (have h1 := (hf k hk).1; have h2 := B3.lt; omega)); have hne33_4 : ∀ k ∈ addrBlock A33, k ≠ g4 := (fun k hk e => by (have h1 := (hf k hk).1; have h2 := B4.lt; omega)); have hne33_5 : ∀ k ∈ addrBlock A33, k ≠ g5 := (fun k hk e => by (have h1 := (hf k hk).1; have h2 := B5.lt; omega)); have hge33 : ∀ k ∈ addrBlock A33, w.heap.size ≤ k := (fun k hk => Nat.le_trans hcur.size (hf k hk).1); have hfr33 : ∀ k ∈ addrBlock A33, k < _ := (fun k hk => (hf k hk).2); clear hf; replace B2 := B2.below hb; replace B3 := B3.below hb; replace B4 := B4.below hb; replace B5 := B5.below hb; replace hcur := bthen hcur hb; go_wp2_with fail
  refine hK.out _ _ ⟨hcur, B2, B3⟩ (fun hHeld => ?_)
  clear hK K hHeld
  (try simp (config := {maxSteps := 2000000}) only [Act.put, List.setIfInBounds_toArray, List.set_cons_zero, List.set_cons_succ, List.getElem_toArray, List.getElem_cons_zero, List.getElem_cons_succ])
  refine wpAnyH_ready (rs := [10]) (by kernel_rfl) (by simp) ?_
  refine AllReadyH.cons (o := _) rfl (fun K hK => ?_) AllReadyH.nil
  go_simp; (with_reducible refine (rofF F (by repeat (first | exact List.mem_cons_self .. | apply List.mem_cons_of_mem)) b6 _ HR.out (by omega)).mono ?_); rintro e wn ⟨vn, rfl, ⟨b37, A37, n37, c37, rfl, o, hf⟩, hb⟩; replace F := (F.below hb).cons o; have hne37_2 : ∀ k ∈ addrBlock A37, k ≠ g2 := (fun k hk e => by (have h1 := (hf k hk).1; have h2 := B2.lt; omega)); have hne37_3 : ∀ k ∈ addrBlock A37, k ≠ g3 := (fun k hk e => by (have h1 := (hf k hk).1; have h2 := B3.lt; omega)); have hne37_4 : ∀ k ∈ addrBlock A37, k ≠ g4 := (fun k hk e => by (have h1 := (hf k hk).1; have h2 := B4.lt; omega)); have hne37_5 : ∀ k ∈ addrBlock A37, k ≠ g5 := (fun k hk e => by (have h1 := (hf k hk).1; have h2 := B5.lt; omega)); have hge37 : ∀ k ∈ addrBlock A37, w.heap.size ≤ k := (fun k hk => Nat.le_trans hcur.size (hf k hk).1); have hfr37 : ∀ k ∈ addrBlock A37, k < _ := (fun k hk => (hf k hk).2); clear hf; replace B2 := B2.below hb; replace B3 := B3.below hb; replace B4 := B4.below hb; replace B5 := B5.below hb; replace hfr33 : ∀ k ∈ addrBlock A33, k < _ := (fun k hk => Nat.lt_of_lt_of_le (hfr33 k hk) hb.size); replace hcur := bthen hcur hb; go_wp2_with fail
  refine hK.out _ _ ⟨hcur, B2, B3⟩ (fun hHeld => ?_)
  clear hK K hHeld
  (try simp (config := {maxSteps := 2000000}) only [Act.put, List.setIfInBounds_toArray, List.set_cons_zero, List.set_cons_succ, List.getElem_toArray, List.getElem_cons_zero, List.getElem_cons_succ])
  refine wpAnyH_ready (rs := [11]) (by kernel_rfl) (by simp) ?_
  refine AllReadyH.cons (o := _) rfl (fun K hK => ?_) AllReadyH.nil
  refine st_store rfl rfl B4 (news := [.bool b33, .slice A33 n33 c33]) (by rfl) infoNum (by simp) (by simp [Value.oneCell']) ?_; intro wn hon Bx; simp only [List.take_zero, List.nil_append, List.length_cons, List.length_nil, List.drop_succ_cons, List.drop_zero, List.append_nil, List.cons_append] at Bx; replace B4 := Bx; clear Bx; replace B2 := B2.only hon (Ne.symm hneb4_2); replace B3 := B3.only hon (Ne.symm hneb4_3); replace B5 := B5.only hon hneb5_4; have oo4 : NR.Ok _ _ := (F.out _ (show (⟨b33, A33, n33, c33, _, _, _⟩ : NR) ∈ _ from (by repeat (first | exact List.mem_cons_self .. | apply List.mem_cons_of_mem)))).only hon hne33_4; have F1 := F; clear F; have F := F0.below (hcur.trans (hon.below hg4)); replace F := F.cons ((F1.out _ (show (⟨b37, A37, n37, c37, _, _, _⟩ : NR) ∈ _ from (by repeat (first | exact List.mem_cons_self .. | apply List.mem_cons_of_mem)))).only hon hne37_4); replace hfr33 : ∀ k ∈ addrBlock A33, k < _ := (fun k hk => Nat.lt_of_lt_of_eq (hfr33 k hk) hon.size.symm); replace hfr37 : ∀ k ∈ addrBlock A37, k < _ := (fun k hk => Nat.lt_of_lt_of_eq (hfr37 k hk) hon.size.symm); clear F1; replace hcur := hcur.trans (hon.below hg4); clear hon
  refine hK.out _ _ ⟨hcur, B2, B3⟩ (fun hHeld => ?_)
  clear hK K hHeld
  (try simp (config := {maxSteps := 2000000}) only [Act.put, List.setIfInBounds_toArray, List.set_cons_zero, List.set_cons_succ, List.getElem_toArray, List.getElem_cons_zero, List.getElem_cons_succ])
  refine wpAnyH_ready (rs := [12]) (by kernel_rfl) (by simp) ?_
  refine AllReadyH.cons (o := _) rfl (fun K hK => ?_) AllReadyH.nil
  refine st_store rfl rfl B5 (news := [.bool b37, .slice A37 n37 c37]) (by rfl) infoNum (by simp) (by simp [Value.oneCell']) ?_; intro wn hon Bx; simp only [List.take_zero, List.nil_append, List.length_cons, List.length_nil, List.drop_succ_cons, List.drop_zero, List.append_nil, List.cons_append] at Bx; replace B5 := Bx; clear Bx; replace B2 := B2.only hon (Ne.symm hneb5_2); replace B3 := B3.only hon (Ne.symm hneb5_3); replace B4 := B4.only hon (Ne.symm hneb5_4); have oo5 : NR.Ok _ _ := (F.out _ (show (⟨b37, A37, n37, c37, _, _, _⟩ : NR) ∈ _ from (by repeat (first | exact List.mem_cons_self .. | apply List.mem_cons_of_mem)))).only hon hne37_5; replace oo4 := oo4.only hon hne33_5; have F1 := F; clear F; have F := F0.below (hcur.trans (hon.below hg5)); replace hfr33 : ∀ k ∈ addrBlock A33, k < _ := (fun k hk => Nat.lt_of_lt_of_eq (hfr33 k hk) hon.size.symm); replace hfr37 : ∀ k ∈ addrBlock A37, k < _ := (fun k hk => Nat.lt_of_lt_of_eq (hfr37 k hk) hon.size.symm); clear F1; replace hcur := hcur.trans (hon.below hg5); clear hon
  refine hK.out _ _ ⟨hcur, B2, B3⟩ (fun hHeld => ?_)
  clear hK K hHeld
  (try simp (config := {maxSteps := 2000000}) only [Act.put, List.setIfInBounds_toArray, List.set_cons_zero, List.set_cons_succ, List.getElem_toArray, List.getElem_cons_zero, List.getElem_cons_succ])
  refine wpAnyH_ready (rs := [13]) (by kernel_rfl) (by simp) ?_
  refine AllReadyH.cons (o := _) rfl (fun K hK => ?_) AllReadyH.nil
  go_simp
  refine hK.out _ _ ⟨hcur, B2, B3⟩ (fun hHeld => ?_)
  clear hK K hHeld
  (try simp (config := {maxSteps := 2000000}) only [Act.put, List.setIfInBounds_toArray, List.set_cons_zero, List.set_cons_succ, List.getElem_toArray, List.getElem_cons_zero, List.getElem_cons_succ])
  refine wpAnyH_done (by kernel_rfl) ?_ _
  refine NoPanic.normal ?_
  obtain ⟨rfl⟩ := hQ7
  (go_wp2_with fail)
  refine bodyPost_ret (results_cct rfl _ _ g4 g5 26 26 #[.bool b33, .slice A33 n33 c33] #[.bool b37, .slice A37 n37 c37] (0, 0) (0, 0) _ rfl rfl B4.h B5.h Tryd.underlying26 rfl (by kernel_rfl) (by kernel_rfl)) rfl ?_
  exact ⟨_, rfl, ⟨_, _, rfl, ⟨_, _, _, _, rfl, oo4, fun k hk => ⟨hge33 k hk, hfr33 k hk⟩⟩, ⟨_, _, _, _, rfl, oo5, fun k hk => ⟨hge37 k hk, hfr37 k hk⟩⟩⟩, hcur⟩
theorem rtruncF (F : Fs w L) (h : (⟨b, A, n, c, z, K, can⟩ : NR) ∈ L) (h' : (⟨b2, A2, n2, c2, z2, K2, can2⟩ : NR) ∈ L) (hT : TQ z z2 q r ok) (hK : K ≤ 274877906942) (hK2 : K2 ≤ 274877906942) :
    Calls Tryd.prog 22 #[.agg #[.bool b, .slice A n c], .agg #[.bool b2, .slice A2 n2 c2]] w (Gives w fun v w' => ∃ qv rv, v = .tuple #[qv, rv, .bool ok] ∧ NumRes w q K true qv w' ∧ NumRes w r K true rv w') := by
  have F0 : Fs w [⟨b, A, n, c, z, K, can⟩, ⟨b2, A2, n2, c2, z2, K2, can2⟩] := ((Fs.nil w).cons (F.out _ h')).cons (F.out _ h)
  clear F h h'
  rcases hT with ⟨h0, rfl, rfl, rfl⟩ | ⟨h0, rfl, rfl, rfl⟩
  · exact rtrunc0_go F0 h0 hK hK2
  · exact rtrunc1_go F0 h0 hK hK2
end
end Go.Proofs.YtigoofeodbbbhaaDoor
/- tandemref02.Floor, told of numbers that are held; by zero too. -/
namespace Go.Proofs.YtigoofeodbbbhaaDoor
open Go.RowKit Go.Proofs.YtigoofeodbbbhaaDoorL Go.Proofs.YtigoofeodbbbhaaDoorM
set_option linter.unusedVariables false
set_option linter.unusedSimpArgs false
section
variable {w : World} {L : List NR} {b b2 : Bool} {A A2 : Option Addr} {n c n2 c2 : Nat} {z z2 q r : Int} {K K2 : Nat} {can can2 ok : Bool}
set_option maxRecDepth 8000 in
set_option maxHeartbeats 8000000 in
theorem rfloorZ_go (F0 : Fs w [⟨b, A, n, c, z, K, can⟩, ⟨b2, A2, n2, c2, z2, K2, can2⟩]) (h0 : z2 = 0) (hK : K + K2 ≤ 274877906930) :
    Calls Tryd.prog 24 #[.agg #[.bool b, .slice A n c], .agg #[.bool b2, .slice A2 n2 c2]] w (Gives w fun v w' => ∃ qv rv, v = .tuple #[qv, rv, .bool false] ∧ NumRes w (0) (K + K2 + 4) true qv w' ∧ NumRes w (0) (K + K2 + 4) true rv w') := by
  have HT := As.mk (show TQ z z2 0 0 false from .inl ⟨h0, rfl, rfl, rfl⟩)
  clear h0
  go_enter Tryd.func24, Tryd.ntmps24
  go_wp2_with (first
    | ((with_reducible refine g_dst 2 ?_); go_must (refine ev_box 2 rfl (cs := [.bool b, .slice A n c]) (by rfl) ?_); intro g2 wn hb2 B2 hg2; have hb := hb2)
    | ((with_reducible refine g_dst 3 ?_); go_must (refine ev_box 3 rfl (cs := [.bool b2, .slice A2 n2 c2]) (by rfl) ?_); intro g3 wn hb3 B3 hgn; have hneb3_2 : g3 ≠ g2 := (fun e => by (have h1 := B2.lt; omega)); have hg3 := Nat.le_trans hb.size hgn; replace B2 := B2.below hb3; replace hb := bthen hb hb3)
    | ((with_reducible refine g_dst 4 ?_); go_must (refine ev_alloc 4 rfl infoNum (cs := [.bool false, .slice none 0 0]) rfl ?_); intro g4 wn hb4 B4 hgn; have hneb4_2 : g4 ≠ g2 := (fun e => by (have h1 := B2.lt; omega)); have hneb4_3 : g4 ≠ g3 := (fun e => by (have h1 := B3.lt; omega)); have hg4 := Nat.le_trans hb.size hgn; replace B2 := B2.below hb4; replace B3 := B3.below hb4; replace hb := bthen hb hb4)
    | ((with_reducible refine g_dst 5 ?_); go_must (refine ev_alloc 5 rfl infoNum (cs := [.bool false, .slice none 0 0]) rfl ?_); intro g5 wn hb5 B5 hgn; have hneb5_2 : g5 ≠ g2 := (fun e => by (have h1 := B2.lt; omega)); have hneb5_3 : g5 ≠ g3 := (fun e => by (have h1 := B3.lt; omega)); have hneb5_4 : g5 ≠ g4 := (fun e => by (have h1 := B4.lt; omega)); have hg5 := Nat.le_trans hb.size hgn; replace B2 := B2.below hb5; replace B3 := B3.below hb5; replace B4 := B4.below hb5; replace hb := bthen hb hb5; have C2 := B2.cells; have C3 := B3.cells)
    | (go_at_call 22; (with_reducible refine (rtruncF (F0.below hb) (by repeat (first | exact List.mem_cons_self .. | apply List.mem_cons_of_mem)) (by repeat (first | exact List.mem_cons_self .. | apply List.mem_cons_of_mem)) HT.out (by omega) (by omega)).mono ?_); rintro e wn ⟨vn, rfl, ⟨qv, rv, rfl, ⟨b10, A10, n10, c10, rfl, o10, f10⟩, ⟨b11, A11, n11, c11, rfl, o11, f11⟩⟩, hbn⟩; clear C2 C3; have p10 : ∀ k ∈ addrBlock A10, w.heap.size ≤ k := (fun k hk => Nat.le_trans hb.size (f10 k hk).1); have p11 : ∀ k ∈ addrBlock A11, w.heap.size ≤ k := (fun k hk => Nat.le_trans hb.size (f11 k hk).1); have hne10_4 : ∀ k ∈ addrBlock A10, k ≠ g4 := (fun k hk e => by (have h1 := (f10 k hk).1; have h2 := B4.lt; omega)); have hne10_5 : ∀ k ∈ addrBlock A10, k ≠ g5 := (fun k hk e => by (have h1 := (f10 k hk).1; have h2 := B5.lt; omega)); have hne11_4 : ∀ k ∈ addrBlock A11, k ≠ g4 := (fun k hk e => by (have h1 := (f11 k hk).1; have h2 := B4.lt; omega)); have hne11_5 : ∀ k ∈ addrBlock A11, k ≠ g5 := (fun k hk e => by (have h1 := (f11 k hk).1; have h2 := B5.lt; omega)); replace B2 := B2.below hbn; replace B3 := B3.below hbn; replace B4 := B4.below hbn; replace B5 := B5.below hbn; replace hb := bthen hb hbn; clear hbn)
    | ((with_reducible refine g_dst 7 ?_); go_must (refine ev_alloc 7 rfl infoNum (cs := [.bool false, .slice none 0 0]) rfl ?_); intro g7 wn hb7 B7 hgn; have hneb7_2 : g7 ≠ g2 := (fun e => by (have h1 := B2.lt; omega)); have hneb7_3 : g7 ≠ g3 := (fun e => by (have h1 := B3.lt; omega)); have hneb7_4 : g7 ≠ g4 := (fun e => by (have h1 := B4.lt; omega)); have hneb7_5 : g7 ≠ g5 := (fun e => by (have h1 := B5.lt; omega)); have hne10_7 : ∀ k ∈ addrBlock A10, k ≠ g7 := (fun k hk e => by (have h1 := (f10 k hk).2; omega)); have hne11_7 : ∀ k ∈ addrBlock A11, k ≠ g7 := (fun k hk e => by (have h1 := (f11 k hk).2; omega)); replace f10 := (fun k hk => Nat.lt_of_lt_of_le (f10 k hk).2 hb7.size); replace f11 := (fun k hk => Nat.lt_of_lt_of_le (f11 k hk).2 hb7.size); have hg7 := Nat.le_trans hb.size hgn; replace B2 := B2.below hb7; replace B3 := B3.below hb7; replace B4 := B4.below hb7; replace B5 := B5.below hb7; replace o10 := o10.below hb7; replace o11 := o11.below hb7; replace hb := bthen hb hb7)
    | ((with_reducible refine g_dst 8 ?_); go_must (refine ev_alloc 8 rfl infoNum (cs := [.bool false, .slice none 0 0]) rfl ?_); intro g8 wn hb8 B8 hgn; have hneb8_2 : g8 ≠ g2 := (fun e => by (have h1 := B2.lt; omega)); have hneb8_3 : g8 ≠ g3 := (fun e => by (have h1 := B3.lt; omega)); have hneb8_4 : g8 ≠ g4 := (fun e => by (have h1 := B4.lt; omega)); have hneb8_5 : g8 ≠ g5 := (fun e => by (have h1 := B5.lt; omega)); have hneb8_7 : g8 ≠ g7 := (fun e => by (have h1 := B7.lt; omega)); have hne10_8 : ∀ k ∈ addrBlock A10, k ≠ g8 := (fun k hk e => by (have h1 := f10 k hk; omega)); have hne11_8 : ∀ k ∈ addrBlock A11, k ≠ g8 := (fun k hk e => by (have h1 := f11 k hk; omega)); replace f10 := (fun k hk => Nat.lt_of_lt_of_le (f10 k hk) hb8.size); replace f11 := (fun k hk => Nat.lt_of_lt_of_le (f11 k hk) hb8.size); have hg8 := Nat.le_trans hb.size hgn; replace B2 := B2.below hb8; replace B3 := B3.below hb8; replace B4 := B4.below hb8; replace B5 := B5.below hb8; replace B7 := B7.below hb8; replace o10 := o10.below hb8; replace o11 := o11.below hb8; replace hb := bthen hb hb8)
    | ((with_reducible refine g_store 7 ?_); go_must (refine ev_store rfl rfl B7 (news := [.bool b10, .slice A10 n10 c10]) (by rfl) infoNum (by simp) (by simp [Value.oneCell']) ?_); intro wn hon Bn; simp only [List.take_zero, List.nil_append, List.length_cons, List.length_nil, List.drop_succ_cons, List.drop_zero, List.append_nil, List.cons_append] at Bn; replace B2 := B2.only hon (Ne.symm hneb7_2); replace B3 := B3.only hon (Ne.symm hneb7_3); replace B4 := B4.only hon (Ne.symm hneb7_4); replace B5 := B5.only hon (Ne.symm hneb7_5); replace B8 := B8.only hon hneb8_7; replace B7 := Bn; clear Bn; replace o10 := o10.only hon hne10_7; replace o11 := o11.only hon hne11_7; replace hb := hb.trans (hon.below hg7); replace f10 := (fun k hk => Nat.lt_of_lt_of_eq (f10 k hk) hon.size.symm); replace f11 := (fun k hk => Nat.lt_of_lt_of_eq (f11 k hk) hon.size.symm); clear hon)
    | ((with_reducible refine g_store 8 ?_); go_must (refine ev_store rfl rfl B8 (news := [.bool b11, .slice A11 n11 c11]) (by rfl) infoNum (by simp) (by simp [Value.oneCell']) ?_); intro wn hon Bn; simp only [List.take_zero, List.nil_append, List.length_cons, List.length_nil, List.drop_succ_cons, List.drop_zero, List.append_nil, List.cons_append] at Bn; replace B2 := B2.only hon (Ne.symm hneb8_2); replace B3 := B3.only hon (Ne.symm hneb8_3); replace B4 := B4.only hon (Ne.symm hneb8_4); replace B5 := B5.only hon (Ne.symm hneb8_5); replace B7 := B7.only hon (Ne.symm hneb8_7); replace B8 := Bn; clear Bn; replace o10 := o10.only hon hne10_8; replace o11 := o11.only hon hne11_8; replace hb := hb.trans (hon.below hg8); replace f10 := (fun k hk => Nat.lt_of_lt_of_eq (f10 k hk) hon.size.symm); replace f11 := (fun k hk => Nat.lt_of_lt_of_eq (f11 k hk) hon.size.symm); clear hon))
  have hge10 := p10
  have hge11 := p11
  clear p10 p11
  have hd := (Below.refl wn.heap.size wn).drew
  replace B2 := B2.below hd
  replace B3 := B3.below hd
  replace B4 := B4.below hd
  replace B5 := B5.below hd
  replace B7 := B7.below hd
  replace B8 := B8.below hd
  have hcur := bthen hb hd
  have F := ((F0.below hcur).cons (o11.below hd)).cons (o10.below hd)
  have hfr10 : ∀ k ∈ addrBlock A10, k < _ := (fun k hk => Nat.lt_of_lt_of_le (f10 k hk) hd.size)
  have hfr11 : ∀ k ∈ addrBlock A11, k < _ := (fun k hk => Nat.lt_of_lt_of_le (f11 k hk) hd.size)
  clear f10 f11
  refine wp_gen2 (fun Q7 hQ7 => ?_)
  refine wp_region_held_drew (S := fun W => Below w.heap.size w W ∧ Blk W g2 [.bool b, .slice A n c] 26 ∧ Blk W g3 [.bool b2, .slice A2 n2 c2] 26 ∧ Blk W g7 [.bool b10, .slice A10 n10 c10] 26 ∧ Blk W g8 [.bool b11, .slice A11 n11 c11] 26) (by kernel_rfl) ⟨hcur, B2, B3, B7, B8⟩ (fun hHeld => ?_)
  clear hHeld hd
  generalize wn.drew = wv at *
  refine wpAnyH_take (i := 0) (oi := _) (v := .bool false) rfl (by kernel_rfl) (by kernel_rfl) (by kernel_rfl) (fun _ _ _ h => h) (Or.inl ⟨by kernel_rfl, fun W hSw => by ((try dsimp only at hSw); go_simp; (try (with_reducible rfl)))⟩) ⟨hcur, B2, B3, B7, B8⟩ ?_
  (try simp (config := {maxSteps := 2000000}) only [Act.put, List.setIfInBounds_toArray, List.set_cons_zero, List.set_cons_succ, List.getElem_toArray, List.getElem_cons_zero, List.getElem_cons_succ])
  refine wpAnyH_take (i := 1) (oi := _) (v := .bool false) rfl (by kernel_rfl) (by kernel_rfl) (by kernel_rfl) (fun _ _ _ h => h) (Or.inl ⟨by kernel_rfl, fun W hSw => by ((try dsimp only at hSw); go_simp; (try (with_reducible rfl)))⟩) ⟨hcur, B2, B3, B7, B8⟩ ?_
  (try simp (config := {maxSteps := 2000000}) only [Act.put, List.setIfInBounds_toArray, List.set_cons_zero, List.set_cons_succ, List.getElem_toArray, List.getElem_cons_zero, List.getElem_cons_succ])
  refine wpAnyH_take (i := 2) (oi := _) (v := undef) rfl (by kernel_rfl) (by kernel_rfl) (by kernel_rfl) (fun _ _ _ h => h) (Or.inr ⟨by kernel_rfl, rfl⟩) ⟨hcur, B2, B3, B7, B8⟩ ?_
  (try simp (config := {maxSteps := 2000000}) only [Act.put, List.setIfInBounds_toArray, List.set_cons_zero, List.set_cons_succ, List.getElem_toArray, List.getElem_cons_zero, List.getElem_cons_succ])
  refine wpAnyH_take (i := 3) (oi := _) (v := undef) rfl (by kernel_rfl) (by kernel_rfl) (by kernel_rfl) (fun _ _ _ h => h) (Or.inr ⟨by kernel_rfl, rfl⟩) ⟨hcur, B2, B3, B7, B8⟩ ?_
  (try simp (config := {maxSteps := 2000000}) only [Act.put, List.setIfInBounds_toArray, List.set_cons_zero, List.set_cons_succ, List.getElem_toArray, List.getElem_cons_zero, List.getElem_cons_succ])
  refine wpAnyH_take (i := 4) (oi := _) (v := undef) rfl (by kernel_rfl) (by kernel_rfl) (by kernel_rfl) (fun _ _ _ h => h) (Or.inr ⟨by kernel_rfl, rfl⟩) ⟨hcur, B2, B3, B7, B8⟩ ?_
  (try simp (config := {maxSteps := 2000000}) only [Act.put, List.setIfInBounds_toArray, List.set_cons_zero, List.set_cons_succ, List.getElem_toArray, List.getElem_cons_zero, List.getElem_cons_succ])
  refine wpAnyH_take (i := 5) (oi := _) (v := undef) rfl (by kernel_rfl) (by kernel_rfl) (by kernel_rfl) (fun _ _ _ h => h) (Or.inr ⟨by kernel_rfl, rfl⟩) ⟨hcur, B2, B3, B7, B8⟩ ?_
  (try simp (config := {maxSteps := 2000000}) only [Act.put, List.setIfInBounds_toArray, List.set_cons_zero, List.set_cons_succ, List.getElem_toArray, List.getElem_cons_zero, List.getElem_cons_succ])
  refine wpAnyH_take (i := 6) (oi := _) (v := .bool false) rfl (by kernel_rfl) (by kernel_rfl) (by kernel_rfl) (fun _ _ _ h => h) (Or.inl ⟨by kernel_rfl, fun W hSw => by ((try dsimp only at hSw); go_simp; (try (with_reducible rfl)))⟩) ⟨hcur, B2, B3, B7, B8⟩ ?_
  (try simp (config := {maxSteps := 2000000}) only [Act.put, List.setIfInBounds_toArray, List.set_cons_zero, List.set_cons_succ, List.getElem_toArray, List.getElem_cons_zero, List.getElem_cons_succ])
  refine wpAnyH_take (i := 7) (oi := _) (v := .bool false) rfl (by kernel_rfl) (by kernel_rfl) (by kernel_rfl) (fun _ _ _ h => h) (Or.inl ⟨by kernel_rfl, fun W hSw => by ((try dsimp only at hSw); go_simp; (try (with_reducible rfl)))⟩) ⟨hcur, B2, B3, B7, B8⟩ ?_
  (try simp (config := {maxSteps := 2000000}) only [Act.put, List.setIfInBounds_toArray, List.set_cons_zero, List.set_cons_succ, List.getElem_toArray, List.getElem_cons_zero, List.getElem_cons_succ])
  refine wpAnyH_take (i := 8) (oi := _) (v := undef) rfl (by kernel_rfl) (by kernel_rfl) (by kernel_rfl) (fun _ _ _ h => h) (Or.inr ⟨by kernel_rfl, rfl⟩) ⟨hcur, B2, B3, B7, B8⟩ ?_
  (try simp (config := {maxSteps := 2000000}) only [Act.put, List.setIfInBounds_toArray, List.set_cons_zero, List.set_cons_succ, List.getElem_toArray, List.getElem_cons_zero, List.getElem_cons_succ])
  refine wpAnyH_take (i := 9) (oi := _) (v := undef) rfl (by kernel_rfl) (by kernel_rfl) (by kernel_rfl) (fun _ _ _ h => h) (Or.inr ⟨by kernel_rfl, rfl⟩) ⟨hcur, B2, B3, B7, B8⟩ ?_
  (try simp (config := {maxSteps := 2000000}) only [Act.put, List.setIfInBounds_toArray, List.set_cons_zero, List.set_cons_succ, List.getElem_toArray, List.getElem_cons_zero, List.getElem_cons_succ])
  refine wpAnyH_take (i := 10) (oi := _) (v := undef) rfl (by kernel_rfl) (by kernel_rfl) (by kernel_rfl) (fun _ _ _ h => h) (Or.inr ⟨by kernel_rfl, rfl⟩) ⟨hcur, B2, B3, B7, B8⟩ ?_
  (try simp (config := {maxSteps := 2000000}) only [Act.put, List.setIfInBounds_toArray, List.set_cons_zero, List.set_cons_succ, List.getElem_toArray, List.getElem_cons_zero, List.getElem_cons_succ])
  refine wpAnyH_take (i := 11) (oi := _) (v := undef) rfl (by kernel_rfl) (by kernel_rfl) (by kernel_rfl) (fun _ _ _ h => h) (Or.inr ⟨by kernel_rfl, rfl⟩) ⟨hcur, B2, B3, B7, B8⟩ ?_
  (try simp (config := {maxSteps := 2000000}) only [Act.put, List.setIfInBounds_toArray, List.set_cons_zero, List.set_cons_succ, List.getElem_toArray, List.getElem_cons_zero, List.getElem_cons_succ])
  refine wpAnyH_take (i := 12) (oi := _) (v := undef) rfl (by kernel_rfl) (by kernel_rfl) (by kernel_rfl) (fun _ _ _ h => h) (Or.inr ⟨by kernel_rfl, rfl⟩) ⟨hcur, B2, B3, B7, B8⟩ ?_
  (try simp (config := {maxSteps := 2000000}) only [Act.put, List.setIfInBounds_toArray, List.set_cons_zero, List.set_cons_succ, List.getElem_toArray, List.getElem_cons_zero, List.getElem_cons_succ])
  refine wpAnyH_take (i := 13) (oi := _) (v := undef) rfl (by kernel_rfl) (by kernel_rfl) (by kernel_rfl) (fun _ _ _ h => h) (Or.inr ⟨by kernel_rfl, rfl⟩) ⟨hcur, B2, B3, B7, B8⟩ ?_
  (try simp (config := {maxSteps := 2000000}) only [Act.put, List.setIfInBounds_toArray, List.set_cons_zero, List.set_cons_succ, List.getElem_toArray, List.getElem_cons_zero, List.getElem_cons_succ])
  refine wpAnyH_take (i := 14) (oi := _) (v := .bool false) rfl (by kernel_rfl) (by kernel_rfl) (by kernel_rfl) (fun _ _ _ h => h) (Or.inl ⟨by kernel_rfl, fun W hSw => by ((try dsimp only at hSw); go_simp; (try (with_reducible rfl)))⟩) ⟨hcur, B2, B3, B7, B8⟩ ?_
  (try simp (config := {maxSteps := 2000000}) only [Act.put, List.setIfInBounds_toArray, List.set_cons_zero, List.set_cons_succ, List.getElem_toArray, List.getElem_cons_zero, List.getElem_cons_succ])
  refine wpAnyH_done (by kernel_rfl) ?_ _
  refine NoPanic.normal ?_
  obtain ⟨rfl⟩ := hQ7
  (go_wp2_with fail)
  have hd := (Below.refl wv.heap.size wv).drew
  replace B2 := B2.below hd
  replace B3 := B3.below hd
  replace B4 := B4.below hd
  replace B5 := B5.below hd
  replace B7 := B7.below hd
  replace B8 := B8.below hd
  replace hcur := bthen hcur hd
  replace F := F.below hd
  replace hfr10 : ∀ k ∈ addrBlock A10, k < _ := (fun k hk => Nat.lt_of_lt_of_le (hfr10 k hk) hd.size)
  replace hfr11 : ∀ k ∈ addrBlock A11, k < _ := (fun k hk => Nat.lt_of_lt_of_le (hfr11 k hk) hd.size)
  clear hd
  refine wp_gen2 (fun Q7 hQ7 => ?_)
  refine wp_region_held_drew (S := fun W => Below w.heap.size w W ∧ Blk W g2 [.bool b, .slice A n c] 26 ∧ Blk W g3 [.bool b2, .slice A2 n2 c2] 26 ∧ Blk W g7 [.bool b10, .slice A10 n10 c10] 26 ∧ Blk W g8 [.bool b11, .slice A11 n11 c11] 26) (by kernel_rfl) ⟨hcur, B2, B3, B7, B8⟩ (fun hHeld => ?_)
  clear hHeld
  refine wpAnyH_take (i := 0) (oi := _) (v := .agg #[.bool b10, .slice A10 n10 c10]) rfl (by kernel_rfl) (by kernel_rfl) (by kernel_rfl) (fun _ _ _ h => h) (Or.inl ⟨by kernel_rfl, fun W hSw => by have Cb := hSw.2.2.2.1.cells; ((try dsimp only at hSw); go_simp; (try (with_reducible rfl)))⟩) ⟨hcur, B2, B3, B7, B8⟩ ?_
  (try simp (config := {maxSteps := 2000000}) only [Act.put, List.setIfInBounds_toArray, List.set_cons_zero, List.set_cons_succ, List.getElem_toArray, List.getElem_cons_zero, List.getElem_cons_succ])
  refine wpAnyH_take (i := 1) (oi := _) (v := .agg #[.bool b11, .slice A11 n11 c11]) rfl (by kernel_rfl) (by kernel_rfl) (by kernel_rfl) (fun _ _ _ h => h) (Or.inl ⟨by kernel_rfl, fun W hSw => by have Cb := hSw.2.2.2.2.cells; ((try dsimp only at hSw); go_simp; (try (with_reducible rfl)))⟩) ⟨hcur, B2, B3, B7, B8⟩ ?_
  (try simp (config := {maxSteps := 2000000}) only [Act.put, List.setIfInBounds_toArray, List.set_cons_zero, List.set_cons_succ, List.getElem_toArray, List.getElem_cons_zero, List.getElem_cons_succ])
  refine wpAnyH_take (i := 2) (oi := _) (v := .bool false) rfl (by kernel_rfl) (by kernel_rfl) (by kernel_rfl) (fun _ _ _ h => h) (Or.inl ⟨by kernel_rfl, fun W hSw => by ((try dsimp only at hSw); go_simp; (try (with_reducible rfl)))⟩) ⟨hcur, B2, B3, B7, B8⟩ ?_
  (try simp (config := {maxSteps := 2000000}) only [Act.put, List.setIfInBounds_toArray, List.set_cons_zero, List.set_cons_succ, List.getElem_toArray, List.getElem_cons_zero, List.getElem_cons_succ])
  refine wpAnyH_ready (rs := [3]) (by kernel_rfl) (by simp) ?_
  refine AllReadyH.cons (o := _) rfl (fun K hK => ?_) AllReadyH.nil
  refine st_store rfl rfl B4 (news := [.bool b10, .slice A10 n10 c10]) (by rfl) infoNum (by simp) (by simp [Value.oneCell']) ?_; intro wn hon Bx; simp only [List.take_zero, List.nil_append, List.length_cons, List.length_nil, List.drop_succ_cons, List.drop_zero, List.append_nil, List.cons_append] at Bx; replace B4 := Bx; clear Bx; replace B2 := B2.only hon (Ne.symm hneb4_2); replace B3 := B3.only hon (Ne.symm hneb4_3); replace B5 := B5.only hon hneb5_4; replace B7 := B7.only hon hneb7_4; replace B8 := B8.only hon hneb8_4; have oo4 : NR.Ok _ _ := (F.out _ (show (⟨b10, A10, n10, c10, _, _, _⟩ : NR) ∈ _ from (by repeat (first | exact List.mem_cons_self .. | apply List.mem_cons_of_mem)))).only hon hne10_4; have F1 := F; clear F; have F := F0.below (hcur.trans (hon.below hg4)); replace F := F.cons ((F1.out _ (show (⟨b11, A11, n11, c11, _, _, _⟩ : NR) ∈ _ from (by repeat (first | exact List.mem_cons_self .. | apply List.mem_cons_of_mem)))).only hon hne11_4); replace hfr10 : ∀ k ∈ addrBlock A10, k < _ := (fun k hk => Nat.lt_of_lt_of_eq (hfr10 k hk) hon.size.symm); replace hfr11 : ∀ k ∈ addrBlock A11, k < _ := (fun k hk => Nat.lt_of_lt_of_eq (hfr11 k hk) hon.size.symm); clear F1; replace hcur := hcur.trans (hon.below hg4); clear hon
  refine hK.out _ _ ⟨hcur, B2, B3, B7, B8⟩ (fun hHeld => ?_)
  clear hK K hHeld
  (try simp (config := {maxSteps := 2000000}) only [Act.put, List.setIfInBounds_toArray, List.set_cons_zero, List.set_cons_succ, List.getElem_toArray, List.getElem_cons_zero, List.getElem_cons_succ])
  refine wpAnyH_ready (rs := [4]) (by kernel_rfl) (by simp) ?_
  refine AllReadyH.cons (o := _) rfl (fun K hK => ?_) AllReadyH.nil
  refine st_store rfl rfl B5 (news := [.bool b11, .slice A11 n11 c11]) (by rfl) infoNum (by simp) (by simp [Value.oneCell']) ?_; intro wn hon Bx; simp only [List.take_zero, List.nil_append, List.length_cons, List.length_nil, List.drop_succ_cons, List.drop_zero, List.append_nil, List.cons_append] at Bx; replace B5 := Bx; clear Bx; replace B2 := B2.only hon (Ne.symm hneb5_2); replace B3 := B3.only hon (Ne.symm hneb5_3); replace B4 := B4.only hon (Ne.symm hneb5_4); replace B7 := B7.only hon hneb7_5; replace B8 := B8.only hon hneb8_5; have oo5 : NR.Ok _ _ := (F.out _ (show (⟨b11, A11, n11, c11, _, _, _⟩ : NR) ∈ _ from (by repeat (first | exact List.mem_cons_self .. | apply List.mem_cons_of_mem)))).only hon hne11_5; replace oo4 := oo4.only hon hne10_5; have F1 := F; clear F; have F := F0.below (hcur.trans (hon.below hg5)); replace hfr10 : ∀ k ∈ addrBlock A10, k < _ := (fun k hk => Nat.lt_of_lt_of_eq (hfr10 k hk) hon.size.symm); replace hfr11 : ∀ k ∈ addrBlock A11, k < _ := (fun k hk => Nat.lt_of_lt_of_eq (hfr11 k hk) hon.size.symm); clear F1; replace hcur := hcur.trans (hon.below hg5); clear hon
  refine hK.out _ _ ⟨hcur, B2, B3, B7, B8⟩ (fun hHeld => ?_)
  clear hK K hHeld
  (try simp (config := {maxSteps := 2000000}) only [Act.put, List.setIfInBounds_toArray, List.set_cons_zero, List.set_cons_succ, List.getElem_toArray, List.getElem_cons_zero, List.getElem_cons_succ])
  refine wpAnyH_ready (rs := [5]) (by kernel_rfl) (by simp) ?_
  refine AllReadyH.cons (o := _) rfl (fun K hK => ?_) AllReadyH.nil
  go_simp
  refine hK.out _ _ ⟨hcur, B2, B3, B7, B8⟩ (fun hHeld => ?_)
  clear hK K hHeld
  (try simp (config := {maxSteps := 2000000}) only [Act.put, List.setIfInBounds_toArray, List.set_cons_zero, List.set_cons_succ, List.getElem_toArray, List.getElem_cons_zero, List.getElem_cons_succ])
  refine wpAnyH_done (by kernel_rfl) ?_ _
  refine NoPanic.normal ?_
  obtain ⟨rfl⟩ := hQ7
  (go_wp2_with fail)
  refine bodyPost_ret (results_cct rfl _ _ g4 g5 26 26 #[.bool b10, .slice A10 n10 c10] #[.bool b11, .slice A11 n11 c11] (0, 0) (0, 0) _ rfl rfl B4.h B5.h Tryd.underlying26 rfl (by kernel_rfl) (by kernel_rfl)) rfl ?_
  exact ⟨_, rfl, ⟨_, _, rfl, ⟨_, _, _, _, rfl, ⟨oo4.ex, Nat.le_trans oo4.le (by simp only; omega)⟩, fun k hk => ⟨hge10 k hk, hfr10 k hk⟩⟩, ⟨_, _, _, _, rfl, ⟨oo5.ex, Nat.le_trans oo5.le (by simp only; omega)⟩, fun k hk => ⟨hge11 k hk, hfr11 k hk⟩⟩⟩, hcur⟩
set_option maxRecDepth 8000 in
set_option maxHeartbeats 8000000 in
theorem rfloor0_go (F0 : Fs w [⟨b, A, n, c, z, K, can⟩, ⟨b2, A2, n2, c2, z2, K2, can2⟩]) (h0 : z2 ≠ 0) (hr : z.tmod z2 = 0) (hK : K + K2 ≤ 274877906930) :
    Calls Tryd.prog 24 #[.agg #[.bool b, .slice A n c], .agg #[.bool b2, .slice A2 n2 c2]] w (Gives w fun v w' => ∃ qv rv, v = .tuple #[qv, rv, .bool true] ∧ NumRes w (floQ z z2) (K + K2 + 4) true qv w' ∧ NumRes w (floR z z2) (K + K2 + 4) true rv w') := by
  have HT := As.mk (show TQ z z2 (z.tdiv z2) (z.tmod z2) true from .inr ⟨h0, rfl, rfl, rfl⟩)
  have HV : As (floQ z z2 = z.tdiv z2 ∧ floR z z2 = z.tmod z2) := ⟨by simp [floQ, floR, flo, hr]⟩
  rw [HV.out.1, HV.out.2]
  have Hr := As.mk hr
  clear h0 hr
  go_enter Tryd.func24, Tryd.ntmps24
  go_wp2_with (first
    | ((with_reducible refine g_dst 2 ?_); go_must (refine ev_box 2 rfl (cs := [.bool b, .slice A n c]) (by rfl) ?_); intro g2 wn hb2 B2 hg2; have hb := hb2)
    | ((with_reducible refine g_dst 3 ?_); go_must (refine ev_box 3 rfl (cs := [.bool b2, .slice A2 n2 c2]) (by rfl) ?_); intro g3 wn hb3 B3 hgn; have hneb3_2 : g3 ≠ g2 := (fun e => by (have h1 := B2.lt; omega)); have hg3 := Nat.le_trans hb.size hgn; replace B2 := B2.below hb3; replace hb := bthen hb hb3)
    | ((with_reducible refine g_dst 4 ?_); go_must (refine ev_alloc 4 rfl infoNum (cs := [.bool false, .slice none 0 0]) rfl ?_); intro g4 wn hb4 B4 hgn; have hneb4_2 : g4 ≠ g2 := (fun e => by (have h1 := B2.lt; omega)); have hneb4_3 : g4 ≠ g3 := (fun e => by (have h1 := B3.lt; omega)); have hg4 := Nat.le_trans hb.size hgn; replace B2 := B2.below hb4; replace B3 := B3.below hb4; replace hb := bthen hb hb4)
    | ((with_reducible refine g_dst 5 ?_); go_must (refine ev_alloc 5 rfl infoNum (cs := [.bool false, .slice none 0 0]) rfl ?_); intro g5 wn hb5 B5 hgn; have hneb5_2 : g5 ≠ g2 := (fun e => by (have h1 := B2.lt; omega)); have hneb5_3 : g5 ≠ g3 := (fun e => by (have h1 := B3.lt; omega)); have hneb5_4 : g5 ≠ g4 := (fun e => by (have h1 := B4.lt; omega)); have hg5 := Nat.le_trans hb.size hgn; replace B2 := B2.below hb5; replace B3 := B3.below hb5; replace B4 := B4.below hb5; replace hb := bthen hb hb5; have C2 := B2.cells; have C3 := B3.cells)
    | (go_at_call 22; (with_reducible refine (rtruncF (F0.below hb) (by repeat (first | exact List.mem_cons_self .. | apply List.mem_cons_of_mem)) (by repeat (first | exact List.mem_cons_self .. | apply List.mem_cons_of_mem)) HT.out (by omega) (by omega)).mono ?_); rintro e wn ⟨vn, rfl, ⟨qv, rv, rfl, ⟨b10, A10, n10, c10, rfl, o10, f10⟩, ⟨b11, A11, n11, c11, rfl, o11, f11⟩⟩, hbn⟩; clear C2 C3; have p10 : ∀ k ∈ addrBlock A10, w.heap.size ≤ k := (fun k hk => Nat.le_trans hb.size (f10 k hk).1); have p11 : ∀ k ∈ addrBlock A11, w.heap.size ≤ k := (fun k hk => Nat.le_trans hb.size (f11 k hk).1); have hne10_4 : ∀ k ∈ addrBlock A10, k ≠ g4 := (fun k hk e => by (have h1 := (f10 k hk).1; have h2 := B4.lt; omega)); have hne10_5 : ∀ k ∈ addrBlock A10, k ≠ g5 := (fun k hk e => by (have h1 := (f10 k hk).1; have h2 := B5.lt; omega)); have hne11_4 : ∀ k ∈ addrBlock A11, k ≠ g4 := (fun k hk e => by (have h1 := (f11 k hk).1; have h2 := B4.lt; omega)); have hne11_5 : ∀ k ∈ addrBlock A11, k ≠ g5 := (fun k hk e => by (have h1 := (f11 k hk).1; have h2 := B5.lt; omega)); replace B2 := B2.below hbn; replace B3 := B3.below hbn; replace B4 := B4.below hbn; replace B5 := B5.below hbn; replace hb := bthen hb hbn; clear hbn)
    | ((with_reducible refine g_dst 7 ?_); go_must (refine ev_alloc 7 rfl infoNum (cs := [.bool false, .slice none 0 0]) rfl ?_); intro g7 wn hb7 B7 hgn; have hneb7_2 : g7 ≠ g2 := (fun e => by (have h1 := B2.lt; omega)); have hneb7_3 : g7 ≠ g3 := (fun e => by (have h1 := B3.lt; omega)); have hneb7_4 : g7 ≠ g4 := (fun e => by (have h1 := B4.lt; omega)); have hneb7_5 : g7 ≠ g5 := (fun e => by (have h1 := B5.lt; omega)); have hne10_7 : ∀ k ∈ addrBlock A10, k ≠ g7 := (fun k hk e => by (have h1 := (f10 k hk).2; omega)); have hne11_7 : ∀ k ∈ addrBlock A11, k ≠ g7 := (fun k hk e => by (have h1 := (f11 k hk).2; omega)); replace f10 := (fun k hk => Nat.lt_of_lt_of_le (f10 k hk).2 hb7.size); replace f11 := (fun k hk => Nat.lt_of_lt_of_le (f11 k hk).2 hb7.size); have hg7 := Nat.le_trans hb.size hgn; replace B2 := B2.below hb7; replace B3 := B3.below hb7; replace B4 := B4.below hb7; replace B5 := B5.below hb7; replace o10 := o10.below hb7; replace o11 := o11.below hb7; replace hb := bthen hb hb7)
    | ((with_reducible refine g_dst 8 ?_); go_must (refine ev_alloc 8 rfl infoNum (cs := [.bool false, .slice none 0 0]) rfl ?_); intro g8 wn hb8 B8 hgn; have hneb8_2 : g8 ≠ g2 := (fun e => by (have h1 := B2.lt; omega)); have hneb8_3 : g8 ≠ g3 := (fun e => by (have h1 := B3.lt; omega)); have hneb8_4 : g8 ≠ g4 := (fun e => by (have h1 := B4.lt; omega)); have hneb8_5 : g8 ≠ g5 := (fun e => by (have h1 := B5.lt; omega)); have hneb8_7 : g8 ≠ g7 := (fun e => by (have h1 := B7.lt; omega)); have hne10_8 : ∀ k ∈ addrBlock A10, k ≠ g8 := (fun k hk e => by (have h1 := f10 k hk; omega)); have hne11_8 : ∀ k ∈ addrBlock A11, k ≠ g8 := (fun k hk e => by (have h1 := f11 k hk; omega)); replace f10 := (fun k hk => Nat.lt_of_lt_of_le (f10 k hk) hb8.size); replace f11 := (fun k hk => Nat.lt_of_lt_of_le (f11 k hk) hb8.size); have hg8 := Nat.le_trans hb.size hgn; replace B2 := B2.below hb8; replace B3 := B3.below hb8; replace B4 := B4.below hb8; replace B5 := B5.below hb8; replace B7 := B7.below hb8; replace o10 := o10.below hb8; replace o11 := o11.below hb8; replace hb := bthen hb hb8)
    | ((with_reducible refine g_store 7 ?_); go_must (refine ev_store rfl rfl B7 (news := [.bool b10, .slice A10 n10 c10]) (by rfl) infoNum (by simp) (by simp [Value.oneCell']) ?_); intro wn hon Bn; simp only [List.take_zero, List.nil_append, List.length_cons, List.length_nil, List.drop_succ_cons, List.drop_zero, List.append_nil, List.cons_append] at Bn; replace B2 := B2.only hon (Ne.symm hneb7_2); replace B3 := B3.only hon (Ne.symm hneb7_3); replace B4 := B4.only hon (Ne.symm hneb7_4); replace B5 := B5.only hon (Ne.symm hneb7_5); replace B8 := B8.only hon hneb8_7; replace B7 := Bn; clear Bn; replace o10 := o10.only hon hne10_7; replace o11 := o11.only hon hne11_7; replace hb := hb.trans (hon.below hg7); replace f10 := (fun k hk => Nat.lt_of_lt_of_eq (f10 k hk) hon.size.symm); replace f11 := (fun k hk => Nat.lt_of_lt_of_eq (f11 k hk) hon.size.symm); clear hon)
    | ((with_reducible refine g_store 8 ?_); go_must (refine ev_store rfl rfl B8 (news := [.bool b11, .slice A11 n11 c11]) (by rfl) infoNum (by simp) (by simp [Value.oneCell']) ?_); intro wn hon Bn; simp only [List.take_zero, List.nil_append, List.length_cons, List.length_nil, List.drop_succ_cons, List.drop_zero, List.append_nil, List.cons_append] at Bn; replace B2 := B2.only hon (Ne.symm hneb8_2); replace B3 := B3.only hon (Ne.symm hneb8_3); replace B4 := B4.only hon (Ne.symm hneb8_4); replace B5 := B5.only hon (Ne.symm hneb8_5); replace B7 := B7.only hon (Ne.symm hneb8_7); replace B8 := Bn; clear Bn; replace o10 := o10.only hon hne10_8; replace o11 := o11.only hon hne11_8; replace hb := hb.trans (hon.below hg8); replace f10 := (fun k hk => Nat.lt_of_lt_of_eq (f10 k hk) hon.size.symm); replace f11 := (fun k hk => Nat.lt_of_lt_of_eq (f11 k hk) hon.size.symm); clear hon))
  have hge10 := p10
  have hge11 := p11
  clear p10 p11
  obtain rfl : n11 = 0 := by
    obtain ⟨l, h1, _, _, h4⟩ := o11.ex
    have h5 := (h4 rfl).2
    simp only at h1 h5
    rw [Hr.out, show (0 : Int).natAbs = 0 from rfl, digB_zero] at h5
    rw [← h1, h5]; rfl
  have hd := (Below.refl wn.heap.size wn).drew
  replace B2 := B2.below hd
  replace B3 := B3.below hd
  replace B4 := B4.below hd
  replace B5 := B5.below hd
  replace B7 := B7.below hd
  replace B8 := B8.below hd
  have hcur := bthen hb hd
  have F := ((F0.below hcur).cons (o11.below hd)).cons (o10.below hd)
  have hfr10 : ∀ k ∈ addrBlock A10, k < _ := (fun k hk => Nat.lt_of_lt_of_le (f10 k hk) hd.size)
  have hfr11 : ∀ k ∈ addrBlock A11, k < _ := (fun k hk => Nat.lt_of_lt_of_le (f11 k hk) hd.size)
  clear f10 f11
  refine wp_gen2 (fun Q7 hQ7 => ?_)
  refine wp_region_held_drew (S := fun W => Below w.heap.size w W ∧ Blk W g2 [.bool b, .slice A n c] 26 ∧ Blk W g3 [.bool b2, .slice A2 n2 c2] 26 ∧ Blk W g7 [.bool b10, .slice A10 n10 c10] 26 ∧ Blk W g8 [.bool b11, .slice A11 0 c11] 26) (by kernel_rfl) ⟨hcur, B2, B3, B7, B8⟩ (fun hHeld => ?_)
  clear hHeld hd
  generalize wn.drew = wv at *
  refine wpAnyH_take (i := 0) (oi := _) (v := .bool true) rfl (by kernel_rfl) (by kernel_rfl) (by kernel_rfl) (fun _ _ _ h => h) (Or.inl ⟨by kernel_rfl, fun W hSw => by ((try dsimp only at hSw); go_simp; (try (with_reducible rfl)))⟩) ⟨hcur, B2, B3, B7, B8⟩ ?_
  (try simp (config := {maxSteps := 2000000}) only [Act.put, List.setIfInBounds_toArray, List.set_cons_zero, List.set_cons_succ, List.getElem_toArray, List.getElem_cons_zero, List.getElem_cons_succ])
  refine wpAnyH_take (i := 1) (oi := _) (v := .bool true) rfl (by kernel_rfl) (by kernel_rfl) (by kernel_rfl) (fun _ _ _ h => h) (Or.inl ⟨by kernel_rfl, fun W hSw => by ((try dsimp only at hSw); go_simp; (try (with_reducible rfl)))⟩) ⟨hcur, B2, B3, B7, B8⟩ ?_
  (try simp (config := {maxSteps := 2000000}) only [Act.put, List.setIfInBounds_toArray, List.set_cons_zero, List.set_cons_succ, List.getElem_toArray, List.getElem_cons_zero, List.getElem_cons_succ])
  refine wpAnyH_take (i := 2) (oi := _) (v := .pointer (some ⟨g8, 1, none⟩)) rfl (by kernel_rfl) (by kernel_rfl) (by kernel_rfl) (fun _ _ _ h => h) (Or.inl ⟨by kernel_rfl, fun W hSw => by ((try dsimp only at hSw); go_simp; (try (with_reducible rfl)))⟩) ⟨hcur, B2, B3, B7, B8⟩ ?_
  (try simp (config := {maxSteps := 2000000}) only [Act.put, List.setIfInBounds_toArray, List.set_cons_zero, List.set_cons_succ, List.getElem_toArray, List.getElem_cons_zero, List.getElem_cons_succ])
  refine wpAnyH_take (i := 3) (oi := _) (v := .slice A11 0 c11) rfl (by kernel_rfl) (by kernel_rfl) (by kernel_rfl) (fun _ _ _ h => h) (Or.inl ⟨by kernel_rfl, fun W hSw => by have Cb := hSw.2.2.2.2.cells; ((try dsimp only at hSw); go_simp; (try (with_reducible rfl)))⟩) ⟨hcur, B2, B3, B7, B8⟩ ?_
  (try simp (config := {maxSteps := 2000000}) only [Act.put, List.setIfInBounds_toArray, List.set_cons_zero, List.set_cons_succ, List.getElem_toArray, List.getElem_cons_zero, List.getElem_cons_succ])
  refine wpAnyH_take (i := 4) (oi := _) (v := .int .i64 (0)) rfl (by kernel_rfl) (by kernel_rfl) (by kernel_rfl) (fun _ _ _ h => h) (Or.inl ⟨by kernel_rfl, fun W hSw => by ((try dsimp only at hSw); go_simp; (try (with_reducible rfl)))⟩) ⟨hcur, B2, B3, B7, B8⟩ ?_
  (try simp (config := {maxSteps := 2000000}) only [Act.put, List.setIfInBounds_toArray, List.set_cons_zero, List.set_cons_succ, List.getElem_toArray, List.getElem_cons_zero, List.getElem_cons_succ])
  refine wpAnyH_take (i := 5) (oi := _) (v := .bool false) rfl (by kernel_rfl) (by kernel_rfl) (by kernel_rfl) (fun _ _ _ h => h) (Or.inl ⟨by kernel_rfl, fun W hSw => by ((try dsimp only at hSw); go_simp; (try (with_reducible rfl)))⟩) ⟨hcur, B2, B3, B7, B8⟩ ?_
  (try simp (config := {maxSteps := 2000000}) only [Act.put, List.setIfInBounds_toArray, List.set_cons_zero, List.set_cons_succ, List.getElem_toArray, List.getElem_cons_zero, List.getElem_cons_succ])
  refine wpAnyH_take (i := 6) (oi := _) (v := .bool false) rfl (by kernel_rfl) (by kernel_rfl) (by kernel_rfl) (fun _ _ _ h => h) (Or.inl ⟨by kernel_rfl, fun W hSw => by ((try dsimp only at hSw); go_simp; (try (with_reducible rfl)))⟩) ⟨hcur, B2, B3, B7, B8⟩ ?_
  (try simp (config := {maxSteps := 2000000}) only [Act.put, List.setIfInBounds_toArray, List.set_cons_zero, List.set_cons_succ, List.getElem_toArray, List.getElem_cons_zero, List.getElem_cons_succ])
  refine wpAnyH_take (i := 7) (oi := _) (v := .bool false) rfl (by kernel_rfl) (by kernel_rfl) (by kernel_rfl) (fun _ _ _ h => h) (Or.inl ⟨by kernel_rfl, fun W hSw => by ((try dsimp only at hSw); go_simp; (try (with_reducible rfl)))⟩) ⟨hcur, B2, B3, B7, B8⟩ ?_
  (try simp (config := {maxSteps := 2000000}) only [Act.put, List.setIfInBounds_toArray, List.set_cons_zero, List.set_cons_succ, List.getElem_toArray, List.getElem_cons_zero, List.getElem_cons_succ])
  refine wpAnyH_take (i := 8) (oi := _) (v := undef) rfl (by kernel_rfl) (by kernel_rfl) (by kernel_rfl) (fun _ _ _ h => h) (Or.inr ⟨by kernel_rfl, rfl⟩) ⟨hcur, B2, B3, B7, B8⟩ ?_
  (try simp (config := {maxSteps := 2000000}) only [Act.put, List.setIfInBounds_toArray, List.set_cons_zero, List.set_cons_succ, List.getElem_toArray, List.getElem_cons_zero, List.getElem_cons_succ])
  refine wpAnyH_take (i := 9) (oi := _) (v := undef) rfl (by kernel_rfl) (by kernel_rfl) (by kernel_rfl) (fun _ _ _ h => h) (Or.inr ⟨by kernel_rfl, rfl⟩) ⟨hcur, B2, B3, B7, B8⟩ ?_
  (try simp (config := {maxSteps := 2000000}) only [Act.put, List.setIfInBounds_toArray, List.set_cons_zero, List.set_cons_succ, List.getElem_toArray, List.getElem_cons_zero, List.getElem_cons_succ])
  refine wpAnyH_take (i := 10) (oi := _) (v := undef) rfl (by kernel_rfl) (by kernel_rfl) (by kernel_rfl) (fun _ _ _ h => h) (Or.inr ⟨by kernel_rfl, rfl⟩) ⟨hcur, B2, B3, B7, B8⟩ ?_
  (try simp (config := {maxSteps := 2000000}) only [Act.put, List.setIfInBounds_toArray, List.set_cons_zero, List.set_cons_succ, List.getElem_toArray, List.getElem_cons_zero, List.getElem_cons_succ])
  refine wpAnyH_take (i := 11) (oi := _) (v := undef) rfl (by kernel_rfl) (by kernel_rfl) (by kernel_rfl) (fun _ _ _ h => h) (Or.inr ⟨by kernel_rfl, rfl⟩) ⟨hcur, B2, B3, B7, B8⟩ ?_
  (try simp (config := {maxSteps := 2000000}) only [Act.put, List.setIfInBounds_toArray, List.set_cons_zero, List.set_cons_succ, List.getElem_toArray, List.getElem_cons_zero, List.getElem_cons_succ])
  refine wpAnyH_take (i := 12) (oi := _) (v := undef) rfl (by kernel_rfl) (by kernel_rfl) (by kernel_rfl) (fun _ _ _ h => h) (Or.inr ⟨by kernel_rfl, rfl⟩) ⟨hcur, B2, B3, B7, B8⟩ ?_
  (try simp (config := {maxSteps := 2000000}) only [Act.put, List.setIfInBounds_toArray, List.set_cons_zero, List.set_cons_succ, List.getElem_toArray, List.getElem_cons_zero, List.getElem_cons_succ])
  refine wpAnyH_take (i := 13) (oi := _) (v := undef) rfl (by kernel_rfl) (by kernel_rfl) (by kernel_rfl) (fun _ _ _ h => h) (Or.inr ⟨by kernel_rfl, rfl⟩) ⟨hcur, B2, B3, B7, B8⟩ ?_
  (try simp (config := {maxSteps := 2000000}) only [Act.put, List.setIfInBounds_toArray, List.set_cons_zero, List.set_cons_succ, List.getElem_toArray, List.getElem_cons_zero, List.getElem_cons_succ])
  refine wpAnyH_take (i := 14) (oi := _) (v := .bool false) rfl (by kernel_rfl) (by kernel_rfl) (by kernel_rfl) (fun _ _ _ h => h) (Or.inl ⟨by kernel_rfl, fun W hSw => by ((try dsimp only at hSw); go_simp; (try (with_reducible rfl)))⟩) ⟨hcur, B2, B3, B7, B8⟩ ?_
  (try simp (config := {maxSteps := 2000000}) only [Act.put, List.setIfInBounds_toArray, List.set_cons_zero, List.set_cons_succ, List.getElem_toArray, List.getElem_cons_zero, List.getElem_cons_succ])
  refine wpAnyH_done (by kernel_rfl) ?_ _
  refine NoPanic.normal ?_
  obtain ⟨rfl⟩ := hQ7
  (go_wp2_with fail)
  have hd := (Below.refl wv.heap.size wv).drew
  replace B2 := B2.below hd
  replace B3 := B3.below hd
  replace B4 := B4.below hd
  replace B5 := B5.below hd
  replace B7 := B7.below hd
  replace B8 := B8.below hd
  replace hcur := bthen hcur hd
  replace F := F.below hd
  replace hfr10 : ∀ k ∈ addrBlock A10, k < _ := (fun k hk => Nat.lt_of_lt_of_le (hfr10 k hk) hd.size)
  replace hfr11 : ∀ k ∈ addrBlock A11, k < _ := (fun k hk => Nat.lt_of_lt_of_le (hfr11 k hk) hd.size)
  clear hd
  refine wp_gen2 (fun Q7 hQ7 => ?_)
  refine wp_region_held_drew (S := fun W => Below w.heap.size w W ∧ Blk W g2 [.bool b, .slice A n c] 26 ∧ Blk W g3 [.bool b2, .slice A2 n2 c2] 26 ∧ Blk W g7 [.bool b10, .slice A10 n10 c10] 26 ∧ Blk W g8 [.bool b11, .slice A11 0 c11] 26) (by kernel_rfl) ⟨hcur, B2, B3, B7, B8⟩ (fun hHeld => ?_)
  clear hHeld
  refine wpAnyH_take (i := 0) (oi := _) (v := .agg #[.bool b10, .slice A10 n10 c10]) rfl (by kernel_rfl) (by kernel_rfl) (by kernel_rfl) (fun _ _ _ h => h) (Or.inl ⟨by kernel_rfl, fun W hSw => by have Cb := hSw.2.2.2.1.cells; ((try dsimp only at hSw); go_simp; (try (with_reducible rfl)))⟩) ⟨hcur, B2, B3, B7, B8⟩ ?_
  (try simp (config := {maxSteps := 2000000}) only [Act.put, List.setIfInBounds_toArray, List.set_cons_zero, List.set_cons_succ, List.getElem_toArray, List.getElem_cons_zero, List.getElem_cons_succ])
  refine wpAnyH_take (i := 1) (oi := _) (v := .agg #[.bool b11, .slice A11 0 c11]) rfl (by kernel_rfl) (by kernel_rfl) (by kernel_rfl) (fun _ _ _ h => h) (Or.inl ⟨by kernel_rfl, fun W hSw => by have Cb := hSw.2.2.2.2.cells; ((try dsimp only at hSw); go_simp; (try (with_reducible rfl)))⟩) ⟨hcur, B2, B3, B7, B8⟩ ?_
  (try simp (config := {maxSteps := 2000000}) only [Act.put, List.setIfInBounds_toArray, List.set_cons_zero, List.set_cons_succ, List.getElem_toArray, List.getElem_cons_zero, List.getElem_cons_succ])
  refine wpAnyH_take (i := 2) (oi := _) (v := .bool true) rfl (by kernel_rfl) (by kernel_rfl) (by kernel_rfl) (fun _ _ _ h => h) (Or.inl ⟨by kernel_rfl, fun W hSw => by ((try dsimp only at hSw); go_simp; (try (with_reducible rfl)))⟩) ⟨hcur, B2, B3, B7, B8⟩ ?_
  (try simp (config := {maxSteps := 2000000}) only [Act.put, List.setIfInBounds_toArray, List.set_cons_zero, List.set_cons_succ, List.getElem_toArray, List.getElem_cons_zero, List.getElem_cons_succ])
  refine wpAnyH_ready (rs := [3]) (by kernel_rfl) (by simp) ?_
  refine AllReadyH.cons (o := _) rfl (fun K hK => ?_) AllReadyH.nil
  refine st_store rfl rfl B4 (news := [.bool b10, .slice A10 n10 c10]) (by rfl) infoNum (by simp) (by simp [Value.oneCell']) ?_; intro wn hon Bx; simp only [List.take_zero, List.nil_append, List.length_cons, List.length_nil, List.drop_succ_cons, List.drop_zero, List.append_nil, List.cons_append] at Bx; replace B4 := Bx; clear Bx; replace B2 := B2.only hon (Ne.symm hneb4_2); replace B3 := B3.only hon (Ne.symm hneb4_3); replace B5 := B5.only hon hneb5_4; replace B7 := B7.only hon hneb7_4; replace B8 := B8.only hon hneb8_4; have oo4 : NR.Ok _ _ := (F.out _ (show (⟨b10, A10, n10, c10, _, _, _⟩ : NR) ∈ _ from (by repeat (first | exact List.mem_cons_self .. | apply List.mem_cons_of_mem)))).only hon hne10_4; have F1 := F; clear F; have F := F0.below (hcur.trans (hon.below hg4)); replace F := F.cons ((F1.out _ (show (⟨b11, A11, 0, c11, _, _, _⟩ : NR) ∈ _ from (by repeat (first | exact List.mem_cons_self .. | apply List.mem_cons_of_mem)))).only hon hne11_4); replace hfr10 : ∀ k ∈ addrBlock A10, k < _ := (fun k hk => Nat.lt_of_lt_of_eq (hfr10 k hk) hon.size.symm); replace hfr11 : ∀ k ∈ addrBlock A11, k < _ := (fun k hk => Nat.lt_of_lt_of_eq (hfr11 k hk) hon.size.symm); clear F1; replace hcur := hcur.trans (hon.below hg4); clear hon
  refine hK.out _ _ ⟨hcur, B2, B3, B7, B8⟩ (fun hHeld => ?_)
  clear hK K hHeld
  (try simp (config := {maxSteps := 2000000}) only [Act.put, List.setIfInBounds_toArray, List.set_cons_zero, List.set_cons_succ, List.getElem_toArray, List.getElem_cons_zero, List.getElem_cons_succ])
  refine wpAnyH_ready (rs := [4]) (by kernel_rfl) (by simp) ?_
  refine AllReadyH.cons (o := _) rfl (fun K hK => ?_) AllReadyH.nil
  refine st_store rfl rfl B5 (news := [.bool b11, .slice A11 0 c11]) (by rfl) infoNum (by simp) (by simp [Value.oneCell']) ?_; intro wn hon Bx; simp only [List.take_zero, List.nil_append, List.length_cons, List.length_nil, List.drop_succ_cons, List.drop_zero, List.append_nil, List.cons_append] at Bx; replace B5 := Bx; clear Bx; replace B2 := B2.only hon (Ne.symm hneb5_2); replace B3 := B3.only hon (Ne.symm hneb5_3); replace B4 := B4.only hon (Ne.symm hneb5_4); replace B7 := B7.only hon hneb7_5; replace B8 := B8.only hon hneb8_5; have oo5 : NR.Ok _ _ := (F.out _ (show (⟨b11, A11, 0, c11, _, _, _⟩ : NR) ∈ _ from (by repeat (first | exact List.mem_cons_self .. | apply List.mem_cons_of_mem)))).only hon hne11_5; replace oo4 := oo4.only hon hne10_5; have F1 := F; clear F; have F := F0.below (hcur.trans (hon.below hg5)); replace hfr10 : ∀ k ∈ addrBlock A10, k < _ := (fun k hk => Nat.lt_of_lt_of_eq (hfr10 k hk) hon.size.symm); replace hfr11 : ∀ k ∈ addrBlock A11, k < _ := (fun k hk => Nat.lt_of_lt_of_eq (hfr11 k hk) hon.size.symm); clear F1; replace hcur := hcur.trans (hon.below hg5); clear hon
  refine hK.out _ _ ⟨hcur, B2, B3, B7, B8⟩ (fun hHeld => ?_)
  clear hK K hHeld
  (try simp (config := {maxSteps := 2000000}) only [Act.put, List.setIfInBounds_toArray, List.set_cons_zero, List.set_cons_succ, List.getElem_toArray, List.getElem_cons_zero, List.getElem_cons_succ])
  refine wpAnyH_ready (rs := [5]) (by kernel_rfl) (by simp) ?_
  refine AllReadyH.cons (o := _) rfl (fun K hK => ?_) AllReadyH.nil
  go_simp
  refine hK.out _ _ ⟨hcur, B2, B3, B7, B8⟩ (fun hHeld => ?_)
  clear hK K hHeld
  (try simp (config := {maxSteps := 2000000}) only [Act.put, List.setIfInBounds_toArray, List.set_cons_zero, List.set_cons_succ, List.getElem_toArray, List.getElem_cons_zero, List.getElem_cons_succ])
  refine wpAnyH_done (by kernel_rfl) ?_ _
  refine NoPanic.normal ?_
  obtain ⟨rfl⟩ := hQ7
  (go_wp2_with fail)
  refine bodyPost_ret (results_cct rfl _ _ g4 g5 26 26 #[.bool b10, .slice A10 n10 c10] #[.bool b11, .slice A11 0 c11] (0, 0) (0, 0) _ rfl rfl B4.h B5.h Tryd.underlying26 rfl (by kernel_rfl) (by kernel_rfl)) rfl ?_
  exact ⟨_, rfl, ⟨_, _, rfl, ⟨_, _, _, _, rfl, ⟨oo4.ex, Nat.le_trans oo4.le (by simp only; omega)⟩, fun k hk => ⟨hge10 k hk, hfr10 k hk⟩⟩, ⟨_, _, _, _, rfl, ⟨oo5.ex, Nat.le_trans oo5.le (by simp only; omega)⟩, fun k hk => ⟨hge11 k hk, hfr11 k hk⟩⟩⟩, hcur⟩
set_option maxRecDepth 8000 in
set_option maxHeartbeats 8000000 in
theorem rfloorS_go (F0 : Fs w [⟨b, A, n, c, z, K, can⟩, ⟨b2, A2, n2, c2, z2, K2, can2⟩]) (h0 : z2 ≠ 0) (hr : z.tmod z2 ≠ 0) (hs : decide (z2 < 0) = decide (z.tmod z2 < 0)) (hK : K + K2 ≤ 274877906930) :
    Calls Tryd.prog 24 #[.agg #[.bool b, .slice A n c], .agg #[.bool b2, .slice A2 n2 c2]] w (Gives w fun v w' => ∃ qv rv, v = .tuple #[qv, rv, .bool true] ∧ NumRes w (floQ z z2) (K + K2 + 4) true qv w' ∧ NumRes w (floR z z2) (K + K2 + 4) true rv w') := by
  have HT := As.mk (show TQ z z2 (z.tdiv z2) (z.tmod z2) true from .inr ⟨h0, rfl, rfl, rfl⟩)
  have HV : As (floQ z z2 = z.tdiv z2 ∧ floR z z2 = z.tmod z2) := ⟨by simp [floQ, floR, flo, hs]⟩
  rw [HV.out.1, HV.out.2]
  have Hr := As.mk hr
  have Hs := As.mk hs
  clear h0 hr hs
  go_enter Tryd.func24, Tryd.ntmps24
  go_wp2_with (first
    | ((with_reducible refine g_dst 2 ?_); go_must (refine ev_box 2 rfl (cs := [.bool b, .slice A n c]) (by rfl) ?_); intro g2 wn hb2 B2 hg2; have hb := hb2)
    | ((with_reducible refine g_dst 3 ?_); go_must (refine ev_box 3 rfl (cs := [.bool b2, .slice A2 n2 c2]) (by rfl) ?_); intro g3 wn hb3 B3 hgn; have hneb3_2 : g3 ≠ g2 := (fun e => by (have h1 := B2.lt; omega)); have hg3 := Nat.le_trans hb.size hgn; replace B2 := B2.below hb3; replace hb := bthen hb hb3)
    | ((with_reducible refine g_dst 4 ?_); go_must (refine ev_alloc 4 rfl infoNum (cs := [.bool false, .slice none 0 0]) rfl ?_); intro g4 wn hb4 B4 hgn; have hneb4_2 : g4 ≠ g2 := (fun e => by (have h1 := B2.lt; omega)); have hneb4_3 : g4 ≠ g3 := (fun e => by (have h1 := B3.lt; omega)); have hg4 := Nat.le_trans hb.size hgn; replace B2 := B2.below hb4; replace B3 := B3.below hb4; replace hb := bthen hb hb4)
    | ((with_reducible refine g_dst 5 ?_); go_must (refine ev_alloc 5 rfl infoNum (cs := [.bool false, .slice none 0 0]) rfl ?_); intro g5 wn hb5 B5 hgn; have hneb5_2 : g5 ≠ g2 := (fun e => by (have h1 := B2.lt; omega)); have hneb5_3 : g5 ≠ g3 := (fun e => by (have h1 := B3.lt; omega)); have hneb5_4 : g5 ≠ g4 := (fun e => by (have h1 := B4.lt; omega)); have hg5 := Nat.le_trans hb.size hgn; replace B2 := B2.below hb5; replace B3 := B3.below hb5; replace B4 := B4.below hb5; replace hb := bthen hb hb5; have C2 := B2.cells; have C3 := B3.cells)
    | (go_at_call 22; (with_reducible refine (rtruncF (F0.below hb) (by repeat (first | exact List.mem_cons_self .. | apply List.mem_cons_of_mem)) (by repeat (first | exact List.mem_cons_self .. | apply List.mem_cons_of_mem)) HT.out (by omega) (by omega)).mono ?_); rintro e wn ⟨vn, rfl, ⟨qv, rv, rfl, ⟨b10, A10, n10, c10, rfl, o10, f10⟩, ⟨b11, A11, n11, c11, rfl, o11, f11⟩⟩, hbn⟩; clear C2 C3; have p10 : ∀ k ∈ addrBlock A10, w.heap.size ≤ k := (fun k hk => Nat.le_trans hb.size (f10 k hk).1); have p11 : ∀ k ∈ addrBlock A11, w.heap.size ≤ k := (fun k hk => Nat.le_trans hb.size (f11 k hk).1); have hne10_4 : ∀ k ∈ addrBlock A10, k ≠ g4 := (fun k hk e => by (have h1 := (f10 k hk).1; have h2 := B4.lt; omega)); have hne10_5 : ∀ k ∈ addrBlock A10, k ≠ g5 := (fun k hk e => by (have h1 := (f10 k hk).1; have h2 := B5.lt; omega)); have hne11_4 : ∀ k ∈ addrBlock A11, k ≠ g4 := (fun k hk e => by (have h1 := (f11 k hk).1; have h2 := B4.lt; omega)); have hne11_5 : ∀ k ∈ addrBlock A11, k ≠ g5 := (fun k hk e => by (have h1 := (f11 k hk).1; have h2 := B5.lt; omega)); replace B2 := B2.below hbn; replace B3 := B3.below hbn; replace B4 := B4.below hbn; replace B5 := B5.below hbn; replace hb := bthen hb hbn; clear hbn)
    | ((with_reducible refine g_dst 7 ?_); go_must (refine ev_alloc 7 rfl infoNum (cs := [.bool false, .slice none 0 0]) rfl ?_); intro g7 wn hb7 B7 hgn; have hneb7_2 : g7 ≠ g2 := (fun e => by (have h1 := B2.lt; omega)); have hneb7_3 : g7 ≠ g3 := (fun e => by (have h1 := B3.lt; omega)); have hneb7_4 : g7 ≠ g4 := (fun e => by (have h1 := B4.lt; omega)); have hneb7_5 : g7 ≠ g5 := (fun e => by (have h1 := B5.lt; omega)); have hne10_7 : ∀ k ∈ addrBlock A10, k ≠ g7 := (fun k hk e => by (have h1 := (f10 k hk).2; omega)); have hne11_7 : ∀ k ∈ addrBlock A11, k ≠ g7 := (fun k hk e => by (have h1 := (f11 k hk).2; omega)); replace f10 := (fun k hk => Nat.lt_of_lt_of_le (f10 k hk).2 hb7.size); replace f11 := (fun k hk => Nat.lt_of_lt_of_le (f11 k hk).2 hb7.size); have hg7 := Nat.le_trans hb.size hgn; replace B2 := B2.below hb7; replace B3 := B3.below hb7; replace B4 := B4.below hb7; replace B5 := B5.below hb7; replace o10 := o10.below hb7; replace o11 := o11.below hb7; replace hb := bthen hb hb7)
    | ((with_reducible refine g_dst 8 ?_); go_must (refine ev_alloc 8 rfl infoNum (cs := [.bool false, .slice none 0 0]) rfl ?_); intro g8 wn hb8 B8 hgn; have hneb8_2 : g8 ≠ g2 := (fun e => by (have h1 := B2.lt; omega)); have hneb8_3 : g8 ≠ g3 := (fun e => by (have h1 := B3.lt; omega)); have hneb8_4 : g8 ≠ g4 := (fun e => by (have h1 := B4.lt; omega)); have hneb8_5 : g8 ≠ g5 := (fun e => by (have h1 := B5.lt; omega)); have hneb8_7 : g8 ≠ g7 := (fun e => by (have h1 := B7.lt; omega)); have hne10_8 : ∀ k ∈ addrBlock A10, k ≠ g8 := (fun k hk e => by (have h1 := f10 k hk; omega)); have hne11_8 : ∀ k ∈ addrBlock A11, k ≠ g8 := (fun k hk e => by (have h1 := f11 k hk; omega)); replace f10 := (fun k hk => Nat.lt_of_lt_of_le (f10 k hk) hb8.size); replace f11 := (fun k hk => Nat.lt_of_lt_of_le (f11 k hk) hb8.size); have hg8 := Nat.le_trans hb.size hgn; replace B2 := B2.below hb8; replace B3 := B3.below hb8; replace B4 := B4.below hb8; replace B5 := B5.below hb8; replace B7 := B7.below hb8; replace o10 := o10.below hb8; replace o11 := o11.below hb8; replace hb := bthen hb hb8)
    | ((with_reducible refine g_store 7 ?_); go_must (refine ev_store rfl rfl B7 (news := [.bool b10, .slice A10 n10 c10]) (by rfl) infoNum (by simp) (by simp [Value.oneCell']) ?_); intro wn hon Bn; simp only [List.take_zero, List.nil_append, List.length_cons, List.length_nil, List.drop_succ_cons, List.drop_zero, List.append_nil, List.cons_append] at Bn; replace B2 := B2.only hon (Ne.symm hneb7_2); replace B3 := B3.only hon (Ne.symm hneb7_3); replace B4 := B4.only hon (Ne.symm hneb7_4); replace B5 := B5.only hon (Ne.symm hneb7_5); replace B8 := B8.only hon hneb8_7; replace B7 := Bn; clear Bn; replace o10 := o10.only hon hne10_7; replace o11 := o11.only hon hne11_7; replace hb := hb.trans (hon.below hg7); replace f10 := (fun k hk => Nat.lt_of_lt_of_eq (f10 k hk) hon.size.symm); replace f11 := (fun k hk => Nat.lt_of_lt_of_eq (f11 k hk) hon.size.symm); clear hon)
    | ((with_reducible refine g_store 8 ?_); go_must (refine ev_store rfl rfl B8 (news := [.bool b11, .slice A11 n11 c11]) (by rfl) infoNum (by simp) (by simp [Value.oneCell']) ?_); intro wn hon Bn; simp only [List.take_zero, List.nil_append, List.length_cons, List.length_nil, List.drop_succ_cons, List.drop_zero, List.append_nil, List.cons_append] at Bn; replace B2 := B2.only hon (Ne.symm hneb8_2); replace B3 := B3.only hon (Ne.symm hneb8_3); replace B4 := B4.only hon (Ne.symm hneb8_4); replace B5 := B5.only hon (Ne.symm hneb8_5); replace B7 := B7.only hon (Ne.symm hneb8_7); replace B8 := Bn; clear Bn; replace o10 := o10.only hon hne10_8; replace o11 := o11.only hon hne11_8; replace hb := hb.trans (hon.below hg8); replace f10 := (fun k hk => Nat.lt_of_lt_of_eq (f10 k hk) hon.size.symm); replace f11 := (fun k hk => Nat.lt_of_lt_of_eq (f11 k hk) hon.size.symm); clear hon))
  have hge10 := p10
  have hge11 := p11
  clear p10 p11
  obtain ⟨m11, rfl⟩ : ∃ m11, n11 = m11 + 1 := by
    obtain ⟨l, h1, _, h3, _⟩ := o11.ex
    simp only at h1 h3
    rcases l with _ | ⟨x, l⟩
    · exact absurd (by rw [← h3]; cases b11 <;> rfl) Hr.out
    · exact ⟨l.length, h1.symm⟩
  have hp11 : (0 : Int) < ((m11 + 1 : Nat) : Int) := by omega
  have HS : As (decide (z2 < 0) = b11) := ⟨by
    obtain ⟨l, _, _, _, h4⟩ := o11.ex
    have h5 := (h4 rfl).1
    simp only at h5
    rw [h5]; exact Hs.out⟩
  have hd := (Below.refl wn.heap.size wn).drew
  replace B2 := B2.below hd
  replace B3 := B3.below hd
  replace B4 := B4.below hd
  replace B5 := B5.below hd
  replace B7 := B7.below hd
  replace B8 := B8.below hd
  have hcur := bthen hb hd
  have F := ((F0.below hcur).cons (o11.below hd)).cons (o10.below hd)
  have hfr10 : ∀ k ∈ addrBlock A10, k < _ := (fun k hk => Nat.lt_of_lt_of_le (f10 k hk) hd.size)
  have hfr11 : ∀ k ∈ addrBlock A11, k < _ := (fun k hk => Nat.lt_of_lt_of_le (f11 k hk) hd.size)
  clear f10 f11
  refine wp_gen2 (fun Q7 hQ7 => ?_)
  refine wp_region_held_drew (S := fun W => Below w.heap.size w W ∧ Blk W g2 [.bool b, .slice A n c] 26 ∧ Blk W g3 [.bool b2, .slice A2 n2 c2] 26 ∧ Blk W g7 [.bool b10, .slice A10 n10 c10] 26 ∧ Blk W g8 [.bool b11, .slice A11 (m11 + 1) c11] 26) (by kernel_rfl) ⟨hcur, B2, B3, B7, B8⟩ (fun hHeld => ?_)
  clear hHeld hd
  generalize wn.drew = wv at *
  refine wpAnyH_take (i := 0) (oi := _) (v := .bool true) rfl (by kernel_rfl) (by kernel_rfl) (by kernel_rfl) (fun _ _ _ h => h) (Or.inl ⟨by kernel_rfl, fun W hSw => by ((try dsimp only at hSw); go_simp; (try (with_reducible rfl)))⟩) ⟨hcur, B2, B3, B7, B8⟩ ?_
  (try simp (config := {maxSteps := 2000000}) only [Act.put, List.setIfInBounds_toArray, List.set_cons_zero, List.set_cons_succ, List.getElem_toArray, List.getElem_cons_zero, List.getElem_cons_succ])
  refine wpAnyH_take (i := 1) (oi := _) (v := .bool true) rfl (by kernel_rfl) (by kernel_rfl) (by kernel_rfl) (fun _ _ _ h => h) (Or.inl ⟨by kernel_rfl, fun W hSw => by ((try dsimp only at hSw); go_simp; (try (with_reducible rfl)))⟩) ⟨hcur, B2, B3, B7, B8⟩ ?_
  (try simp (config := {maxSteps := 2000000}) only [Act.put, List.setIfInBounds_toArray, List.set_cons_zero, List.set_cons_succ, List.getElem_toArray, List.getElem_cons_zero, List.getElem_cons_succ])
  refine wpAnyH_take (i := 2) (oi := _) (v := .pointer (some ⟨g8, 1, none⟩)) rfl (by kernel_rfl) (by kernel_rfl) (by kernel_rfl) (fun _ _ _ h => h) (Or.inl ⟨by kernel_rfl, fun W hSw => by ((try dsimp only at hSw); go_simp; (try (with_reducible rfl)))⟩) ⟨hcur, B2, B3, B7, B8⟩ ?_
  (try simp (config := {maxSteps := 2000000}) only [Act.put, List.setIfInBounds_toArray, List.set_cons_zero, List.set_cons_succ, List.getElem_toArray, List.getElem_cons_zero, List.getElem_cons_succ])
  refine wpAnyH_take (i := 3) (oi := _) (v := .slice A11 (m11 + 1) c11) rfl (by kernel_rfl) (by kernel_rfl) (by kernel_rfl) (fun _ _ _ h => h) (Or.inl ⟨by kernel_rfl, fun W hSw => by have Cb := hSw.2.2.2.2.cells; ((try dsimp only at hSw); go_simp; (try (with_reducible rfl)))⟩) ⟨hcur, B2, B3, B7, B8⟩ ?_
  (try simp (config := {maxSteps := 2000000}) only [Act.put, List.setIfInBounds_toArray, List.set_cons_zero, List.set_cons_succ, List.getElem_toArray, List.getElem_cons_zero, List.getElem_cons_succ])
  refine wpAnyH_take (i := 4) (oi := _) (v := .int .i64 ((m11 + 1))) rfl (by kernel_rfl) (by kernel_rfl) (by kernel_rfl) (fun _ _ _ h => h) (Or.inl ⟨by kernel_rfl, fun W hSw => by ((try dsimp only at hSw); go_simp; (try (with_reducible rfl)))⟩) ⟨hcur, B2, B3, B7, B8⟩ ?_
  (try simp (config := {maxSteps := 2000000}) only [Act.put, List.setIfInBounds_toArray, List.set_cons_zero, List.set_cons_succ, List.getElem_toArray, List.getElem_cons_zero, List.getElem_cons_succ])
  refine wpAnyH_take (i := 5) (oi := _) (v := .bool true) rfl (by kernel_rfl) (by kernel_rfl) (by kernel_rfl) (fun _ _ _ h => h) (Or.inl ⟨by kernel_rfl, fun W hSw => by ((try dsimp only at hSw); go_simp; (try (with_reducible rfl)))⟩) ⟨hcur, B2, B3, B7, B8⟩ ?_
  (try simp (config := {maxSteps := 2000000}) only [Act.put, List.setIfInBounds_toArray, List.set_cons_zero, List.set_cons_succ, List.getElem_toArray, List.getElem_cons_zero, List.getElem_cons_succ])
  refine wpAnyH_take (i := 6) (oi := _) (v := .bool true) rfl (by kernel_rfl) (by kernel_rfl) (by kernel_rfl) (fun _ _ _ h => h) (Or.inl ⟨by kernel_rfl, fun W hSw => by ((try dsimp only at hSw); go_simp; (try (with_reducible rfl)))⟩) ⟨hcur, B2, B3, B7, B8⟩ ?_
  (try simp (config := {maxSteps := 2000000}) only [Act.put, List.setIfInBounds_toArray, List.set_cons_zero, List.set_cons_succ, List.getElem_toArray, List.getElem_cons_zero, List.getElem_cons_succ])
  refine wpAnyH_take (i := 7) (oi := _) (v := .bool true) rfl (by kernel_rfl) (by kernel_rfl) (by kernel_rfl) (fun _ _ _ h => h) (Or.inl ⟨by kernel_rfl, fun W hSw => by ((try dsimp only at hSw); go_simp; (try (with_reducible rfl)))⟩) ⟨hcur, B2, B3, B7, B8⟩ ?_
  (try simp (config := {maxSteps := 2000000}) only [Act.put, List.setIfInBounds_toArray, List.set_cons_zero, List.set_cons_succ, List.getElem_toArray, List.getElem_cons_zero, List.getElem_cons_succ])
  refine wpAnyH_take (i := 8) (oi := _) (v := .pointer (some ⟨g8, 0, none⟩)) rfl (by kernel_rfl) (by kernel_rfl) (by kernel_rfl) (fun _ _ _ h => h) (Or.inl ⟨by kernel_rfl, fun W hSw => by ((try dsimp only at hSw); go_simp; (try (with_reducible rfl)))⟩) ⟨hcur, B2, B3, B7, B8⟩ ?_
  (try simp (config := {maxSteps := 2000000}) only [Act.put, List.setIfInBounds_toArray, List.set_cons_zero, List.set_cons_succ, List.getElem_toArray, List.getElem_cons_zero, List.getElem_cons_succ])
  refine wpAnyH_take (i := 9) (oi := _) (v := .bool b11) rfl (by kernel_rfl) (by kernel_rfl) (by kernel_rfl) (fun _ _ _ h => h) (Or.inl ⟨by kernel_rfl, fun W hSw => by have Cb := hSw.2.2.2.2.cells; ((try dsimp only at hSw); go_simp; (try (with_reducible rfl)))⟩) ⟨hcur, B2, B3, B7, B8⟩ ?_
  (try simp (config := {maxSteps := 2000000}) only [Act.put, List.setIfInBounds_toArray, List.set_cons_zero, List.set_cons_succ, List.getElem_toArray, List.getElem_cons_zero, List.getElem_cons_succ])
  refine wpAnyH_take (i := 10) (oi := _) (v := .agg #[.bool b2, .slice A2 n2 c2]) rfl (by kernel_rfl) (by kernel_rfl) (by kernel_rfl) (fun _ _ _ h => h) (Or.inl ⟨by kernel_rfl, fun W hSw => by have Cb := hSw.2.2.1.cells; ((try dsimp only at hSw); go_simp; (try (with_reducible rfl)))⟩) ⟨hcur, B2, B3, B7, B8⟩ ?_
  (try simp (config := {maxSteps := 2000000}) only [Act.put, List.setIfInBounds_toArray, List.set_cons_zero, List.set_cons_succ, List.getElem_toArray, List.getElem_cons_zero, List.getElem_cons_succ])
  refine wpAnyH_ready (rs := [11]) (by kernel_rfl) (by simp) ?_
  refine AllReadyH.cons (o := _) rfl (fun K hK => ?_) AllReadyH.nil
  go_simp; (with_reducible refine (rcanonS F (show (⟨b2, A2, n2, c2, _, _, _⟩ : NR) ∈ _ from (by repeat (first | exact List.mem_cons_self .. | apply List.mem_cons_of_mem))) (by omega) HS.out).mono ?_); rintro e wn ⟨vn, rfl, ⟨A28, n28, c28, rfl, o, hf⟩, hb⟩; clear hf; replace F := (F.below hb).cons o; replace B2 := B2.below hb; replace B3 := B3.below hb; replace B4 := B4.below hb; replace B5 := B5.below hb; replace B7 := B7.below hb; replace B8 := B8.below hb; replace hfr10 : ∀ k ∈ addrBlock A10, k < _ := (fun k hk => Nat.lt_of_lt_of_le (hfr10 k hk) hb.size); replace hfr11 : ∀ k ∈ addrBlock A11, k < _ := (fun k hk => Nat.lt_of_lt_of_le (hfr11 k hk) hb.size); replace hcur := bthen hcur hb; go_wp2_with fail
  refine hK.out _ _ ⟨hcur, B2, B3, B7, B8⟩ (fun hHeld => ?_)
  clear hK K hHeld
  (try simp (config := {maxSteps := 2000000}) only [Act.put, List.setIfInBounds_toArray, List.set_cons_zero, List.set_cons_succ, List.getElem_toArray, List.getElem_cons_zero, List.getElem_cons_succ])
  refine wpAnyH_take (i := 12) (oi := _) (v := .bool b11) rfl (by kernel_rfl) (by kernel_rfl) (by kernel_rfl) (fun _ _ _ h => h) (Or.inl ⟨by kernel_rfl, fun W hSw => by ((try dsimp only at hSw); go_simp; (try (with_reducible rfl)); exact field_take _ _ _)⟩) ⟨hcur, B2, B3, B7, B8⟩ ?_
  (try simp (config := {maxSteps := 2000000}) only [Act.put, List.setIfInBounds_toArray, List.set_cons_zero, List.set_cons_succ, List.getElem_toArray, List.getElem_cons_zero, List.getElem_cons_succ])
  refine wpAnyH_take (i := 13) (oi := _) (v := .bool false) rfl (by kernel_rfl) (by kernel_rfl) (by kernel_rfl) (fun _ _ _ h => h) (Or.inl ⟨by kernel_rfl, fun W hSw => by ((try dsimp only at hSw); go_simp; (try (with_reducible rfl)))⟩) ⟨hcur, B2, B3, B7, B8⟩ ?_
  (try simp (config := {maxSteps := 2000000}) only [Act.put, List.setIfInBounds_toArray, List.set_cons_zero, List.set_cons_succ, List.getElem_toArray, List.getElem_cons_zero, List.getElem_cons_succ])
  refine wpAnyH_take (i := 14) (oi := _) (v := .bool false) rfl (by kernel_rfl) (by kernel_rfl) (by kernel_rfl) (fun _ _ _ h => h) (Or.inl ⟨by kernel_rfl, fun W hSw => by ((try dsimp only at hSw); go_simp; (try (with_reducible rfl)))⟩) ⟨hcur, B2, B3, B7, B8⟩ ?_
  (try simp (config := {maxSteps := 2000000}) only [Act.put, List.setIfInBounds_toArray, List.set_cons_zero, List.set_cons_succ, List.getElem_toArray, List.getElem_cons_zero, List.getElem_cons_succ])
  refine wpAnyH_done (by kernel_rfl) ?_ _
  refine NoPanic.normal ?_
  obtain ⟨rfl⟩ := hQ7
  (go_wp2_with fail)
  have hd := (Below.refl wn.heap.size wn).drew
  replace B2 := B2.below hd
  replace B3 := B3.below hd
  replace B4 := B4.below hd
  replace B5 := B5.below hd
  replace B7 := B7.below hd
  replace B8 := B8.below hd
  replace hcur := bthen hcur hd
  replace F := F.below hd
  replace hfr10 : ∀ k ∈ addrBlock A10, k < _ := (fun k hk => Nat.lt_of_lt_of_le (hfr10 k hk) hd.size)
  replace hfr11 : ∀ k ∈ addrBlock A11, k < _ := (fun k hk => Nat.lt_of_lt_of_le (hfr11 k hk) hd.size)
  clear hd
  refine wp_gen2 (fun Q7 hQ7 => ?_)
  refine wp_region_held_drew (S := fun W => Below w.heap.size w W ∧ Blk W g2 [.bool b, .slice A n c] 26 ∧ Blk W g3 [.bool b2, .slice A2 n2 c2] 26 ∧ Blk W g7 [.bool b10, .slice A10 n10 c10] 26 ∧ Blk W g8 [.bool b11, .slice A11 (m11 + 1) c11] 26) (by kernel_rfl) ⟨hcur, B2, B3, B7, B8⟩ (fun hHeld => ?_)
  clear hHeld
  refine wpAnyH_take (i := 0) (oi := _) (v := .agg #[.bool b10, .slice A10 n10 c10]) rfl (by kernel_rfl) (by kernel_rfl) (by kernel_rfl) (fun _ _ _ h => h) (Or.inl ⟨by kernel_rfl, fun W hSw => by have Cb := hSw.2.2.2.1.cells; ((try dsimp only at hSw); go_simp; (try (with_reducible rfl)))⟩) ⟨hcur, B2, B3, B7, B8⟩ ?_
  (try simp (config := {maxSteps := 2000000}) only [Act.put, List.setIfInBounds_toArray, List.set_cons_zero, List.set_cons_succ, List.getElem_toArray, List.getElem_cons_zero, List.getElem_cons_succ])
  refine wpAnyH_take (i := 1) (oi := _) (v := .agg #[.bool b11, .slice A11 (m11 + 1) c11]) rfl (by kernel_rfl) (by kernel_rfl) (by kernel_rfl) (fun _ _ _ h => h) (Or.inl ⟨by kernel_rfl, fun W hSw => by have Cb := hSw.2.2.2.2.cells; ((try dsimp only at hSw); go_simp; (try (with_reducible rfl)))⟩) ⟨hcur, B2, B3, B7, B8⟩ ?_
  (try simp (config := {maxSteps := 2000000}) only [Act.put, List.setIfInBounds_toArray, List.set_cons_zero, List.set_cons_succ, List.getElem_toArray, List.getElem_cons_zero, List.getElem_cons_succ])
  refine wpAnyH_take (i := 2) (oi := _) (v := .bool true) rfl (by kernel_rfl) (by kernel_rfl) (by kernel_rfl) (fun _ _ _ h => h) (Or.inl ⟨by kernel_rfl, fun W hSw => by ((try dsimp only at hSw); go_simp; (try (with_reducible rfl)))⟩) ⟨hcur, B2, B3, B7, B8⟩ ?_
  (try simp (config := {maxSteps := 2000000}) only [Act.put, List.setIfInBounds_toArray, List.set_cons_zero, List.set_cons_succ, List.getElem_toArray, List.getElem_cons_zero, List.getElem_cons_succ])
  refine wpAnyH_ready (rs := [3]) (by kernel_rfl) (by simp) ?_
  refine AllReadyH.cons (o := _) rfl (fun K hK => ?_) AllReadyH.nil
  refine st_store rfl rfl B4 (news := [.bool b10, .slice A10 n10 c10]) (by rfl) infoNum (by simp) (by simp [Value.oneCell']) ?_; intro wn hon Bx; simp only [List.take_zero, List.nil_append, List.length_cons, List.length_nil, List.drop_succ_cons, List.drop_zero, List.append_nil, List.cons_append] at Bx; replace B4 := Bx; clear Bx; replace B2 := B2.only hon (Ne.symm hneb4_2); replace B3 := B3.only hon (Ne.symm hneb4_3); replace B5 := B5.only hon hneb5_4; replace B7 := B7.only hon hneb7_4; replace B8 := B8.only hon hneb8_4; have oo4 : NR.Ok _ _ := (F.out _ (show (⟨b10, A10, n10, c10, _, _, _⟩ : NR) ∈ _ from (by repeat (first | exact List.mem_cons_self .. | apply List.mem_cons_of_mem)))).only hon hne10_4; have F1 := F; clear F; have F := F0.below (hcur.trans (hon.below hg4)); replace F := F.cons ((F1.out _ (show (⟨b11, A11, (m11 + 1), c11, _, _, _⟩ : NR) ∈ _ from (by repeat (first | exact List.mem_cons_self .. | apply List.mem_cons_of_mem)))).only hon hne11_4); replace hfr10 : ∀ k ∈ addrBlock A10, k < _ := (fun k hk => Nat.lt_of_lt_of_eq (hfr10 k hk) hon.size.symm); replace hfr11 : ∀ k ∈ addrBlock A11, k < _ := (fun k hk => Nat.lt_of_lt_of_eq (hfr11 k hk) hon.size.symm); clear F1; replace hcur := hcur.trans (hon.below hg4); clear hon
  refine hK.out _ _ ⟨hcur, B2, B3, B7, B8⟩ (fun hHeld => ?_)
  clear hK K hHeld
  (try simp (config := {maxSteps := 2000000}) only [Act.put, List.setIfInBounds_toArray, List.set_cons_zero, List.set_cons_succ, List.getElem_toArray, List.getElem_cons_zero, List.getElem_cons_succ])
  refine wpAnyH_ready (rs := [4]) (by kernel_rfl) (by simp) ?_
  refine AllReadyH.cons (o := _) rfl (fun K hK => ?_) AllReadyH.nil
  refine st_store rfl rfl B5 (news := [.bool b11, .slice A11 (m11 + 1) c11]) (by rfl) infoNum (by simp) (by simp [Value.oneCell']) ?_; intro wn hon Bx; simp only [List.take_zero, List.nil_append, List.length_cons, List.length_nil, List.drop_succ_cons, List.drop_zero, List.append_nil, List.cons_append] at Bx; replace B5 := Bx; clear Bx; replace B2 := B2.only hon (Ne.symm hneb5_2); replace B3 := B3.only hon (Ne.symm hneb5_3); replace B4 := B4.only hon (Ne.symm hneb5_4); replace B7 := B7.only hon hneb7_5; replace B8 := B8.only hon hneb8_5; have oo5 : NR.Ok _ _ := (F.out _ (show (⟨b11, A11, (m11 + 1), c11, _, _, _⟩ : NR) ∈ _ from (by repeat (first | exact List.mem_cons_self .. | apply List.mem_cons_of_mem)))).only hon hne11_5; replace oo4 := oo4.only hon hne10_5; have F1 := F; clear F; have F := F0.below (hcur.trans (hon.below hg5)); replace hfr10 : ∀ k ∈ addrBlock A10, k < _ := (fun k hk => Nat.lt_of_lt_of_eq (hfr10 k hk) hon.size.symm); replace hfr11 : ∀ k ∈ addrBlock A11, k < _ := (fun k hk => Nat.lt_of_lt_of_eq (hfr11 k hk) hon.size.symm); clear F1; replace hcur := hcur.trans (hon.below hg5); clear hon
  refine hK.out _ _ ⟨hcur, B2, B3, B7, B8⟩ (fun hHeld => ?_)
  clear hK K hHeld
  (try simp (config := {maxSteps := 2000000}) only [Act.put, List.setIfInBounds_toArray, List.set_cons_zero, List.set_cons_succ, List.getElem_toArray, List.getElem_cons_zero, List.getElem_cons_succ])
  refine wpAnyH_ready (rs := [5]) (by kernel_rfl) (by simp) ?_
  refine AllReadyH.cons (o := _) rfl (fun K hK => ?_) AllReadyH.nil
  go_simp
  refine hK.out _ _ ⟨hcur, B2, B3, B7, B8⟩ (fun hHeld => ?_)
  clear hK K hHeld
  (try simp (config := {maxSteps := 2000000}) only [Act.put, List.setIfInBounds_toArray, List.set_cons_zero, List.set_cons_succ, List.getElem_toArray, List.getElem_cons_zero, List.getElem_cons_succ])
  refine wpAnyH_done (by kernel_rfl) ?_ _
  refine NoPanic.normal ?_
  obtain ⟨rfl⟩ := hQ7
  (go_wp2_with fail)
  refine bodyPost_ret (results_cct rfl _ _ g4 g5 26 26 #[.bool b10, .slice A10 n10 c10] #[.bool b11, .slice A11 (m11 + 1) c11] (0, 0) (0, 0) _ rfl rfl B4.h B5.h Tryd.underlying26 rfl (by kernel_rfl) (by kernel_rfl)) rfl ?_
  exact ⟨_, rfl, ⟨_, _, rfl, ⟨_, _, _, _, rfl, ⟨oo4.ex, Nat.le_trans oo4.le (by simp only; omega)⟩, fun k hk => ⟨hge10 k hk, hfr10 k hk⟩⟩, ⟨_, _, _, _, rfl, ⟨oo5.ex, Nat.le_trans oo5.le (by simp only; omega)⟩, fun k hk => ⟨hge11 k hk, hfr11 k hk⟩⟩⟩, hcur⟩
set_option maxRecDepth 8000 in
set_option maxHeartbeats 8000000 in
theorem rfloorD_go (F0 : Fs w [⟨b, A, n, c, z, K, can⟩, ⟨b2, A2, n2, c2, z2, K2, can2⟩]) (h0 : z2 ≠ 0) (hr : z.tmod z2 ≠ 0) (hs : decide (z2 < 0) = !decide (z.tmod z2 < 0)) (hK : K + K2 ≤ 274877906930) :
    Calls Tryd.prog 24 #[.agg #[.bool b, .slice A n c], .agg #[.bool b2, .slice A2 n2 c2]] w (Gives w fun v w' => ∃ qv rv, v = .tuple #[qv, rv, .bool true] ∧ NumRes w (floQ z z2) (K + K2 + 4) true qv w' ∧ NumRes w (floR z z2) (K + K2 + 4) true rv w') := by
  have HT := As.mk (show TQ z z2 (z.tdiv z2) (z.tmod z2) true from .inr ⟨h0, rfl, rfl, rfl⟩)
  have HV : As (floQ z z2 = z.tdiv z2 - 1 ∧ floR z z2 = z.tmod z2 + z2) := ⟨by
    have hf : flo z z2 = true := by rw [flo, hs]; cases decide (z.tmod z2 < 0) <;> simp [hr]
    simp [floQ, floR, hf]⟩
  rw [HV.out.1, HV.out.2]
  have Hr := As.mk hr
  have Hs := As.mk hs
  clear h0 hr hs
  go_enter Tryd.func24, Tryd.ntmps24
  go_wp2_with (first
    | ((with_reducible refine g_dst 2 ?_); go_must (refine ev_box 2 rfl (cs := [.bool b, .slice A n c]) (by rfl) ?_); intro g2 wn hb2 B2 hg2; have hb := hb2)
    | ((with_reducible refine g_dst 3 ?_); go_must (refine ev_box 3 rfl (cs := [.bool b2, .slice A2 n2 c2]) (by rfl) ?_); intro g3 wn hb3 B3 hgn; have hneb3_2 : g3 ≠ g2 := (fun e => by (have h1 := B2.lt; omega)); have hg3 := Nat.le_trans hb.size hgn; replace B2 := B2.below hb3; replace hb := bthen hb hb3)
    | ((with_reducible refine g_dst 4 ?_); go_must (refine ev_alloc 4 rfl infoNum (cs := [.bool false, .slice none 0 0]) rfl ?_); intro g4 wn hb4 B4 hgn; have hneb4_2 : g4 ≠ g2 := (fun e => by (have h1 := B2.lt; omega)); have hneb4_3 : g4 ≠ g3 := (fun e => by (have h1 := B3.lt; omega)); have hg4 := Nat.le_trans hb.size hgn; replace B2 := B2.below hb4; replace B3 := B3.below hb4; replace hb := bthen hb hb4)
    | ((with_reducible refine g_dst 5 ?_); go_must (refine ev_alloc 5 rfl infoNum (cs := [.bool false, .slice none 0 0]) rfl ?_); intro g5 wn hb5 B5 hgn; have hneb5_2 : g5 ≠ g2 := (fun e => by (have h1 := B2.lt; omega)); have hneb5_3 : g5 ≠ g3 := (fun e => by (have h1 := B3.lt; omega)); have hneb5_4 : g5 ≠ g4 := (fun e => by (have h1 := B4.lt; omega)); have hg5 := Nat.le_trans hb.size hgn; replace B2 := B2.below hb5; replace B3 := B3.below hb5; replace B4 := B4.below hb5; replace hb := bthen hb hb5; have C2 := B2.cells; have C3 := B3.cells)
    | (go_at_call 22; (with_reducible refine (rtruncF (F0.below hb) (by repeat (first | exact List.mem_cons_self .. | apply List.mem_cons_of_mem)) (by repeat (first | exact List.mem_cons_self .. | apply List.mem_cons_of_mem)) HT.out (by omega) (by omega)).mono ?_); rintro e wn ⟨vn, rfl, ⟨qv, rv, rfl, ⟨b10, A10, n10, c10, rfl, o10, f10⟩, ⟨b11, A11, n11, c11, rfl, o11, f11⟩⟩, hbn⟩; clear C2 C3; have p10 : ∀ k ∈ addrBlock A10, w.heap.size ≤ k := (fun k hk => Nat.le_trans hb.size (f10 k hk).1); have p11 : ∀ k ∈ addrBlock A11, w.heap.size ≤ k := (fun k hk => Nat.le_trans hb.size (f11 k hk).1); have hne10_4 : ∀ k ∈ addrBlock A10, k ≠ g4 := (fun k hk e => by (have h1 := (f10 k hk).1; have h2 := B4.lt; omega)); have hne10_5 : ∀ k ∈ addrBlock A10, k ≠ g5 := (fun k hk e => by (have h1 := (f10 k hk).1; have h2 := B5.lt; omega)); have hne11_4 : ∀ k ∈ addrBlock A11, k ≠ g4 := (fun k hk e => by (have h1 := (f11 k hk).1; have h2 := B4.lt; omega)); have hne11_5 : ∀ k ∈ addrBlock A11, k ≠ g5 := (fun k hk e => by (have h1 := (f11 k hk).1; have h2 := B5.lt; omega)); replace B2 := B2.below hbn; replace B3 := B3.below hbn; replace B4 := B4.below hbn; replace B5 := B5.below hbn; replace hb := bthen hb hbn; clear hbn)
    | ((with_reducible refine g_dst 7 ?_); go_must (refine ev_alloc 7 rfl infoNum (cs := [.bool false, .slice none 0 0]) rfl ?_); intro g7 wn hb7 B7 hgn; have hneb7_2 : g7 ≠ g2 := (fun e => by (have h1 := B2.lt; omega)); have hneb7_3 : g7 ≠ g3 := (fun e => by (have h1 := B3.lt; omega)); have hneb7_4 : g7 ≠ g4 := (fun e => by (have h1 := B4.lt; omega)); have hneb7_5 : g7 ≠ g5 := (fun e => by (have h1 := B5.lt; omega)); have hne10_7 : ∀ k ∈ addrBlock A10, k ≠ g7 := (fun k hk e => by (have h1 := (f10 k hk).2; omega)); have hne11_7 : ∀ k ∈ addrBlock A11, k ≠ g7 := (fun k hk e => by (have h1 := (f11 k hk).2; omega)); replace f10 := (fun k hk => Nat.lt_of_lt_of_le (f10 k hk).2 hb7.size); replace f11 := (fun k hk => Nat.lt_of_lt_of_le (f11 k hk).2 hb7.size); have hg7 := Nat.le_trans hb.size hgn; replace B2 := B2.below hb7; replace B3 := B3.below hb7; replace B4 := B4.below hb7; replace B5 := B5.below hb7; replace o10 := o10.below hb7; replace o11 := o11.below hb7; replace hb := bthen hb hb7)
    | ((with_reducible refine g_dst 8 ?_); go_must (refine ev_alloc 8 rfl infoNum (cs := [.bool false, .slice none 0 0]) rfl ?_); intro g8 wn hb8 B8 hgn; have hneb8_2 : g8 ≠ g2 := (fun e => by (have h1 := B2.lt; omega)); have hneb8_3 : g8 ≠ g3 := (fun e => by (have h1 := B3.lt; omega)); have hneb8_4 : g8 ≠ g4 := (fun e => by (have h1 := B4.lt; omega)); have hneb8_5 : g8 ≠ g5 := (fun e => by (have h1 := B5.lt; omega)); have hneb8_7 : g8 ≠ g7 := (fun e => by (have h1 := B7.lt; omega)); have hne10_8 : ∀ k ∈ addrBlock A10, k ≠ g8 := (fun k hk e => by (have h1 := f10 k hk; omega)); have hne11_8 : ∀ k ∈ addrBlock A11, k ≠ g8 := (fun k hk e => by (have h1 := f11 k hk; omega)); replace f10 := (fun k hk => Nat.lt_of_lt_of_le (f10 k hk) hb8.size); replace f11 := (fun k hk => Nat.lt_of_lt_of_le (f11 k hk) hb8.size); have hg8 := Nat.le_trans hb.size hgn; replace B2 := B2.below hb8; replace B3 := B3.below hb8; replace B4 := B4.below hb8; replace B5 := B5.below hb8; replace B7 := B7.below hb8; replace o10 := o10.below hb8; replace o11 := o11.below hb8; replace hb := bthen hb hb8)
    | ((with_reducible refine g_store 7 ?_); go_must (refine ev_store rfl rfl B7 (news := [.bool b10, .slice A10 n10 c10]) (by rfl) infoNum (by simp) (by simp [Value.oneCell']) ?_); intro wn hon Bn; simp only [List.take_zero, List.nil_append, List.length_cons, List.length_nil, List.drop_succ_cons, List.drop_zero, List.append_nil, List.cons_append] at Bn; replace B2 := B2.only hon (Ne.symm hneb7_2); replace B3 := B3.only hon (Ne.symm hneb7_3); replace B4 := B4.only hon (Ne.symm hneb7_4); replace B5 := B5.only hon (Ne.symm hneb7_5); replace B8 := B8.only hon hneb8_7; replace B7 := Bn; clear Bn; replace o10 := o10.only hon hne10_7; replace o11 := o11.only hon hne11_7; replace hb := hb.trans (hon.below hg7); replace f10 := (fun k hk => Nat.lt_of_lt_of_eq (f10 k hk) hon.size.symm); replace f11 := (fun k hk => Nat.lt_of_lt_of_eq (f11 k hk) hon.size.symm); clear hon)
    | ((with_reducible refine g_store 8 ?_); go_must (refine ev_store rfl rfl B8 (news := [.bool b11, .slice A11 n11 c11]) (by rfl) infoNum (by simp) (by simp [Value.oneCell']) ?_); intro wn hon Bn; simp only [List.take_zero, List.nil_append, List.length_cons, List.length_nil, List.drop_succ_cons, List.drop_zero, List.append_nil, List.cons_append] at Bn; replace B2 := B2.only hon (Ne.symm hneb8_2); replace B3 := B3.only hon (Ne.symm hneb8_3); replace B4 := B4.only hon (Ne.symm hneb8_4); replace B5 := B5.only hon (Ne.symm hneb8_5); replace B7 := B7.only hon (Ne.symm hneb8_7); replace B8 := Bn; clear Bn; replace o10 := o10.only hon hne10_8; replace o11 := o11.only hon hne11_8; replace hb := hb.trans (hon.below hg8); replace f10 := (fun k hk => Nat.lt_of_lt_of_eq (f10 k hk) hon.size.symm); replace f11 := (fun k hk => Nat.lt_of_lt_of_eq (f11 k hk) hon.size.symm); clear hon))
  have hge10 := p10
  have hge11 := p11
  clear p10 p11
  obtain ⟨m11, rfl⟩ : ∃ m11, n11 = m11 + 1 := by
    obtain ⟨l, h1, _, h3, _⟩ := o11.ex
    simp only at h1 h3
    rcases l with _ | ⟨x, l⟩
    · exact absurd (by rw [← h3]; cases b11 <;> rfl) Hr.out
    · exact ⟨l.length, h1.symm⟩
  have hp11 : (0 : Int) < ((m11 + 1 : Nat) : Int) := by omega
  have HS : As (decide (z2 < 0) = !b11) := ⟨by
    obtain ⟨l, _, _, _, h4⟩ := o11.ex
    have h5 := (h4 rfl).1
    simp only at h5
    rw [h5]; exact Hs.out⟩
  have hd := (Below.refl wn.heap.size wn).drew
  replace B2 := B2.below hd
  replace B3 := B3.below hd
  replace B4 := B4.below hd
  replace B5 := B5.below hd
  replace B7 := B7.below hd
  replace B8 := B8.below hd
  have hcur := bthen hb hd
  have F := ((F0.below hcur).cons (o11.below hd)).cons (o10.below hd)
  have hfr10 : ∀ k ∈ addrBlock A10, k < _ := (fun k hk => Nat.lt_of_lt_of_le (f10 k hk) hd.size)
  have hfr11 : ∀ k ∈ addrBlock A11, k < _ := (fun k hk => Nat.lt_of_lt_of_le (f11 k hk) hd.size)
  clear f10 f11
  refine wp_gen2 (fun Q7 hQ7 => ?_)
  refine wp_region_held_drew (S := fun W => Below w.heap.size w W ∧ Blk W g2 [.bool b, .slice A n c] 26 ∧ Blk W g3 [.bool b2, .slice A2 n2 c2] 26 ∧ Blk W g7 [.bool b10, .slice A10 n10 c10] 26 ∧ Blk W g8 [.bool b11, .slice A11 (m11 + 1) c11] 26) (by kernel_rfl) ⟨hcur, B2, B3, B7, B8⟩ (fun hHeld => ?_)
  clear hHeld hd
  generalize wn.drew = wv at *
  refine wpAnyH_take (i := 0) (oi := _) (v := .bool true) rfl (by kernel_rfl) (by kernel_rfl) (by kernel_rfl) (fun _ _ _ h => h) (Or.inl ⟨by kernel_rfl, fun W hSw => by ((try dsimp only at hSw); go_simp; (try (with_reducible rfl)))⟩) ⟨hcur, B2, B3, B7, B8⟩ ?_
  (try simp (config := {maxSteps := 2000000}) only [Act.put, List.setIfInBounds_toArray, List.set_cons_zero, List.set_cons_succ, List.getElem_toArray, List.getElem_cons_zero, List.getElem_cons_succ])
  refine wpAnyH_take (i := 1) (oi := _) (v := .bool true) rfl (by kernel_rfl) (by kernel_rfl) (by kernel_rfl) (fun _ _ _ h => h) (Or.inl ⟨by kernel_rfl, fun W hSw => by ((try dsimp only at hSw); go_simp; (try (with_reducible rfl)))⟩) ⟨hcur, B2, B3, B7, B8⟩ ?_
  (try simp (config := {maxSteps := 2000000}) only [Act.put, List.setIfInBounds_toArray, List.set_cons_zero, List.set_cons_succ, List.getElem_toArray, List.getElem_cons_zero, List.getElem_cons_succ])
  refine wpAnyH_take (i := 2) (oi := _) (v := .pointer (some ⟨g8, 1, none⟩)) rfl (by kernel_rfl) (by kernel_rfl) (by kernel_rfl) (fun _ _ _ h => h) (Or.inl ⟨by kernel_rfl, fun W hSw => by ((try dsimp only at hSw); go_simp; (try (with_reducible rfl)))⟩) ⟨hcur, B2, B3, B7, B8⟩ ?_
  (try simp (config := {maxSteps := 2000000}) only [Act.put, List.setIfInBounds_toArray, List.set_cons_zero, List.set_cons_succ, List.getElem_toArray, List.getElem_cons_zero, List.getElem_cons_succ])
  refine wpAnyH_take (i := 3) (oi := _) (v := .slice A11 (m11 + 1) c11) rfl (by kernel_rfl) (by kernel_rfl) (by kernel_rfl) (fun _ _ _ h => h) (Or.inl ⟨by kernel_rfl, fun W hSw => by have Cb := hSw.2.2.2.2.cells; ((try dsimp only at hSw); go_simp; (try (with_reducible rfl)))⟩) ⟨hcur, B2, B3, B7, B8⟩ ?_
  (try simp (config := {maxSteps := 2000000}) only [Act.put, List.setIfInBounds_toArray, List.set_cons_zero, List.set_cons_succ, List.getElem_toArray, List.getElem_cons_zero, List.getElem_cons_succ])
  refine wpAnyH_take (i := 4) (oi := _) (v := .int .i64 ((m11 + 1))) rfl (by kernel_rfl) (by kernel_rfl) (by kernel_rfl) (fun _ _ _ h => h) (Or.inl ⟨by kernel_rfl, fun W hSw => by ((try dsimp only at hSw); go_simp; (try (with_reducible rfl)))⟩) ⟨hcur, B2, B3, B7, B8⟩ ?_
  (try simp (config := {maxSteps := 2000000}) only [Act.put, List.setIfInBounds_toArray, List.set_cons_zero, List.set_cons_succ, List.getElem_toArray, List.getElem_cons_zero, List.getElem_cons_succ])
  refine wpAnyH_take (i := 5) (oi := _) (v := .bool true) rfl (by kernel_rfl) (by kernel_rfl) (by kernel_rfl) (fun _ _ _ h => h) (Or.inl ⟨by kernel_rfl, fun W hSw => by ((try dsimp only at hSw); go_simp; (try (with_reducible rfl)))⟩) ⟨hcur, B2, B3, B7, B8⟩ ?_
  (try simp (config := {maxSteps := 2000000}) only [Act.put, List.setIfInBounds_toArray, List.set_cons_zero, List.set_cons_succ, List.getElem_toArray, List.getElem_cons_zero, List.getElem_cons_succ])
  refine wpAnyH_take (i := 6) (oi := _) (v := .bool true) rfl (by kernel_rfl) (by kernel_rfl) (by kernel_rfl) (fun _ _ _ h => h) (Or.inl ⟨by kernel_rfl, fun W hSw => by ((try dsimp only at hSw); go_simp; (try (with_reducible rfl)))⟩) ⟨hcur, B2, B3, B7, B8⟩ ?_
  (try simp (config := {maxSteps := 2000000}) only [Act.put, List.setIfInBounds_toArray, List.set_cons_zero, List.set_cons_succ, List.getElem_toArray, List.getElem_cons_zero, List.getElem_cons_succ])
  refine wpAnyH_take (i := 7) (oi := _) (v := .bool true) rfl (by kernel_rfl) (by kernel_rfl) (by kernel_rfl) (fun _ _ _ h => h) (Or.inl ⟨by kernel_rfl, fun W hSw => by ((try dsimp only at hSw); go_simp; (try (with_reducible rfl)))⟩) ⟨hcur, B2, B3, B7, B8⟩ ?_
  (try simp (config := {maxSteps := 2000000}) only [Act.put, List.setIfInBounds_toArray, List.set_cons_zero, List.set_cons_succ, List.getElem_toArray, List.getElem_cons_zero, List.getElem_cons_succ])
  refine wpAnyH_take (i := 8) (oi := _) (v := .pointer (some ⟨g8, 0, none⟩)) rfl (by kernel_rfl) (by kernel_rfl) (by kernel_rfl) (fun _ _ _ h => h) (Or.inl ⟨by kernel_rfl, fun W hSw => by ((try dsimp only at hSw); go_simp; (try (with_reducible rfl)))⟩) ⟨hcur, B2, B3, B7, B8⟩ ?_
  (try simp (config := {maxSteps := 2000000}) only [Act.put, List.setIfInBounds_toArray, List.set_cons_zero, List.set_cons_succ, List.getElem_toArray, List.getElem_cons_zero, List.getElem_cons_succ])
  refine wpAnyH_take (i := 9) (oi := _) (v := .bool b11) rfl (by kernel_rfl) (by kernel_rfl) (by kernel_rfl) (fun _ _ _ h => h) (Or.inl ⟨by kernel_rfl, fun W hSw => by have Cb := hSw.2.2.2.2.cells; ((try dsimp only at hSw); go_simp; (try (with_reducible rfl)))⟩) ⟨hcur, B2, B3, B7, B8⟩ ?_
  (try simp (config := {maxSteps := 2000000}) only [Act.put, List.setIfInBounds_toArray, List.set_cons_zero, List.set_cons_succ, List.getElem_toArray, List.getElem_cons_zero, List.getElem_cons_succ])
  refine wpAnyH_take (i := 10) (oi := _) (v := .agg #[.bool b2, .slice A2 n2 c2]) rfl (by kernel_rfl) (by kernel_rfl) (by kernel_rfl) (fun _ _ _ h => h) (Or.inl ⟨by kernel_rfl, fun W hSw => by have Cb := hSw.2.2.1.cells; ((try dsimp only at hSw); go_simp; (try (with_reducible rfl)))⟩) ⟨hcur, B2, B3, B7, B8⟩ ?_
  (try simp (config := {maxSteps := 2000000}) only [Act.put, List.setIfInBounds_toArray, List.set_cons_zero, List.set_cons_succ, List.getElem_toArray, List.getElem_cons_zero, List.getElem_cons_succ])
  refine wpAnyH_ready (rs := [11]) (by kernel_rfl) (by simp) ?_
  refine AllReadyH.cons (o := _) rfl (fun K hK => ?_) AllReadyH.nil
  go_simp; (with_reducible refine (rcanonS F (show (⟨b2, A2, n2, c2, _, _, _⟩ : NR) ∈ _ from (by repeat (first | exact List.mem_cons_self .. | apply List.mem_cons_of_mem))) (by omega) HS.out).mono ?_); rintro e wn ⟨vn, rfl, ⟨A28, n28, c28, rfl, o, hf⟩, hb⟩; clear hf; replace F := (F.below hb).cons o; replace B2 := B2.below hb; replace B3 := B3.below hb; replace B4 := B4.below hb; replace B5 := B5.below hb; replace B7 := B7.below hb; replace B8 := B8.below hb; replace hfr10 : ∀ k ∈ addrBlock A10, k < _ := (fun k hk => Nat.lt_of_lt_of_le (hfr10 k hk) hb.size); replace hfr11 : ∀ k ∈ addrBlock A11, k < _ := (fun k hk => Nat.lt_of_lt_of_le (hfr11 k hk) hb.size); replace hcur := bthen hcur hb; go_wp2_with fail
  refine hK.out _ _ ⟨hcur, B2, B3, B7, B8⟩ (fun hHeld => ?_)
  clear hK K hHeld
  (try simp (config := {maxSteps := 2000000}) only [Act.put, List.setIfInBounds_toArray, List.set_cons_zero, List.set_cons_succ, List.getElem_toArray, List.getElem_cons_zero, List.getElem_cons_succ])
  refine wpAnyH_take (i := 12) (oi := _) (v := .bool (!b11)) rfl (by kernel_rfl) (by kernel_rfl) (by kernel_rfl) (fun _ _ _ h => h) (Or.inl ⟨by kernel_rfl, fun W hSw => by ((try dsimp only at hSw); go_simp; (try (with_reducible rfl)); exact field_take _ _ _)⟩) ⟨hcur, B2, B3, B7, B8⟩ ?_
  (try simp (config := {maxSteps := 2000000}) only [Act.put, List.setIfInBounds_toArray, List.set_cons_zero, List.set_cons_succ, List.getElem_toArray, List.getElem_cons_zero, List.getElem_cons_succ])
  refine wpAnyH_take (i := 13) (oi := _) (v := .bool true) rfl (by kernel_rfl) (by kernel_rfl) (by kernel_rfl) (fun _ _ _ h => h) (Or.inl ⟨by kernel_rfl, fun W hSw => by ((try dsimp only at hSw); go_simp; (try (with_reducible rfl)))⟩) ⟨hcur, B2, B3, B7, B8⟩ ?_
  (try simp (config := {maxSteps := 2000000}) only [Act.put, List.setIfInBounds_toArray, List.set_cons_zero, List.set_cons_succ, List.getElem_toArray, List.getElem_cons_zero, List.getElem_cons_succ])
  refine wpAnyH_take (i := 14) (oi := _) (v := .bool true) rfl (by kernel_rfl) (by kernel_rfl) (by kernel_rfl) (fun _ _ _ h => h) (Or.inl ⟨by kernel_rfl, fun W hSw => by ((try dsimp only at hSw); go_simp; (try (with_reducible rfl)))⟩) ⟨hcur, B2, B3, B7, B8⟩ ?_
  (try simp (config := {maxSteps := 2000000}) only [Act.put, List.setIfInBounds_toArray, List.set_cons_zero, List.set_cons_succ, List.getElem_toArray, List.getElem_cons_zero, List.getElem_cons_succ])
  refine wpAnyH_done (by kernel_rfl) ?_ _
  refine NoPanic.normal ?_
  obtain ⟨rfl⟩ := hQ7
  (go_wp2_with fail)
  have hd := (Below.refl wn.heap.size wn).drew
  replace B2 := B2.below hd
  replace B3 := B3.below hd
  replace B4 := B4.below hd
  replace B5 := B5.below hd
  replace B7 := B7.below hd
  replace B8 := B8.below hd
  replace hcur := bthen hcur hd
  replace F := F.below hd
  replace hfr10 : ∀ k ∈ addrBlock A10, k < _ := (fun k hk => Nat.lt_of_lt_of_le (hfr10 k hk) hd.size)
  replace hfr11 : ∀ k ∈ addrBlock A11, k < _ := (fun k hk => Nat.lt_of_lt_of_le (hfr11 k hk) hd.size)
  clear hd
  refine wp_gen2 (fun Q7 hQ7 => ?_)
  refine wp_region_held_drew (S := fun W => Below w.heap.size w W ∧ Blk W g2 [.bool b, .slice A n c] 26 ∧ Blk W g3 [.bool b2, .slice A2 n2 c2] 26 ∧ Blk W g7 [.bool b10, .slice A10 n10 c10] 26 ∧ Blk W g8 [.bool b11, .slice A11 (m11 + 1) c11] 26) (by kernel_rfl) ⟨hcur, B2, B3, B7, B8⟩ (fun hHeld => ?_)
  clear hHeld
  refine wpAnyH_take (i := 0) (oi := _) (v := .agg #[.bool b10, .slice A10 n10 c10]) rfl (by kernel_rfl) (by kernel_rfl) (by kernel_rfl) (fun _ _ _ h => h) (Or.inl ⟨by kernel_rfl, fun W hSw => by have Cb := hSw.2.2.2.1.cells; ((try dsimp only at hSw); go_simp; (try (with_reducible rfl)))⟩) ⟨hcur, B2, B3, B7, B8⟩ ?_
  (try simp (config := {maxSteps := 2000000}) only [Act.put, List.setIfInBounds_toArray, List.set_cons_zero, List.set_cons_succ, List.getElem_toArray, List.getElem_cons_zero, List.getElem_cons_succ])
  refine wpAnyH_take (i := 3) (oi := _) (v := .agg #[.bool b11, .slice A11 (m11 + 1) c11]) rfl (by kernel_rfl) (by kernel_rfl) (by kernel_rfl) (fun _ _ _ h => h) (Or.inl ⟨by kernel_rfl, fun W hSw => by have Cb := hSw.2.2.2.2.cells; ((try dsimp only at hSw); go_simp; (try (with_reducible rfl)))⟩) ⟨hcur, B2, B3, B7, B8⟩ ?_
  (try simp (config := {maxSteps := 2000000}) only [Act.put, List.setIfInBounds_toArray, List.set_cons_zero, List.set_cons_succ, List.getElem_toArray, List.getElem_cons_zero, List.getElem_cons_succ])
  refine wpAnyH_take (i := 4) (oi := _) (v := .agg #[.bool b2, .slice A2 n2 c2]) rfl (by kernel_rfl) (by kernel_rfl) (by kernel_rfl) (fun _ _ _ h => h) (Or.inl ⟨by kernel_rfl, fun W hSw => by have Cb := hSw.2.2.1.cells; ((try dsimp only at hSw); go_simp; (try (with_reducible rfl)))⟩) ⟨hcur, B2, B3, B7, B8⟩ ?_
  (try simp (config := {maxSteps := 2000000}) only [Act.put, List.setIfInBounds_toArray, List.set_cons_zero, List.set_cons_succ, List.getElem_toArray, List.getElem_cons_zero, List.getElem_cons_succ])
  refine wpAnyH_ready (rs := [1, 5]) (by kernel_rfl) (by simp) ?_
  refine AllReadyH.cons (o := _) rfl (fun K hK => ?_) ?_
  · go_simp; (with_reducible refine (rintF (1) (by omega) (by omega)).mono ?_); rintro e wn ⟨vn, rfl, ⟨b33, A33, n33, c33, rfl, o, hf⟩, hb⟩; replace F := (F.below hb).cons o; have hne33_2 : ∀ k ∈ addrBlock A33, k ≠ g2 := (fun k hk e => by (have h1 := (hf k hk).1; have h2 := B2.lt; omega)); have hne33_3 : ∀ k ∈ addrBlock A33, k ≠ g3 := (fun k hk e => by (have h1 := (hf k hk).1; have h2 := B3.lt; omega)); have hne33_4 : ∀ k ∈ addrBlock A33, k ≠ g4 := (fun k hk e => by (have h1 := (hf k hk).1; have h2 := B4.lt; omega)); have hne33_5 : ∀ k ∈ addrBlock A33, k ≠ g5 := (fun k hk e => by (have h1 := (hf k hk).1; have h2 := B5.lt; omega)); have hne33_7 : ∀ k ∈ addrBlock A33, k ≠ g7 := (fun k hk e => by (have h1 := (hf k hk).1; have h2 := B7.lt; omega)); have hne33_8 : ∀ k ∈ addrBlock A33, k ≠ g8 := (fun k hk e => by (have h1 := (hf k hk).1; have h2 := B8.lt; omega)); have hge33 : ∀ k ∈ addrBlock A33, w.heap.size ≤ k := (fun k hk => Nat.le_trans hcur.size (hf k hk).1); have hfr33 : ∀ k ∈ addrBlock A33, k < _ := (fun k hk => (hf k hk).2); clear hf; replace B2 := B2.below hb; replace B3 := B3.below hb; replace B4 := B4.below hb; replace B5 := B5.below hb; replace B7 := B7.below hb; replace B8 := B8.below hb; replace hfr10 : ∀ k ∈ addrBlock A10, k < _ := (fun k hk => Nat.lt_of_lt_of_le (hfr10 k hk) hb.size); replace hfr11 : ∀ k ∈ addrBlock A11, k < _ := (fun k hk => Nat.lt_of_lt_of_le (hfr11 k hk) hb.size); replace hcur := bthen hcur hb; go_wp2_with fail
    refine hK.out _ _ ⟨hcur, B2, B3, B7, B8⟩ (fun hHeld => ?_)
    clear hK K hHeld
    (try simp (config := {maxSteps := 2000000}) only [Act.put, List.setIfInBounds_toArray, List.set_cons_zero, List.set_cons_succ, List.getElem_toArray, List.getElem_cons_zero, List.getElem_cons_succ])
    refine wpAnyH_ready (rs := [2, 5]) (by kernel_rfl) (by simp) ?_
    refine AllReadyH.cons (o := _) rfl (fun K hK => ?_) ?_
    · go_simp; (with_reducible refine (rsubF F (by repeat (first | exact List.mem_cons_self .. | apply List.mem_cons_of_mem)) (by repeat (first | exact List.mem_cons_self .. | apply List.mem_cons_of_mem)) (by omega)).mono ?_); rintro e wn ⟨vn, rfl, ⟨b34, A34, n34, c34, rfl, o, hf⟩, hb⟩; replace F := (F.below hb).cons o; have hne34_2 : ∀ k ∈ addrBlock A34, k ≠ g2 := (fun k hk e => by (have h1 := (hf k hk).1; have h2 := B2.lt; omega)); have hne34_3 : ∀ k ∈ addrBlock A34, k ≠ g3 := (fun k hk e => by (have h1 := (hf k hk).1; have h2 := B3.lt; omega)); have hne34_4 : ∀ k ∈ addrBlock A34, k ≠ g4 := (fun k hk e => by (have h1 := (hf k hk).1; have h2 := B4.lt; omega)); have hne34_5 : ∀ k ∈ addrBlock A34, k ≠ g5 := (fun k hk e => by (have h1 := (hf k hk).1; have h2 := B5.lt; omega)); have hne34_7 : ∀ k ∈ addrBlock A34, k ≠ g7 := (fun k hk e => by (have h1 := (hf k hk).1; have h2 := B7.lt; omega)); have hne34_8 : ∀ k ∈ addrBlock A34, k ≠ g8 := (fun k hk e => by (have h1 := (hf k hk).1; have h2 := B8.lt; omega)); have hge34 : ∀ k ∈ addrBlock A34, w.heap.size ≤ k := (fun k hk => Nat.le_trans hcur.size (hf k hk).1); have hfr34 : ∀ k ∈ addrBlock A34, k < _ := (fun k hk => (hf k hk).2); clear hf; replace B2 := B2.below hb; replace B3 := B3.below hb; replace B4 := B4.below hb; replace B5 := B5.below hb; replace B7 := B7.below hb; replace B8 := B8.below hb; replace hfr10 : ∀ k ∈ addrBlock A10, k < _ := (fun k hk => Nat.lt_of_lt_of_le (hfr10 k hk) hb.size); replace hfr11 : ∀ k ∈ addrBlock A11, k < _ := (fun k hk => Nat.lt_of_lt_of_le (hfr11 k hk) hb.size); replace hfr33 : ∀ k ∈ addrBlock A33, k < _ := (fun k hk => Nat.lt_of_lt_of_le (hfr33 k hk) hb.size); replace hcur := bthen hcur hb; go_wp2_with fail
      refine hK.out _ _ ⟨hcur, B2, B3, B7, B8⟩ (fun hHeld => ?_)
      clear hK K hHeld
      (try simp (config := {maxSteps := 2000000}) only [Act.put, List.setIfInBounds_toArray, List.set_cons_zero, List.set_cons_succ, List.getElem_toArray, List.getElem_cons_zero, List.getElem_cons_succ])
      refine wpAnyH_ready (rs := [5]) (by kernel_rfl) (by simp) ?_
      refine AllReadyH.cons (o := _) rfl (fun K hK => ?_) AllReadyH.nil
      refine st_lit (v := fun g => .slice (some ⟨g, 0, none⟩) 2 2) 37 rfl (cs := [.bool b11, .slice A11 (m11 + 1) c11, .bool b2, .slice A2 n2 c2]) (t := 26) (by go_simp; try rfl) ?_; intro g37 wn hb Bl37 hg37; replace F := F.below hb; replace B2 := B2.below hb; replace B3 := B3.below hb; replace B4 := B4.below hb; replace B5 := B5.below hb; replace B7 := B7.below hb; replace B8 := B8.below hb; replace hfr10 : ∀ k ∈ addrBlock A10, k < _ := (fun k hk => Nat.lt_of_lt_of_le (hfr10 k hk) hb.size); replace hfr11 : ∀ k ∈ addrBlock A11, k < _ := (fun k hk => Nat.lt_of_lt_of_le (hfr11 k hk) hb.size); replace hfr33 : ∀ k ∈ addrBlock A33, k < _ := (fun k hk => Nat.lt_of_lt_of_le (hfr33 k hk) hb.size); replace hfr34 : ∀ k ∈ addrBlock A34, k < _ := (fun k hk => Nat.lt_of_lt_of_le (hfr34 k hk) hb.size); replace hcur := bthen hcur hb
      refine hK.out _ _ ⟨hcur, B2, B3, B7, B8⟩ (fun hHeld => ?_)
      clear hK K hHeld
      (try simp (config := {maxSteps := 2000000}) only [Act.put, List.setIfInBounds_toArray, List.set_cons_zero, List.set_cons_succ, List.getElem_toArray, List.getElem_cons_zero, List.getElem_cons_succ])
      refine wpAnyH_ready (rs := [6]) (by kernel_rfl) (by simp) ?_
      refine AllReadyH.cons (o := _) rfl (fun K hK => ?_) AllReadyH.nil
      go_simp; (with_reducible refine (raddF F Bl37 (by repeat (first | exact List.mem_cons_self .. | apply List.mem_cons_of_mem)) (by repeat (first | exact List.mem_cons_self .. | apply List.mem_cons_of_mem)) (by omega)).mono ?_); rintro e wn ⟨vn, rfl, ⟨b38, A38, n38, c38, rfl, o, hf⟩, hb⟩; replace F := (F.below hb).cons o; have hne38_2 : ∀ k ∈ addrBlock A38, k ≠ g2 := (fun k hk e => by (have h1 := (hf k hk).1; have h2 := B2.lt; omega)); have hne38_3 : ∀ k ∈ addrBlock A38, k ≠ g3 := (fun k hk e => by (have h1 := (hf k hk).1; have h2 := B3.lt; omega)); have hne38_4 : ∀ k ∈ addrBlock A38, k ≠ g4 := (fun k hk e => by (have h1 := (hf k hk).1; have h2 := B4.lt; omega)); have hne38_5 : ∀ k ∈ addrBlock A38, k ≠ g5 := (fun k hk e => by (have h1 := (hf k hk).1; have h2 := B5.lt; omega)); have hne38_7 : ∀ k ∈ addrBlock A38, k ≠ g7 := (fun k hk e => by (have h1 := (hf k hk).1; have h2 := B7.lt; omega)); have hne38_8 : ∀ k ∈ addrBlock A38, k ≠ g8 := (fun k hk e => by (have h1 := (hf k hk).1; have h2 := B8.lt; omega)); have hge38 : ∀ k ∈ addrBlock A38, w.heap.size ≤ k := (fun k hk => Nat.le_trans hcur.size (hf k hk).1); have hfr38 : ∀ k ∈ addrBlock A38, k < _ := (fun k hk => (hf k hk).2); clear hf; replace B2 := B2.below hb; replace B3 := B3.below hb; replace B4 := B4.below hb; replace B5 := B5.below hb; replace B7 := B7.below hb; replace B8 := B8.below hb; replace Bl37 := Bl37.below hb; replace hfr10 : ∀ k ∈ addrBlock A10, k < _ := (fun k hk => Nat.lt_of_lt_of_le (hfr10 k hk) hb.size); replace hfr11 : ∀ k ∈ addrBlock A11, k < _ := (fun k hk => Nat.lt_of_lt_of_le (hfr11 k hk) hb.size); replace hfr33 : ∀ k ∈ addrBlock A33, k < _ := (fun k hk => Nat.lt_of_lt_of_le (hfr33 k hk) hb.size); replace hfr34 : ∀ k ∈ addrBlock A34, k < _ := (fun k hk => Nat.lt_of_lt_of_le (hfr34 k hk) hb.size); replace hcur := bthen hcur hb; go_wp2_with fail
      refine hK.out _ _ ⟨hcur, B2, B3, B7, B8⟩ (fun hHeld => ?_)
      clear hK K hHeld
      (try simp (config := {maxSteps := 2000000}) only [Act.put, List.setIfInBounds_toArray, List.set_cons_zero, List.set_cons_succ, List.getElem_toArray, List.getElem_cons_zero, List.getElem_cons_succ])
      refine wpAnyH_ready (rs := [7]) (by kernel_rfl) (by simp) ?_
      refine AllReadyH.cons (o := _) rfl (fun K hK => ?_) AllReadyH.nil
      refine st_store rfl rfl B4 (news := [.bool b34, .slice A34 n34 c34]) (by rfl) infoNum (by simp) (by simp [Value.oneCell']) ?_; intro wn hon Bx; simp only [List.take_zero, List.nil_append, List.length_cons, List.length_nil, List.drop_succ_cons, List.drop_zero, List.append_nil, List.cons_append] at Bx; replace B4 := Bx; clear Bx; replace B2 := B2.only hon (Ne.symm hneb4_2); replace B3 := B3.only hon (Ne.symm hneb4_3); replace B5 := B5.only hon hneb5_4; replace B7 := B7.only hon hneb7_4; replace B8 := B8.only hon hneb8_4; have oo4 : NR.Ok _ _ := (F.out _ (show (⟨b34, A34, n34, c34, _, _, _⟩ : NR) ∈ _ from (by repeat (first | exact List.mem_cons_self .. | apply List.mem_cons_of_mem)))).only hon hne34_4; have F1 := F; clear F; have F := F0.below (hcur.trans (hon.below hg4)); replace F := F.cons ((F1.out _ (show (⟨b38, A38, n38, c38, _, _, _⟩ : NR) ∈ _ from (by repeat (first | exact List.mem_cons_self .. | apply List.mem_cons_of_mem)))).only hon hne38_4); replace hfr10 : ∀ k ∈ addrBlock A10, k < _ := (fun k hk => Nat.lt_of_lt_of_eq (hfr10 k hk) hon.size.symm); replace hfr11 : ∀ k ∈ addrBlock A11, k < _ := (fun k hk => Nat.lt_of_lt_of_eq (hfr11 k hk) hon.size.symm); replace hfr33 : ∀ k ∈ addrBlock A33, k < _ := (fun k hk => Nat.lt_of_lt_of_eq (hfr33 k hk) hon.size.symm); replace hfr34 : ∀ k ∈ addrBlock A34, k < _ := (fun k hk => Nat.lt_of_lt_of_eq (hfr34 k hk) hon.size.symm); replace hfr38 : ∀ k ∈ addrBlock A38, k < _ := (fun k hk => Nat.lt_of_lt_of_eq (hfr38 k hk) hon.size.symm); clear F1; replace hcur := hcur.trans (hon.below hg4); clear hon
      refine hK.out _ _ ⟨hcur, B2, B3, B7, B8⟩ (fun hHeld => ?_)
      clear hK K hHeld
      (try simp (config := {maxSteps := 2000000}) only [Act.put, List.setIfInBounds_toArray, List.set_cons_zero, List.set_cons_succ, List.getElem_toArray, List.getElem_cons_zero, List.getElem_cons_succ])
      refine wpAnyH_ready (rs := [8]) (by kernel_rfl) (by simp) ?_
      refine AllReadyH.cons (o := _) rfl (fun K hK => ?_) AllReadyH.nil
      refine st_store rfl rfl B5 (news := [.bool b38, .slice A38 n38 c38]) (by rfl) infoNum (by simp) (by simp [Value.oneCell']) ?_; intro wn hon Bx; simp only [List.take_zero, List.nil_append, List.length_cons, List.length_nil, List.drop_succ_cons, List.drop_zero, List.append_nil, List.cons_append] at Bx; replace B5 := Bx; clear Bx; replace B2 := B2.only hon (Ne.symm hneb5_2); replace B3 := B3.only hon (Ne.symm hneb5_3); replace B4 := B4.only hon (Ne.symm hneb5_4); replace B7 := B7.only hon hneb7_5; replace B8 := B8.only hon hneb8_5; have oo5 : NR.Ok _ _ := (F.out _ (show (⟨b38, A38, n38, c38, _, _, _⟩ : NR) ∈ _ from (by repeat (first | exact List.mem_cons_self .. | apply List.mem_cons_of_mem)))).only hon hne38_5; replace oo4 := oo4.only hon hne34_5; have F1 := F; clear F; have F := F0.below (hcur.trans (hon.below hg5)); replace hfr10 : ∀ k ∈ addrBlock A10, k < _ := (fun k hk => Nat.lt_of_lt_of_eq (hfr10 k hk) hon.size.symm); replace hfr11 : ∀ k ∈ addrBlock A11, k < _ := (fun k hk => Nat.lt_of_lt_of_eq (hfr11 k hk) hon.size.symm); replace hfr33 : ∀ k ∈ addrBlock A33, k < _ := (fun k hk => Nat.lt_of_lt_of_eq (hfr33 k hk) hon.size.symm); replace hfr34 : ∀ k ∈ addrBlock A34, k < _ := (fun k hk => Nat.lt_of_lt_of_eq (hfr34 k hk) hon.size.symm); replace hfr38 : ∀ k ∈ addrBlock A38, k < _ := (fun k hk => Nat.lt_of_lt_of_eq (hfr38 k hk) hon.size.symm); clear F1; replace hcur := hcur.trans (hon.below hg5); clear hon
      refine hK.out _ _ ⟨hcur, B2, B3, B7, B8⟩ (fun hHeld => ?_)
      clear hK K hHeld
      (try simp (config := {maxSteps := 2000000}) only [Act.put, List.setIfInBounds_toArray, List.set_cons_zero, List.set_cons_succ, List.getElem_toArray, List.getElem_cons_zero, List.getElem_cons_succ])
      refine wpAnyH_ready (rs := [9]) (by kernel_rfl) (by simp) ?_
      refine AllReadyH.cons (o := _) rfl (fun K hK => ?_) AllReadyH.nil
      go_simp
      refine hK.out _ _ ⟨hcur, B2, B3, B7, B8⟩ (fun hHeld => ?_)
      clear hK K hHeld
      (try simp (config := {maxSteps := 2000000}) only [Act.put, List.setIfInBounds_toArray, List.set_cons_zero, List.set_cons_succ, List.getElem_toArray, List.getElem_cons_zero, List.getElem_cons_succ])
      refine wpAnyH_done (by kernel_rfl) ?_ _
      refine NoPanic.normal ?_
      obtain ⟨rfl⟩ := hQ7
      (go_wp2_with fail)
      refine bodyPost_ret (results_cct rfl _ _ g4 g5 26 26 #[.bool b34, .slice A34 n34 c34] #[.bool b38, .slice A38 n38 c38] (0, 0) (0, 0) _ rfl rfl B4.h B5.h Tryd.underlying26 rfl (by kernel_rfl) (by kernel_rfl)) rfl ?_
      exact ⟨_, rfl, ⟨_, _, rfl, ⟨_, _, _, _, rfl, ⟨oo4.ex, Nat.le_trans oo4.le (by simp only; omega)⟩, fun k hk => ⟨hge34 k hk, hfr34 k hk⟩⟩, ⟨_, _, _, _, rfl, ⟨oo5.ex, Nat.le_trans oo5.le (by simp only; omega)⟩, fun k hk => ⟨hge38 k hk, hfr38 k hk⟩⟩⟩, hcur⟩
    refine AllReadyH.cons (o := _) rfl (fun K hK => ?_) ?_
    · refine st_lit (v := fun g => .slice (some ⟨g, 0, none⟩) 2 2) 37 rfl (cs := [.bool b11, .slice A11 (m11 + 1) c11, .bool b2, .slice A2 n2 c2]) (t := 26) (by go_simp; try rfl) ?_; intro g37 wn hb Bl37 hg37; replace F := F.below hb; replace B2 := B2.below hb; replace B3 := B3.below hb; replace B4 := B4.below hb; replace B5 := B5.below hb; replace B7 := B7.below hb; replace B8 := B8.below hb; replace hfr10 : ∀ k ∈ addrBlock A10, k < _ := (fun k hk => Nat.lt_of_lt_of_le (hfr10 k hk) hb.size); replace hfr11 : ∀ k ∈ addrBlock A11, k < _ := (fun k hk => Nat.lt_of_lt_of_le (hfr11 k hk) hb.size); replace hfr33 : ∀ k ∈ addrBlock A33, k < _ := (fun k hk => Nat.lt_of_lt_of_le (hfr33 k hk) hb.size); replace hcur := bthen hcur hb
      refine hK.out _ _ ⟨hcur, B2, B3, B7, B8⟩ (fun hHeld => ?_)
      clear hK K hHeld
      (try simp (config := {maxSteps := 2000000}) only [Act.put, List.setIfInBounds_toArray, List.set_cons_zero, List.set_cons_succ, List.getElem_toArray, List.getElem_cons_zero, List.getElem_cons_succ])
      refine wpAnyH_ready (rs := [2]) (by kernel_rfl) (by simp) ?_
      refine AllReadyH.cons (o := _) rfl (fun K hK => ?_) AllReadyH.nil
      go_simp; (with_reducible refine (rsubF F (by repeat (first | exact List.mem_cons_self .. | apply List.mem_cons_of_mem)) (by repeat (first | exact List.mem_cons_self .. | apply List.mem_cons_of_mem)) (by omega)).mono ?_); rintro e wn ⟨vn, rfl, ⟨b34, A34, n34, c34, rfl, o, hf⟩, hb⟩; replace F := (F.below hb).cons o; have hne34_2 : ∀ k ∈ addrBlock A34, k ≠ g2 := (fun k hk e => by (have h1 := (hf k hk).1; have h2 := B2.lt; omega)); have hne34_3 : ∀ k ∈ addrBlock A34, k ≠ g3 := (fun k hk e => by (have h1 := (hf k hk).1; have h2 := B3.lt; omega)); have hne34_4 : ∀ k ∈ addrBlock A34, k ≠ g4 := (fun k hk e => by (have h1 := (hf k hk).1; have h2 := B4.lt; omega)); have hne34_5 : ∀ k ∈ addrBlock A34, k ≠ g5 := (fun k hk e => by (have h1 := (hf k hk).1; have h2 := B5.lt; omega)); have hne34_7 : ∀ k ∈ addrBlock A34, k ≠ g7 := (fun k hk e => by (have h1 := (hf k hk).1; have h2 := B7.lt; omega)); have hne34_8 : ∀ k ∈ addrBlock A34, k ≠ g8 := (fun k hk e => by (have h1 := (hf k hk).1; have h2 := B8.lt; omega)); have hge34 : ∀ k ∈ addrBlock A34, w.heap.size ≤ k := (fun k hk => Nat.le_trans hcur.size (hf k hk).1); have hfr34 : ∀ k ∈ addrBlock A34, k < _ := (fun k hk => (hf k hk).2); clear hf; replace B2 := B2.below hb; replace B3 := B3.below hb; replace B4 := B4.below hb; replace B5 := B5.below hb; replace B7 := B7.below hb; replace B8 := B8.below hb; replace Bl37 := Bl37.below hb; replace hfr10 : ∀ k ∈ addrBlock A10, k < _ := (fun k hk => Nat.lt_of_lt_of_le (hfr10 k hk) hb.size); replace hfr11 : ∀ k ∈ addrBlock A11, k < _ := (fun k hk => Nat.lt_of_lt_of_le (hfr11 k hk) hb.size); replace hfr33 : ∀ k ∈ addrBlock A33, k < _ := (fun k hk => Nat.lt_of_lt_of_le (hfr33 k hk) hb.size); replace hcur := bthen hcur hb; go_wp2_with fail
      refine hK.out _ _ ⟨hcur, B2, B3, B7, B8⟩ (fun hHeld => ?_)
      clear hK K hHeld
      (try simp (config := {maxSteps := 2000000}) only [Act.put, List.setIfInBounds_toArray, List.set_cons_zero, List.set_cons_succ, List.getElem_toArray, List.getElem_cons_zero, List.getElem_cons_succ])
      refine wpAnyH_ready (rs := [6]) (by kernel_rfl) (by simp) ?_
      refine AllReadyH.cons (o := _) rfl (fun K hK => ?_) AllReadyH.nil
      go_simp; (with_reducible refine (raddF F Bl37 (by repeat (first | exact List.mem_cons_self .. | apply List.mem_cons_of_mem)) (by repeat (first | exact List.mem_cons_self .. | apply List.mem_cons_of_mem)) (by omega)).mono ?_); rintro e wn ⟨vn, rfl, ⟨b38, A38, n38, c38, rfl, o, hf⟩, hb⟩; replace F := (F.below hb).cons o; have hne38_2 : ∀ k ∈ addrBlock A38, k ≠ g2 := (fun k hk e => by (have h1 := (hf k hk).1; have h2 := B2.lt; omega)); have hne38_3 : ∀ k ∈ addrBlock A38, k ≠ g3 := (fun k hk e => by (have h1 := (hf k hk).1; have h2 := B3.lt; omega)); have hne38_4 : ∀ k ∈ addrBlock A38, k ≠ g4 := (fun k hk e => by (have h1 := (hf k hk).1; have h2 := B4.lt; omega)); have hne38_5 : ∀ k ∈ addrBlock A38, k ≠ g5 := (fun k hk e => by (have h1 := (hf k hk).1; have h2 := B5.lt; omega)); have hne38_7 : ∀ k ∈ addrBlock A38, k ≠ g7 := (fun k hk e => by (have h1 := (hf k hk).1; have h2 := B7.lt; omega)); have hne38_8 : ∀ k ∈ addrBlock A38, k ≠ g8 := (fun k hk e => by (have h1 := (hf k hk).1; have h2 := B8.lt; omega)); have hge38 : ∀ k ∈ addrBlock A38, w.heap.size ≤ k := (fun k hk => Nat.le_trans hcur.size (hf k hk).1); have hfr38 : ∀ k ∈ addrBlock A38, k < _ := (fun k hk => (hf k hk).2); clear hf; replace B2 := B2.below hb; replace B3 := B3.below hb; replace B4 := B4.below hb; replace B5 := B5.below hb; replace B7 := B7.below hb; replace B8 := B8.below hb; replace Bl37 := Bl37.below hb; replace hfr10 : ∀ k ∈ addrBlock A10, k < _ := (fun k hk => Nat.lt_of_lt_of_le (hfr10 k hk) hb.size); replace hfr11 : ∀ k ∈ addrBlock A11, k < _ := (fun k hk => Nat.lt_of_lt_of_le (hfr11 k hk) hb.size); replace hfr33 : ∀ k ∈ addrBlock A33, k < _ := (fun k hk => Nat.lt_of_lt_of_le (hfr33 k hk) hb.size); replace hfr34 : ∀ k ∈ addrBlock A34, k < _ := (fun k hk => Nat.lt_of_lt_of_le (hfr34 k hk) hb.size); replace hcur := bthen hcur hb; go_wp2_with fail
      refine hK.out _ _ ⟨hcur, B2, B3, B7, B8⟩ (fun hHeld => ?_)
      clear hK K hHeld
      (try simp (config := {maxSteps := 2000000}) only [Act.put, List.setIfInBounds_toArray, List.set_cons_zero, List.set_cons_succ, List.getElem_toArray, List.getElem_cons_zero, List.getElem_cons_succ])
      refine wpAnyH_ready (rs := [7]) (by kernel_rfl) (by simp) ?_
      refine AllReadyH.cons (o := _) rfl (fun K hK => ?_) AllReadyH.nil
      refine st_store rfl rfl B4 (news := [.bool b34, .slice A34 n34 c34]) (by rfl) infoNum (by simp) (by simp [Value.oneCell']) ?_; intro wn hon Bx; simp only [List.take_zero, List.nil_append, List.length_cons, List.length_nil, List.drop_succ_cons, List.drop_zero, List.append_nil, List.cons_append] at Bx; replace B4 := Bx; clear Bx; replace B2 := B2.only hon (Ne.symm hneb4_2); replace B3 := B3.only hon (Ne.symm hneb4_3); replace B5 := B5.only hon hneb5_4; replace B7 := B7.only hon hneb7_4; replace B8 := B8.only hon hneb8_4; have oo4 : NR.Ok _ _ := (F.out _ (show (⟨b34, A34, n34, c34, _, _, _⟩ : NR) ∈ _ from (by repeat (first | exact List.mem_cons_self .. | apply List.mem_cons_of_mem)))).only hon hne34_4; have F1 := F; clear F; have F := F0.below (hcur.trans (hon.below hg4)); replace F := F.cons ((F1.out _ (show (⟨b38, A38, n38, c38, _, _, _⟩ : NR) ∈ _ from (by repeat (first | exact List.mem_cons_self .. | apply List.mem_cons_of_mem)))).only hon hne38_4); replace hfr10 : ∀ k ∈ addrBlock A10, k < _ := (fun k hk => Nat.lt_of_lt_of_eq (hfr10 k hk) hon.size.symm); replace hfr11 : ∀ k ∈ addrBlock A11, k < _ := (fun k hk => Nat.lt_of_lt_of_eq (hfr11 k hk) hon.size.symm); replace hfr33 : ∀ k ∈ addrBlock A33, k < _ := (fun k hk => Nat.lt_of_lt_of_eq (hfr33 k hk) hon.size.symm); replace hfr34 : ∀ k ∈ addrBlock A34, k < _ := (fun k hk => Nat.lt_of_lt_of_eq (hfr34 k hk) hon.size.symm); replace hfr38 : ∀ k ∈ addrBlock A38, k < _ := (fun k hk => Nat.lt_of_lt_of_eq (hfr38 k hk) hon.size.symm); clear F1; replace hcur := hcur.trans (hon.below hg4); clear hon
      refine hK.out _ _ ⟨hcur, B2, B3, B7, B8⟩ (fun hHeld => ?_)
      clear hK K hHeld
      (try simp (config := {maxSteps := 2000000}) only [Act.put, List.setIfInBounds_toArray, List.set_cons_zero, List.set_cons_succ, List.getElem_toArray, List.getElem_cons_zero, List.getElem_cons_succ])
      refine wpAnyH_ready (rs := [8]) (by kernel_rfl) (by simp) ?_
      refine AllReadyH.cons (o := _) rfl (fun K hK => ?_) AllReadyH.nil
      refine st_store rfl rfl B5 (news := [.bool b38, .slice A38 n38 c38]) (by rfl) infoNum (by simp) (by simp [Value.oneCell']) ?_; intro wn hon Bx; simp only [List.take_zero, List.nil_append, List.length_cons, List.length_nil, List.drop_succ_cons, List.drop_zero, List.append_nil, List.cons_append] at Bx; replace B5 := Bx; clear Bx; replace B2 := B2.only hon (Ne.symm hneb5_2); replace B3 := B3.only hon (Ne.symm hneb5_3); replace B4 := B4.only hon (Ne.symm hneb5_4); replace B7 := B7.only hon hneb7_5; replace B8 := B8.only hon hneb8_5; have oo5 : NR.Ok _ _ := (F.out _ (show (⟨b38, A38, n38, c38, _, _, _⟩ : NR) ∈ _ from (by repeat (first | exact List.mem_cons_self .. | apply List.mem_cons_of_mem)))).only hon hne38_5; replace oo4 := oo4.only hon hne34_5; have F1 := F; clear F; have F := F0.below (hcur.trans (hon.below hg5)); replace hfr10 : ∀ k ∈ addrBlock A10, k < _ := (fun k hk => Nat.lt_of_lt_of_eq (hfr10 k hk) hon.size.symm); replace hfr11 : ∀ k ∈ addrBlock A11, k < _ := (fun k hk => Nat.lt_of_lt_of_eq (hfr11 k hk) hon.size.symm); replace hfr33 : ∀ k ∈ addrBlock A33, k < _ := (fun k hk => Nat.lt_of_lt_of_eq (hfr33 k hk) hon.size.symm); replace hfr34 : ∀ k ∈ addrBlock A34, k < _ := (fun k hk => Nat.lt_of_lt_of_eq (hfr34 k hk) hon.size.symm); replace hfr38 : ∀ k ∈ addrBlock A38, k < _ := (fun k hk => Nat.lt_of_lt_of_eq (hfr38 k hk) hon.size.symm); clear F1; replace hcur := hcur.trans (hon.below hg5); clear hon
      refine hK.out _ _ ⟨hcur, B2, B3, B7, B8⟩ (fun hHeld => ?_)
      clear hK K hHeld
      (try simp (config := {maxSteps := 2000000}) only [Act.put, List.setIfInBounds_toArray, List.set_cons_zero, List.set_cons_succ, List.getElem_toArray, List.getElem_cons_zero, List.getElem_cons_succ])
      refine wpAnyH_ready (rs := [9]) (by kernel_rfl) (by simp) ?_
      refine AllReadyH.cons (o := _) rfl (fun K hK => ?_) AllReadyH.nil
      go_simp
      refine hK.out _ _ ⟨hcur, B2, B3, B7, B8⟩ (fun hHeld => ?_)
      clear hK K hHeld
      (try simp (config := {maxSteps := 2000000}) only [Act.put, List.setIfInBounds_toArray, List.set_cons_zero, List.set_cons_succ, List.getElem_toArray, List.getElem_cons_zero, List.getElem_cons_succ])
      refine wpAnyH_done (by kernel_rfl) ?_ _
      refine NoPanic.normal ?_
      obtain ⟨rfl⟩ := hQ7
      (go_wp2_with fail)
      refine bodyPost_ret (results_cct rfl _ _ g4 g5 26 26 #[.bool b34, .slice A34 n34 c34] #[.bool b38, .slice A38 n38 c38] (0, 0) (0, 0) _ rfl rfl B4.h B5.h Tryd.underlying26 rfl (by kernel_rfl) (by kernel_rfl)) rfl ?_
      exact ⟨_, rfl, ⟨_, _, rfl, ⟨_, _, _, _, rfl, ⟨oo4.ex, Nat.le_trans oo4.le (by simp only; omega)⟩, fun k hk => ⟨hge34 k hk, hfr34 k hk⟩⟩, ⟨_, _, _, _, rfl, ⟨oo5.ex, Nat.le_trans oo5.le (by simp only; omega)⟩, fun k hk => ⟨hge38 k hk, hfr38 k hk⟩⟩⟩, hcur⟩
    exact AllReadyH.nil
  refine AllReadyH.cons (o := _) rfl (fun K hK => ?_) ?_
  · refine st_lit (v := fun g => .slice (some ⟨g, 0, none⟩) 2 2) 37 rfl (cs := [.bool b11, .slice A11 (m11 + 1) c11, .bool b2, .slice A2 n2 c2]) (t := 26) (by go_simp; try rfl) ?_; intro g37 wn hb Bl37 hg37; replace F := F.below hb; replace B2 := B2.below hb; replace B3 := B3.below hb; replace B4 := B4.below hb; replace B5 := B5.below hb; replace B7 := B7.below hb; replace B8 := B8.below hb; replace hfr10 : ∀ k ∈ addrBlock A10, k < _ := (fun k hk => Nat.lt_of_lt_of_le (hfr10 k hk) hb.size); replace hfr11 : ∀ k ∈ addrBlock A11, k < _ := (fun k hk => Nat.lt_of_lt_of_le (hfr11 k hk) hb.size); replace hcur := bthen hcur hb
    refine hK.out _ _ ⟨hcur, B2, B3, B7, B8⟩ (fun hHeld => ?_)
    clear hK K hHeld
    (try simp (config := {maxSteps := 2000000}) only [Act.put, List.setIfInBounds_toArray, List.set_cons_zero, List.set_cons_succ, List.getElem_toArray, List.getElem_cons_zero, List.getElem_cons_succ])
    refine wpAnyH_ready (rs := [1]) (by kernel_rfl) (by simp) ?_
    refine AllReadyH.cons (o := _) rfl (fun K hK => ?_) AllReadyH.nil
    go_simp; (with_reducible refine (rintF (1) (by omega) (by omega)).mono ?_); rintro e wn ⟨vn, rfl, ⟨b33, A33, n33, c33, rfl, o, hf⟩, hb⟩; replace F := (F.below hb).cons o; have hne33_2 : ∀ k ∈ addrBlock A33, k ≠ g2 := (fun k hk e => by (have h1 := (hf k hk).1; have h2 := B2.lt; omega)); have hne33_3 : ∀ k ∈ addrBlock A33, k ≠ g3 := (fun k hk e => by (have h1 := (hf k hk).1; have h2 := B3.lt; omega)); have hne33_4 : ∀ k ∈ addrBlock A33, k ≠ g4 := (fun k hk e => by (have h1 := (hf k hk).1; have h2 := B4.lt; omega)); have hne33_5 : ∀ k ∈ addrBlock A33, k ≠ g5 := (fun k hk e => by (have h1 := (hf k hk).1; have h2 := B5.lt; omega)); have hne33_7 : ∀ k ∈ addrBlock A33, k ≠ g7 := (fun k hk e => by (have h1 := (hf k hk).1; have h2 := B7.lt; omega)); have hne33_8 : ∀ k ∈ addrBlock A33, k ≠ g8 := (fun k hk e => by (have h1 := (hf k hk).1; have h2 := B8.lt; omega)); have hge33 : ∀ k ∈ addrBlock A33, w.heap.size ≤ k := (fun k hk => Nat.le_trans hcur.size (hf k hk).1); have hfr33 : ∀ k ∈ addrBlock A33, k < _ := (fun k hk => (hf k hk).2); clear hf; replace B2 := B2.below hb; replace B3 := B3.below hb; replace B4 := B4.below hb; replace B5 := B5.below hb; replace B7 := B7.below hb; replace B8 := B8.below hb; replace Bl37 := Bl37.below hb; replace hfr10 : ∀ k ∈ addrBlock A10, k < _ := (fun k hk => Nat.lt_of_lt_of_le (hfr10 k hk) hb.size); replace hfr11 : ∀ k ∈ addrBlock A11, k < _ := (fun k hk => Nat.lt_of_lt_of_le (hfr11 k hk) hb.size); replace hcur := bthen hcur hb; go_wp2_with fail
    refine hK.out _ _ ⟨hcur, B2, B3, B7, B8⟩ (fun hHeld => ?_)
    clear hK K hHeld
    (try simp (config := {maxSteps := 2000000}) only [Act.put, List.setIfInBounds_toArray, List.set_cons_zero, List.set_cons_succ, List.getElem_toArray, List.getElem_cons_zero, List.getElem_cons_succ])
    refine wpAnyH_ready (rs := [2]) (by kernel_rfl) (by simp) ?_
    refine AllReadyH.cons (o := _) rfl (fun K hK => ?_) AllReadyH.nil
    go_simp; (with_reducible refine (rsubF F (by repeat (first | exact List.mem_cons_self .. | apply List.mem_cons_of_mem)) (by repeat (first | exact List.mem_cons_self .. | apply List.mem_cons_of_mem)) (by omega)).mono ?_); rintro e wn ⟨vn, rfl, ⟨b34, A34, n34, c34, rfl, o, hf⟩, hb⟩; replace F := (F.below hb).cons o; have hne34_2 : ∀ k ∈ addrBlock A34, k ≠ g2 := (fun k hk e => by (have h1 := (hf k hk).1; have h2 := B2.lt; omega)); have hne34_3 : ∀ k ∈ addrBlock A34, k ≠ g3 := (fun k hk e => by (have h1 := (hf k hk).1; have h2 := B3.lt; omega)); have hne34_4 : ∀ k ∈ addrBlock A34, k ≠ g4 := (fun k hk e => by (have h1 := (hf k hk).1; have h2 := B4.lt; omega)); have hne34_5 : ∀ k ∈ addrBlock A34, k ≠ g5 := (fun k hk e => by (have h1 := (hf k hk).1; have h2 := B5.lt; omega)); have hne34_7 : ∀ k ∈ addrBlock A34, k ≠ g7 := (fun k hk e => by (have h1 := (hf k hk).1; have h2 := B7.lt; omega)); have hne34_8 : ∀ k ∈ addrBlock A34, k ≠ g8 := (fun k hk e => by (have h1 := (hf k hk).1; have h2 := B8.lt; omega)); have hge34 : ∀ k ∈ addrBlock A34, w.heap.size ≤ k := (fun k hk => Nat.le_trans hcur.size (hf k hk).1); have hfr34 : ∀ k ∈ addrBlock A34, k < _ := (fun k hk => (hf k hk).2); clear hf; replace B2 := B2.below hb; replace B3 := B3.below hb; replace B4 := B4.below hb; replace B5 := B5.below hb; replace B7 := B7.below hb; replace B8 := B8.below hb; replace Bl37 := Bl37.below hb; replace hfr10 : ∀ k ∈ addrBlock A10, k < _ := (fun k hk => Nat.lt_of_lt_of_le (hfr10 k hk) hb.size); replace hfr11 : ∀ k ∈ addrBlock A11, k < _ := (fun k hk => Nat.lt_of_lt_of_le (hfr11 k hk) hb.size); replace hfr33 : ∀ k ∈ addrBlock A33, k < _ := (fun k hk => Nat.lt_of_lt_of_le (hfr33 k hk) hb.size); replace hcur := bthen hcur hb; go_wp2_with fail
    refine hK.out _ _ ⟨hcur, B2, B3, B7, B8⟩ (fun hHeld => ?_)
    clear hK K hHeld
    (try simp (config := {maxSteps := 2000000}) only [Act.put, List.setIfInBounds_toArray, List.set_cons_zero, List.set_cons_succ, List.getElem_toArray, List.getElem_cons_zero, List.getElem_cons_succ])
    refine wpAnyH_ready (rs := [6]) (by kernel_rfl) (by simp) ?_
    refine AllReadyH.cons (o := _) rfl (fun K hK => ?_) AllReadyH.nil
    go_simp; (with_reducible refine (raddF F Bl37 (by repeat (first | exact List.mem_cons_self .. | apply List.mem_cons_of_mem)) (by repeat (first | exact List.mem_cons_self .. | apply List.mem_cons_of_mem)) (by omega)).mono ?_); rintro e wn ⟨vn, rfl, ⟨b38, A38, n38, c38, rfl, o, hf⟩, hb⟩; replace F := (F.below hb).cons o; have hne38_2 : ∀ k ∈ addrBlock A38, k ≠ g2 := (fun k hk e => by (have h1 := (hf k hk).1; have h2 := B2.lt; omega)); have hne38_3 : ∀ k ∈ addrBlock A38, k ≠ g3 := (fun k hk e => by (have h1 := (hf k hk).1; have h2 := B3.lt; omega)); have hne38_4 : ∀ k ∈ addrBlock A38, k ≠ g4 := (fun k hk e => by (have h1 := (hf k hk).1; have h2 := B4.lt; omega)); have hne38_5 : ∀ k ∈ addrBlock A38, k ≠ g5 := (fun k hk e => by (have h1 := (hf k hk).1; have h2 := B5.lt; omega)); have hne38_7 : ∀ k ∈ addrBlock A38, k ≠ g7 := (fun k hk e => by (have h1 := (hf k hk).1; have h2 := B7.lt; omega)); have hne38_8 : ∀ k ∈ addrBlock A38, k ≠ g8 := (fun k hk e => by (have h1 := (hf k hk).1; have h2 := B8.lt; omega)); have hge38 : ∀ k ∈ addrBlock A38, w.heap.size ≤ k := (fun k hk => Nat.le_trans hcur.size (hf k hk).1); have hfr38 : ∀ k ∈ addrBlock A38, k < _ := (fun k hk => (hf k hk).2); clear hf; replace B2 := B2.below hb; replace B3 := B3.below hb; replace B4 := B4.below hb; replace B5 := B5.below hb; replace B7 := B7.below hb; replace B8 := B8.below hb; replace Bl37 := Bl37.below hb; replace hfr10 : ∀ k ∈ addrBlock A10, k < _ := (fun k hk => Nat.lt_of_lt_of_le (hfr10 k hk) hb.size); replace hfr11 : ∀ k ∈ addrBlock A11, k < _ := (fun k hk => Nat.lt_of_lt_of_le (hfr11 k hk) hb.size); replace hfr33 : ∀ k ∈ addrBlock A33, k < _ := (fun k hk => Nat.lt_of_lt_of_le (hfr33 k hk) hb.size); replace hfr34 : ∀ k ∈ addrBlock A34, k < _ := (fun k hk => Nat.lt_of_lt_of_le (hfr34 k hk) hb.size); replace hcur := bthen hcur hb; go_wp2_with fail
    refine hK.out _ _ ⟨hcur, B2, B3, B7, B8⟩ (fun hHeld => ?_)
    clear hK K hHeld
    (try simp (config := {maxSteps := 2000000}) only [Act.put, List.setIfInBounds_toArray, List.set_cons_zero, List.set_cons_succ, List.getElem_toArray, List.getElem_cons_zero, List.getElem_cons_succ])
    refine wpAnyH_ready (rs := [7]) (by kernel_rfl) (by simp) ?_
    refine AllReadyH.cons (o := _) rfl (fun K hK => ?_) AllReadyH.nil
    refine st_store rfl rfl B4 (news := [.bool b34, .slice A34 n34 c34]) (by rfl) infoNum (by simp) (by simp [Value.oneCell']) ?_; intro wn hon Bx; simp only [List.take_zero, List.nil_append, List.length_cons, List.length_nil, List.drop_succ_cons, List.drop_zero, List.append_nil, List.cons_append] at Bx; replace B4 := Bx; clear Bx; replace B2 := B2.only hon (Ne.symm hneb4_2); replace B3 := B3.only hon (Ne.symm hneb4_3); replace B5 := B5.only hon hneb5_4; replace B7 := B7.only hon hneb7_4; replace B8 := B8.only hon hneb8_4; have oo4 : NR.Ok _ _ := (F.out _ (show (⟨b34, A34, n34, c34, _, _, _⟩ : NR) ∈ _ from (by repeat (first | exact List.mem_cons_self .. | apply List.mem_cons_of_mem)))).only hon hne34_4; have F1 := F; clear F; have F := F0.below (hcur.trans (hon.below hg4)); replace F := F.cons ((F1.out _ (show (⟨b38, A38, n38, c38, _, _, _⟩ : NR) ∈ _ from (by repeat (first | exact List.mem_cons_self .. | apply List.mem_cons_of_mem)))).only hon hne38_4); replace hfr10 : ∀ k ∈ addrBlock A10, k < _ := (fun k hk => Nat.lt_of_lt_of_eq (hfr10 k hk) hon.size.symm); replace hfr11 : ∀ k ∈ addrBlock A11, k < _ := (fun k hk => Nat.lt_of_lt_of_eq (hfr11 k hk) hon.size.symm); replace hfr33 : ∀ k ∈ addrBlock A33, k < _ := (fun k hk => Nat.lt_of_lt_of_eq (hfr33 k hk) hon.size.symm); replace hfr34 : ∀ k ∈ addrBlock A34, k < _ := (fun k hk => Nat.lt_of_lt_of_eq (hfr34 k hk) hon.size.symm); replace hfr38 : ∀ k ∈ addrBlock A38, k < _ := (fun k hk => Nat.lt_of_lt_of_eq (hfr38 k hk) hon.size.symm); clear F1; replace hcur := hcur.trans (hon.below hg4); clear hon
    refine hK.out _ _ ⟨hcur, B2, B3, B7, B8⟩ (fun hHeld => ?_)
    clear hK K hHeld
    (try simp (config := {maxSteps := 2000000}) only [Act.put, List.setIfInBounds_toArray, List.set_cons_zero, List.set_cons_succ, List.getElem_toArray, List.getElem_cons_zero, List.getElem_cons_succ])
    refine wpAnyH_ready (rs := [8]) (by kernel_rfl) (by simp) ?_
    refine AllReadyH.cons (o := _) rfl (fun K hK => ?_) AllReadyH.nil
    refine st_store rfl rfl B5 (news := [.bool b38, .slice A38 n38 c38]) (by rfl) infoNum (by simp) (by simp [Value.oneCell']) ?_; intro wn hon Bx; simp only [List.take_zero, List.nil_append, List.length_cons, List.length_nil, List.drop_succ_cons, List.drop_zero, List.append_nil, List.cons_append] at Bx; replace B5 := Bx; clear Bx; replace B2 := B2.only hon (Ne.symm hneb5_2); replace B3 := B3.only hon (Ne.symm hneb5_3); replace B4 := B4.only hon (Ne.symm hneb5_4); replace B7 := B7.only hon hneb7_5; replace B8 := B8.only hon hneb8_5; have oo5 : NR.Ok _ _ := (F.out _ (show (⟨b38, A38, n38, c38, _, _, _⟩ : NR) ∈ _ from (by repeat (first | exact List.mem_cons_self .. | apply List.mem_cons_of_mem)))).only hon hne38_5; replace oo4 := oo4.only hon hne34_5; have F1 := F; clear F; have F := F0.below (hcur.trans (hon.below hg5)); replace hfr10 : ∀ k ∈ addrBlock A10, k < _ := (fun k hk => Nat.lt_of_lt_of_eq (hfr10 k hk) hon.size.symm); replace hfr11 : ∀ k ∈ addrBlock A11, k < _ := (fun k hk => Nat.lt_of_lt_of_eq (hfr11 k hk) hon.size.symm); replace hfr33 : ∀ k ∈ addrBlock A33, k < _ := (fun k hk => Nat.lt_of_lt_of_eq (hfr33 k hk) hon.size.symm); replace hfr34 : ∀ k ∈ addrBlock A34, k < _ := (fun k hk => Nat.lt_of_lt_of_eq (hfr34 k hk) hon.size.symm); replace hfr38 : ∀ k ∈ addrBlock A38, k < _ := (fun k hk => Nat.lt_of_lt_of_eq (hfr38 k hk) hon.size.symm); clear F1; replace hcur := hcur.trans (hon.below hg5); clear hon
    refine hK.out _ _ ⟨hcur, B2, B3, B7, B8⟩ (fun hHeld => ?_)
    clear hK K hHeld
    (try simp (config := {maxSteps := 2000000}) only [Act.put, List.setIfInBounds_toArray, List.set_cons_zero, List.set_cons_succ, List.getElem_toArray, List.getElem_cons_zero, List.getElem_cons_succ])
    refine wpAnyH_ready (rs := [9]) (by kernel_rfl) (by simp) ?_
    refine AllReadyH.cons (o := _) rfl (fun K hK => ?_) AllReadyH.nil
    go_simp
    refine hK.out _ _ ⟨hcur, B2, B3, B7, B8⟩ (fun hHeld => ?_)
    clear hK K hHeld
    (try simp (config := {maxSteps := 2000000}) only [Act.put, List.setIfInBounds_toArray, List.set_cons_zero, List.set_cons_succ, List.getElem_toArray, List.getElem_cons_zero, List.getElem_cons_succ])
    refine wpAnyH_done (by kernel_rfl) ?_ _
    refine NoPanic.normal ?_
    obtain ⟨rfl⟩ := hQ7
    (go_wp2_with fail)
    refine bodyPost_ret (results_cct rfl _ _ g4 g5 26 26 #[.bool b34, .slice A34 n34 c34] #[.bool b38, .slice A38 n38 c38] (0, 0) (0, 0) _ rfl rfl B4.h B5.h Tryd.underlying26 rfl (by kernel_rfl) (by kernel_rfl)) rfl ?_
    exact ⟨_, rfl, ⟨_, _, rfl, ⟨_, _, _, _, rfl, ⟨oo4.ex, Nat.le_trans oo4.le (by simp only; omega)⟩, fun k hk => ⟨hge34 k hk, hfr34 k hk⟩⟩, ⟨_, _, _, _, rfl, ⟨oo5.ex, Nat.le_trans oo5.le (by simp only; omega)⟩, fun k hk => ⟨hge38 k hk, hfr38 k hk⟩⟩⟩, hcur⟩
  exact AllReadyH.nil
theorem rfloorF (F : Fs w L) (h : (⟨b, A, n, c, z, K, can⟩ : NR) ∈ L) (h' : (⟨b2, A2, n2, c2, z2, K2, can2⟩ : NR) ∈ L) (hT : FQ z z2 q r ok) (hK : K + K2 ≤ 274877906930) :
    Calls Tryd.prog 24 #[.agg #[.bool b, .slice A n c], .agg #[.bool b2, .slice A2 n2 c2]] w (Gives w fun v w' => ∃ qv rv, v = .tuple #[qv, rv, .bool ok] ∧ NumRes w q (K + K2 + 4) true qv w' ∧ NumRes w r (K + K2 + 4) true rv w') := by
  have F0 : Fs w [⟨b, A, n, c, z, K, can⟩, ⟨b2, A2, n2, c2, z2, K2, can2⟩] := ((Fs.nil w).cons (F.out _ h')).cons (F.out _ h)
  rcases hT with ⟨h0, rfl, rfl, rfl⟩ | ⟨h0, rfl, rfl, rfl⟩
  · exact rfloorZ_go F0 h0 hK
  · by_cases hr : z.tmod z2 = 0
    · exact rfloor0_go F0 h0 hr hK
    · by_cases hs : decide (z2 < 0) = decide (z.tmod z2 < 0)
      · exact rfloorS_go F0 h0 hr hs hK
      · exact rfloorD_go F0 h0 hr (by revert hs; cases decide (z2 < 0) <;> cases decide (z.tmod z2 < 0) <;> simp) hK
end
end Go.Proofs.YtigoofeodbbbhaaDoor
