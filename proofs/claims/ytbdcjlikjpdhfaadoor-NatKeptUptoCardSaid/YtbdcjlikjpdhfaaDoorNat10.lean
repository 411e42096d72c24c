/- nat.digit: one limb of a quotient; it is taken away from the rest. -/
import Derived.Test.YtbdcjlikjpdhfaaDoorNat9
import Derived.Test.YtbdcjlikjpdhfaaDoorKeep
namespace Go.Proofs.YtbdcjlikjpdhfaaDoor
open Go.RowKit Go.Proofs.YtbdcjlikjpdhfaaDoorL Go.Proofs.YtbdcjlikjpdhfaaDoorM
set_option linter.unusedVariables false
set_option linter.unusedSimpArgs false
theorem only_refl (g : Nat) (w : World) : Only g w w := ⟨rfl, rfl, rfl, rfl, fun _ _ => rfl⟩
theorem only_drewN {g : Nat} {w W : World} (h : Only g w W) (n : Nat) : Only g w (W.drewN n) := ⟨h.os, h.tape, h.output, h.size, h.block⟩
theorem blk_drewN {w : World} {g : Nat} {cs : List Value} {t : TypeId} (f : Blk w g cs t) (n : Nat) : Blk (w.drewN n) g cs t := ⟨f.h⟩
theorem mid_at (X S Z : List Nat) (a i k : Nat) (hX : X.length = i) (hS : S.length = k) : (X ++ (S ++ a :: Z))[i + k]? = some a := by
  subst hX hS
  rw [List.getElem?_append_right (by omega), Nat.add_sub_cancel_left, List.getElem?_append_right (Nat.le_refl _), Nat.sub_self]; rfl
theorem mid_set (X S Z : List Nat) (a v i k : Nat) (hX : X.length = i) (hS : S.length = k) : (X ++ (S ++ a :: Z)).set (i + k) v = X ++ ((S ++ [v]) ++ Z) := by
  subst hX hS
  rw [List.set_append_right _ _ (by omega), Nat.add_sub_cancel_left, List.set_append_right _ _ (Nat.le_refl _), Nat.sub_self]
  simp
theorem mid_lt (X S Z : List Nat) (a i k : Nat) (hX : X.length = i) (hS : S.length = k) : i + k < (X ++ (S ++ a :: Z)).length := by
  subst hX hS
  simp only [List.length_append, List.length_cons]; omega
theorem Blk.mid {w : World} {g : Nat} {X S Z : List Nat} {a i k : Nat} {e : TypeId} (B : Blk w g ((X ++ (S ++ a :: Z)).map valU) e) (hX : X.length = i) (hS : S.length = k) : w.cell? ⟨g, i + k, none⟩ = some (.int .u32 (a : Nat)) := by
  rw [B.cells, List.getElem?_map, mid_at X S Z a i k hX hS]; rfl
/-- a difference of two limbs and a borrow, in 64 bits -/
theorem borrow_step (r low br : Nat) (hr : r < 4294967296) (hl : low < 4294967296) (hb : br ≤ 1) : ∃ D1 D d b2 : Nat, IntKind.u64.wrap ((r : Int) - (low : Int)) = (D1 : Int) ∧ IntKind.u64.wrap ((D1 : Int) - (br : Int)) = (D : Int) ∧ D1 < 18446744073709551616 ∧ D < 18446744073709551616 ∧
    IntKind.u32.wrap (D : Int) = (d : Int) ∧ (D : Int) / 9223372036854775808 = (b2 : Int) ∧ d + low + br = r + 4294967296 * b2 ∧ d < 4294967296 ∧ b2 ≤ 1 := by
  have key : ∀ x : Int, IntKind.u64.wrap x = x % 18446744073709551616 := fun x => by simp [IntKind.wrap, IntKind.bits, IntKind.signed]
  have key2 : ∀ x : Int, IntKind.u32.wrap x = x % 4294967296 := fun x => by simp [IntKind.wrap, IntKind.bits, IntKind.signed]
  by_cases h1 : low ≤ r
  · by_cases h2 : low + br ≤ r
    · refine ⟨r - low, r - low - br, r - low - br, 0, ?_, ?_, by omega, by omega, ?_, ?_, by omega, by omega, by omega⟩
      · rw [key]; omega
      · rw [key]; omega
      · rw [key2]; omega
      · omega
    · refine ⟨r - low, 18446744073709551615, 4294967295, 1, ?_, ?_, by omega, by omega, ?_, ?_, by omega, by omega, by omega⟩
      · rw [key]; omega
      · rw [key]; omega
      · rw [key2]; omega
      · omega
  · refine ⟨r + 18446744073709551616 - low, r + 18446744073709551616 - low - br, r + 4294967296 - low - br, 1, ?_, ?_, by omega, by omega, ?_, ?_, by omega, by omega, by omega⟩
    · rw [key]; omega
    · rw [key]; omega
    · rw [key2]; omega
    · omega
theorem and_low (T : Nat) (h : T < 18446744073709551616) : bits .and .u64 (T : Int) 4294967295 = ((T % 4294967296 : Nat) : Int) := by
  have := u64_and_nat T 4294967295 h (by omega)
  rw [show ((4294967295 : Nat) : Int) = 4294967295 from rfl] at this
  rw [this]
  congr 1
  exact Nat.and_two_pow_sub_one_eq_mod T 32
set_option maxRecDepth 4000 in
set_option maxHeartbeats 4000000 in
theorem digit_any (X R0 Y M : List Nat) (i p g : Nat) (A2 : Option Addr) (cw c2 : Nat) (w : World) (B : Blk w g ((X ++ (R0 ++ Y)).map valU) 36) (hX : X.length = i) (hR : R0.length = p + 3) (hRl : ∀ x ∈ R0, x < 4294967296)
    (hr2 : Rd encU 1 w A2 M) (hM : M.length = p + 2) (hMl : ∀ x ∈ M, x < 4294967296) (hne : ∀ b ∈ addrBlock A2, b ≠ g) (hc2 : p + 2 ≤ c2) (hcw : p + 3 ≤ cw) (hp : p ≤ 4398046511104) (hn : 4294967296 ≤ 2 * M.getD (p + 1) 0) (hWD : valB 4294967296 R0 < 4294967296 * valB 4294967296 M) :
    Calls Tryd.prog 59 #[.slice (some ⟨g, i, none⟩) (p + 3) cw, .slice A2 (p + 2) c2] w fun e w' => e = .returned (.int .u32 ((valB 4294967296 R0 / valB 4294967296 M : Nat) : Int)) ∧ Only g w w' ∧
      ∃ R : List Nat, R.length = p + 3 ∧ (∀ x ∈ R, x < 4294967296) ∧ valB 4294967296 R = valB 4294967296 R0 % valB 4294967296 M ∧ Blk w' g ((X ++ (R ++ Y)).map valU) 36 := by
  have hrB : ∀ W, Only g w W → Rd encU 1 W A2 M := fun W ho => Rd.keep hr2 (fun _ b hb => ho.block b (hne b hb))
  obtain ⟨b2, off2, rfl⟩ := hr2.get (ne_nil_of_lt (i := 0) (by omega))
  have hlM := val_last2 4294967296 (by omega) M p hMl hM
  have hlR := val_last3 4294967296 (by omega) R0 p hRl hR
  have hv1 := getD_lt 4294967296 (by omega) M hMl (p + 1)
  have hv0 := getD_lt 4294967296 (by omega) M hMl p
  have hu2 := getD_lt 4294967296 (by omega) R0 hRl (p + 2)
  have hu1 := getD_lt 4294967296 (by omega) R0 hRl (p + 1)
  have hu0 := getD_lt 4294967296 (by omega) R0 hRl p
  have cM : ∀ W, Only g w W → ∀ j (hj : j < M.length), W.cell? ⟨b2, off2 + j, none⟩ = some (.int .u32 (M.getD j 0 : Nat)) := fun W ho j hj => by rw [getD_of_lt hj]; exact Rd.u (hrB W ho) j hj
  have cR : ∀ W, Blk W g ((X ++ (R0 ++ Y)).map valU) 36 → ∀ j (hj : j < R0.length), W.cell? ⟨g, i + j, none⟩ = some (.int .u32 (R0.getD j 0 : Nat)) := fun W B j hj => by
    rw [B.cells, List.getElem?_map, ← hX, List.getElem?_append_right (by omega), Nat.add_sub_cancel_left, List.getElem?_append_left hj, List.getElem?_eq_getElem hj, getD_of_lt hj]; rfl
  obtain ⟨v1, hv1e⟩ : ∃ v, v = M.getD (p + 1) 0 := ⟨_, rfl⟩
  obtain ⟨v0, hv0e⟩ : ∃ v, v = M.getD p 0 := ⟨_, rfl⟩
  obtain ⟨u2, hu2e⟩ : ∃ v, v = R0.getD (p + 2) 0 := ⟨_, rfl⟩
  obtain ⟨u1, hu1e⟩ : ∃ v, v = R0.getD (p + 1) 0 := ⟨_, rfl⟩
  obtain ⟨u0, hu0e⟩ : ∃ v, v = R0.getD p 0 := ⟨_, rfl⟩
  have k1 : ∀ W, Only g w W → W.cell? ⟨b2, off2 + (p + 1), none⟩ = some (.int .u32 (v1 : Nat)) := fun W ho => by rw [hv1e]; exact cM W ho (p + 1) (by omega)
  have k0 : ∀ W, Only g w W → W.cell? ⟨b2, off2 + p, none⟩ = some (.int .u32 (v0 : Nat)) := fun W ho => by rw [hv0e]; exact cM W ho p (by omega)
  have r2 : ∀ W, Blk W g ((X ++ (R0 ++ Y)).map valU) 36 → W.cell? ⟨g, i + (p + 2), none⟩ = some (.int .u32 (u2 : Nat)) := fun W B => by rw [hu2e]; exact cR W B (p + 2) (by omega)
  have r1 : ∀ W, Blk W g ((X ++ (R0 ++ Y)).map valU) 36 → W.cell? ⟨g, i + (p + 1), none⟩ = some (.int .u32 (u1 : Nat)) := fun W B => by rw [hu1e]; exact cR W B (p + 1) (by omega)
  have r0 : ∀ W, Blk W g ((X ++ (R0 ++ Y)).map valU) 36 → W.cell? ⟨g, i + p, none⟩ = some (.int .u32 (u0 : Nat)) := fun W B => by rw [hu0e]; exact cR W B p (by omega)
  obtain ⟨Wv, hWv⟩ : ∃ v, v = valB 4294967296 R0 := ⟨_, rfl⟩
  obtain ⟨D, hD⟩ : ∃ v, v = valB 4294967296 M := ⟨_, rfl⟩
  obtain ⟨P, hP⟩ : ∃ v, v = 4294967296 ^ p := ⟨_, rfl⟩
  have hP0 : 0 < P := by rw [hP]; exact Nat.pow_pos (by omega)
  rw [← hv1e, ← hv0e, ← hD, ← hP] at hlM
  rw [← hu2e, ← hu1e, ← hu0e, ← hWv, ← hP] at hlR
  rw [← hv1e] at hv1 hn
  rw [← hv0e] at hv0
  rw [← hu2e] at hu2
  rw [← hu1e] at hu1
  rw [← hu0e] at hu0
  rw [← hWv, ← hD] at hWD ⊢
  have hgs := guess_start 4294967296 Wv D v1 v0 u2 u1 u0 P (by omega) hP0 hlM.1 hlM.2 hlR.1 hlR.2 hWD hn hv1 hv0 hu1 hu0
  obtain ⟨top, htop⟩ : ∃ v, v = u2 * 4294967296 + u1 := ⟨_, rfl⟩
  obtain ⟨g0, hg0⟩ : ∃ v, v = top / v1 := ⟨_, rfl⟩
  obtain ⟨o0, ho0⟩ : ∃ v, v = top % v1 := ⟨_, rfl⟩
  rw [← htop, ← hg0, ← ho0] at hgs
  have etop := u64_shift_or u2 u1 hu2 hu1
  rw [← htop] at etop
  have eq0 : ((top : Int).tdiv (v1 : Int)) = (g0 : Int) := by rw [hg0, Int.tdiv_eq_ediv_of_nonneg (by omega)]; rfl
  have eo0 : ((top : Int).tmod (v1 : Int)) = (o0 : Int) := by rw [ho0, Int.tmod_eq_emod_of_nonneg (by omega)]; rfl
  have hv1p : 0 < v1 := by omega
  have hg0b : g0 ≤ 4294967297 := hgs.2.small
  have ho0b : o0 < 4294967296 := hgs.2.over
  have htb : top < 18446744073709551616 := by omega
  have HG0 := As.mk hgs.2
  have HlM := As.mk hlM
  have HlR := As.mk hlR
  have HWD := As.mk hWD
  have Hn := As.mk hn
  have K1 := As.mk k1
  have K0 := As.mk k0
  have R2 := As.mk r2
  have R1 := As.mk r1
  have R00 := As.mk r0
  have CM := As.mk cM
  have HP0 := As.mk hP0
  have Hdef := As.mk (And.intro hWv (And.intro hD (And.intro hP (And.intro hu2e (And.intro hRl (And.intro hMl (And.intro hX (And.intro hR hM))))))))
  have HR0 : As (∀ k, k < p + 3 → R0.drop k = R0.getD k 0 :: R0.drop (k + 1)) := ⟨fun k hk => by rw [drop_cons_of_lt R0 k (by omega), getD_of_lt (show k < R0.length by omega)]⟩
  have HD0 : As (0 < D) := ⟨by
    rcases Nat.eq_zero_or_pos D with h | h
    · rw [h, Nat.mul_zero] at hWD; omega
    · exact h⟩
  have ez1 : ((p : Int) + 2 - 1) = (p : Int) + 1 := by omega
  have ez2 : ((p : Int) + 2 - 2) = (p : Int) := by omega
  have c1 := k1 w (only_refl g w)
  have c2' := r2 w B
  have c3 := r1 w B
  clear hlM hlR hWD hn hgs hg0 ho0 htop hv1e hv0e hu2e hu1e hu0e hWv hD hP hX hR hM hRl hMl k1 k0 r2 r1 r0 cM cR hrB hP0 hr2 hne
  go_enter Tryd.func59, Tryd.ntmps59
  go_wp2
  go_quiet (fail)
  go_wp2
  go_quiet (fail)
  clear c1 c2' c3 eq0 eo0 etop
  go_upto_block 0 with (fail)
  go_cut [7] (fun v wx => ∃ gs : Nat, v = .int .u64 (gs : Int) ∧ As (gs < 4294967296) ∧ As (gs = Wv / D ∨ gs = Wv / D + 1) ∧ Only g w wx ∧ Blk wx g ((X ++ (R0 ++ Y)).map valU) 36)
  case first =>
    go_wp2
    go_loopw [7, 8] (fun v u wr => ∃ gs o : Nat, v = .int .u64 (gs : Int) ∧ u = .int .u64 (o : Int) ∧ o < 4294967296 ∧ gs ≤ 4294967297 ∧ As (Guess 4294967296 Wv D v1 v0 u2 u1 u0 gs o) ∧ Only g w wr ∧ Blk wr g ((X ++ (R0 ++ Y)).map valU) 36) (fun v _ _ => (intOf v).toNat)
    case atStart => exact ⟨g0, o0, rfl, rfl, ho0b, hg0b, HG0, only_drewN (only_drewN (only_refl g w) _) _, blk_drewN (blk_drewN B _) _⟩
    case round =>
      clear B HG0 hg0b ho0b
      obtain ⟨gs, o, rfl, rfl, hob, hgb, HG, ho, B⟩ := hrel
      have d1 := K1.out _ ho
      have d0 := K0.out _ ho
      have f0 := R00.out _ B
      obtain ⟨r, hr⟩ : ∃ r, r = o * 4294967296 + u0 := ⟨_, rfl⟩
      have er := u64_shift_or o u0 hob hu0
      rw [← hr] at er
      have hrb : r < 18446744073709551616 := by omega
      obtain ⟨q, hq⟩ : ∃ q, q = gs * v0 := ⟨_, rfl⟩
      have hqb : q ≤ 4294967297 * 4294967295 := by rw [hq]; exact Nat.mul_le_mul hgb (by omega)
      by_cases hc : 4294967296 ≤ gs ∨ r < q
      · have hlt := guess_too 4294967296 Wv D v1 v0 u2 u1 u0 P gs o (by omega) HP0.out HlM.out.1 HlR.out.2 HWD.out Hn.out HG.out (by rw [← hr, ← hq]; exact hc)
        have hnx := guess_next 4294967296 Wv D v1 v0 u2 u1 u0 gs o Hn.out hv1 HG.out hlt
        obtain ⟨e, he⟩ : ∃ e, gs = e + 1 := ⟨gs - 1, by generalize Wv / D = z at hlt; omega⟩
        subst he
        rw [Nat.add_sub_cancel] at hnx
        have eq1 : ((e : Int) + 1) * (v0 : Int) = (q : Int) := by rw [hq, Int.natCast_mul]; rfl
        have HN := As.mk hnx
        have Hq := As.mk hq
        have Hr := As.mk hr
        have hc2x : (4294967296 : Int) ≤ (e : Int) + 1 ∨ ((e : Int) + 1 < 4294967296 ∧ r < q) := by
          rcases hc with h | h
          · exact .inl (by omega)
          · by_cases h5 : 4294967296 ≤ e + 1
            · exact .inl (by omega)
            · exact .inr ⟨by omega, h⟩
        clear hlt hnx hq hr hc
        by_cases ho2 : o + v1 < 4294967296
        · have ho3 : (o : Int) + (v1 : Int) < 4294967296 := by omega
          have z3 : decide ((4294967296 : Int) ≤ (o : Int) + (v1 : Int)) = false := by simp; omega
          rcases hc2x with h5 | ⟨h5, h6⟩
          · have z1 : decide ((4294967296 : Int) ≤ (e : Int) + 1) = true := by simp; omega
            go_wp2
            go_quiet (fail)
            go_wp2
            go_roundw
            case rel => exact ⟨e, o + v1, by go_num, by go_num, ho2, by omega, ⟨HN.out.2.2.1 ho2⟩, only_drewN ho _, blk_drewN B _⟩
            case measure => simp [intOf]
          · have z1 : decide ((4294967296 : Int) ≤ (e : Int) + 1) = false := by simp; omega
            have z2 : decide ((r : Int) < (q : Int)) = true := by simp; omega
            go_wp2
            go_quiet (fail)
            go_wp2
            go_roundw
            case rel => exact ⟨e, o + v1, by go_num, by go_num, ho2, by omega, ⟨HN.out.2.2.1 ho2⟩, only_drewN ho _, blk_drewN B _⟩
            case measure => simp [intOf]
        · have ho3 : (4294967296 : Int) ≤ (o : Int) + (v1 : Int) := by omega
          have z3 : decide ((4294967296 : Int) ≤ (o : Int) + (v1 : Int)) = true := by simp; omega
          have HE : As (e < 4294967296 ∧ (e = Wv / D ∨ e = Wv / D + 1)) := ⟨HN.out.2.2.2 (by omega), guess_end 4294967296 Wv D v1 v0 u2 u1 u0 P e (o + v1) (by omega) HP0.out HlM.out.1 HlM.out.2 HlR.out.1 Hn.out hv0 HN.out.1 HN.out.2.1 (HN.out.2.2.2 (by omega)) (.inl (by omega))⟩
          rcases hc2x with h5 | ⟨h5, h6⟩
          · have z1 : decide ((4294967296 : Int) ≤ (e : Int) + 1) = true := by simp; omega
            go_wp2
            go_quiet (fail)
            go_wp2
            go_meet
            exact ⟨e, by go_num, ⟨HE.out.1⟩, ⟨HE.out.2⟩, only_drewN ho _, blk_drewN B _⟩
          · have z1 : decide ((4294967296 : Int) ≤ (e : Int) + 1) = false := by simp; omega
            have z2 : decide ((r : Int) < (q : Int)) = true := by simp; omega
            go_wp2
            go_quiet (fail)
            go_wp2
            go_meet
            exact ⟨e, by go_num, ⟨HE.out.1⟩, ⟨HE.out.2⟩, only_drewN ho _, blk_drewN B _⟩
      · have hg5 : gs < 4294967296 := by omega
        have HE : As (gs = Wv / D ∨ gs = Wv / D + 1) := ⟨guess_end 4294967296 Wv D v1 v0 u2 u1 u0 P gs o (by omega) HP0.out HlM.out.1 HlM.out.2 HlR.out.1 Hn.out hv0 HG.out.top HG.out.ge hg5 (.inr (by rw [← hr, ← hq]; omega))⟩
        have eq1 : (gs : Int) * (v0 : Int) = (q : Int) := by rw [hq, Int.natCast_mul]
        have z1 : decide ((4294967296 : Int) ≤ (gs : Int)) = false := by simp; omega
        have z1' : decide (4294967296 ≤ gs) = false := by simp; omega
        have z2 : decide ((r : Int) < (q : Int)) = false := by simp; omega
        have z2' : decide (r < q) = false := by simp; omega
        have Hq := As.mk hq
        have Hr := As.mk hr
        clear hq hr hc
        go_wp2
        go_quiet (fail)
        go_wp2
        go_meet
        exact ⟨gs, rfl, ⟨hg5⟩, HE, only_drewN ho _, blk_drewN B _⟩
  case rest =>
    clear B HG0 hg0b ho0b K1 K0 R2 R1 R00 HlM HlR HWD Hn HP0 hv1 hv0 hu1 hu0 hv1p htb ez1 ez2
    obtain ⟨gs, rfl, hgB, hgs, ho, B⟩ := hcut
    have hgb : gs < 4294967296 := hgB.out
    go_wp2
    go_loopw [84, 11, 12, 10, 9, 13] (fun v _ _ u y _ wr => ∃ (k cy br : Nat) (S : List Nat), k ≤ p + 2 ∧ cy < 4294967296 ∧ br ≤ 1 ∧ v = .int .i64 (k : Int) ∧ u = .int .u64 (cy : Int) ∧ y = .int .u64 (br : Int) ∧ As (S.length = k) ∧ As (∀ x ∈ S, x < 4294967296) ∧ As (valB 4294967296 S + gs * valB 4294967296 (M.take k) = valB 4294967296 (R0.take k) + 4294967296 ^ k * (cy + br)) ∧ Only g w wr ∧ Blk wr g ((X ++ (S ++ (R0.drop k ++ Y))).map valU) 36) (fun v _ _ _ _ _ _ => p + 2 - (intOf v).toNat)
    case atStart => exact ⟨0, 0, 0, [], by omega, by omega, by omega, rfl, rfl, rfl, ⟨rfl⟩, ⟨fun x hx => (nomatch hx)⟩, ⟨by simp [valB]⟩, ho, by simpa using B⟩
    case round =>
      clear B ho
      obtain ⟨k, cy, br, S, hk, hcy, hbr, rfl, rfl, rfl, hS, hSl, hV, ho, B⟩ := hrel
      obtain ⟨hWv, hD, hP, hu2e, hRl, hMl, hX, hR, hM⟩ := Hdef.out
      obtain ⟨r, hre⟩ : ∃ r, r = R0.getD k 0 := ⟨_, rfl⟩
      rw [HR0.out k (by omega), ← hre, List.cons_append] at B
      have hr4 : r < 4294967296 := by rw [hre]; exact getD_lt 4294967296 (by omega) R0 hRl k
      have hcellR := Blk.mid B hX hS.out
      have Hset := As.mk (fun v => mid_set X S (R0.drop (k + 1) ++ Y) r v i k hX hS.out)
      have Hlt := As.mk (mid_lt X S (R0.drop (k + 1) ++ Y) r i k hX hS.out)
      have htr := valB_take_succ 4294967296 R0 k
      rw [← hre] at htr
      by_cases h : k < p + 2
      · have hMk : k < M.length := by rw [hM]; exact h
        have hcellM := CM.out _ ho k hMk
        have htm := valB_take_succ 4294967296 M k
        have hy4 : M.getD k 0 < 4294967296 := getD_lt 4294967296 (by omega) M hMl k
        obtain ⟨y, hye⟩ : ∃ y, y = M.getD k 0 := ⟨_, rfl⟩
        rw [← hye] at hcellM htm hy4
        obtain ⟨q, hq⟩ : ∃ q, q = gs * y := ⟨_, rfl⟩
        have hqb : q ≤ 4294967295 * 4294967295 := by rw [hq]; exact Nat.mul_le_mul (by omega) (by omega)
        have eq1 : (gs : Int) * (y : Int) = (q : Int) := by rw [hq, Int.natCast_mul]
        obtain ⟨T, hT⟩ : ∃ T, T = cy + q := ⟨_, rfl⟩
        have e0 : (cy : Int) + (q : Int) = (T : Int) := by omega
        have hTb : T < 18446744073709551616 := by omega
        have ea := and_low T hTb
        obtain ⟨low, hlow⟩ : ∃ low, low = T % 4294967296 := ⟨_, rfl⟩
        obtain ⟨hi, hhi⟩ : ∃ hi, hi = T / 4294967296 := ⟨_, rfl⟩
        rw [← hlow] at ea
        have hl4 : low < 4294967296 := by omega
        have hh4 : hi < 4294967296 := by omega
        have eh : (T : Int) / 4294967296 = (hi : Int) := by rw [hhi]; rfl
        obtain ⟨D1, Dd, d, bb, b1, b3, b4, b5, b6, b7, b8, b9, b10⟩ := borrow_step r low br hr4 hl4 hbr
        have hst := take_step 4294967296 k (valB 4294967296 S) (valB 4294967296 (R0.take k)) (valB 4294967296 (M.take k)) gs cy br r y low hi d bb hV.out (by rw [← hq, ← hT, hlow, hhi, Nat.mod_add_div]) b8
        rw [← htm, ← htr] at hst
        have Hst : As (valB 4294967296 (S ++ [d]) + gs * valB 4294967296 (M.take (k + 1)) = valB 4294967296 (R0.take (k + 1)) + 4294967296 ^ (k + 1) * (hi + bb)) := ⟨by rw [valB_snoc, hS.out]; exact hst⟩
        have HS2 : As ((S ++ [d]).length = k + 1) := ⟨by simp [hS.out]⟩
        have HSl : As (∀ x ∈ S ++ [d], x < 4294967296) := ⟨snoc_lt hSl.out b9⟩
        have hkc : k < c2 := by omega
        have hkw : k < cw := by omega
        have hk3 : k < p + 3 := by omega
        have hki : (k : Int) < (p : Int) + 2 := by omega
        have hki3 : (k : Int) < (p : Int) + 3 := by omega
        have H8 := As.mk b8
        clear hre hye hq hT hlow hhi hst htm htr hMk hWv hD hP hu2e hRl hMl hX hR hM hV hS hSl b8
        go_wp2_with ((with_reducible refine g_store 109 ?_); go_must (refine ev_set rfl (by go_simp) B (u := d) (by go_simp; rfl) infoU Hlt.out (by rfl) ?_); intro w2 ho2 B2; rw [Hset.out] at B2)
        go_roundw
        case rel => exact ⟨k + 1, hi, bb, S ++ [d], by omega, hh4, b10, by go_num, by go_num, by go_num, HS2, HSl, Hst, ho.trans ho2, B2⟩
        case measure => simp [intOf]; omega
      · obtain rfl : k = p + 2 := by omega
        have hru : r = u2 := by rw [hre, hu2e]
        subst hru
        have hv := hV.out
        rw [List.take_of_length_le (by rw [hM]; exact Nat.le_refl _), ← hD] at hv
        rw [List.take_of_length_le (i := p + 2 + 1) (by rw [hR]; exact Nat.le_refl _), ← hWv] at htr
        have hnew := valB_lt 4294967296 (by omega) S hSl.out
        rw [hS.out] at hnew
        have hDle := valB_lt 4294967296 (by omega) M hMl
        rw [hM, ← hD] at hDle
        have hdrop : R0.drop (p + 2 + 1) = [] := List.drop_eq_nil_of_le (by rw [hR]; exact Nat.le_refl _)
        rw [hdrop, List.nil_append] at B
        simp only [hdrop, List.nil_append] at Hset Hlt
        obtain ⟨D1, Dd, d, bb, b1, b3, b4, b5, b6, b7, b8, b9, b10⟩ := borrow_step r cy br hr4 hcy hbr
        have hpw : p + 2 < cw := by omega
        rcases hgs.out with hg | hg
        · have hend := take_right (4294967296 ^ (p + 2)) D Wv r (valB 4294967296 S) (valB 4294967296 (R0.take (p + 2))) cy br gs hnew (by omega) hv htr hg HD0.out
          obtain rfl : bb = 0 := by omega
          obtain rfl : d = 0 := by omega
          have Hend : As ((S ++ [0]).length = p + 3 ∧ (∀ x ∈ S ++ [0], x < 4294967296) ∧ valB 4294967296 (S ++ [0]) = Wv % D) := ⟨by simp [hS.out], snoc_lt hSl.out (by omega), by rw [valB_snoc, Nat.mul_zero, Nat.add_zero]; exact hend.2⟩
          have Hg := As.mk hg
          have H8 := As.mk b8
          clear hre hv htr hnew hDle hdrop hg hend hWv hD hP hu2e hRl hMl hX hR hM hV hS hSl b8 hgs
          go_wp2_with ((with_reducible refine g_store 128 ?_); go_must (refine ev_set rfl (by go_simp) B (u := 0) (by go_simp; rfl) infoU Hlt.out (by rfl) ?_); intro w2 ho2 B2; rw [Hset.out] at B2)
          go_ret
          exact ⟨by rw [← Hg.out]; rfl, ho.trans ho2, S ++ [0], Hend.out.1, Hend.out.2.1, Hend.out.2.2, B2⟩
        · have hend := take_over (4294967296 ^ (p + 2)) D Wv r (valB 4294967296 S) (valB 4294967296 (R0.take (p + 2))) cy br gs hnew (by omega) hv htr hg HD0.out
          obtain rfl : bb = 1 := by omega
          have Hd1 : As (d = 4294967295) := ⟨by omega⟩
          obtain ⟨e, hee⟩ : ∃ e, e = Wv / D := ⟨_, rfl⟩
          rw [← hee] at hg
          subst hg
          have He := As.mk hee
          have Hend := As.mk hend.2
          have Hmod := As.mk (Nat.mod_lt Wv HD0.out)
          have HDle := As.mk (Nat.le_of_lt hDle)
          have Hdef2 := As.mk (And.intro hD (And.intro hMl (And.intro hX (And.intro hM (And.intro hS.out hSl.out)))))
          have H8 := As.mk b8
          clear hre hv htr hnew hDle hdrop hend hWv hD hP hu2e hRl hMl hX hR hM hV hS hSl b8 hgs hee
          go_wp2_with ((with_reducible refine g_store 128 ?_); go_must (refine ev_set rfl (by go_simp) B (u := d) (by go_simp; rfl) infoU Hlt.out (by rfl) ?_); intro w2 ho2 B2; rw [Hset.out] at B2)
          replace ho := ho.trans ho2
          clear B ho2 hcellR
          go_loopw [136, 15, 16, 10] (fun v _ _ u wr => ∃ (k cy : Nat) (S2 : List Nat), k ≤ p + 2 ∧ cy ≤ 1 ∧ v = .int .i64 (k : Int) ∧ u = .int .u64 (cy : Int) ∧ As (S2.length = k) ∧ As (∀ x ∈ S2, x < 4294967296) ∧ As (valB 4294967296 S2 + 4294967296 ^ k * cy = valB 4294967296 (M.take k) + valB 4294967296 (S.take k)) ∧ Only g w wr ∧ Blk wr g ((X ++ (S2 ++ (S.drop k ++ (d :: Y)))).map valU) 36) (fun v _ _ _ _ => p + 2 - (intOf v).toNat)
          case atStart => exact ⟨0, 0, [], by omega, by omega, rfl, rfl, ⟨rfl⟩, ⟨fun x hx => (nomatch hx)⟩, ⟨by simp [valB]⟩, ho, by simpa using B2⟩
          case round =>
            clear B2 ho
            obtain ⟨k, cy, S2, hk, hcy, rfl, rfl, hS2, hSl2, hV2, ho, B⟩ := hrel
            obtain ⟨hD, hMl, hX, hM, hS, hSl⟩ := Hdef2.out
            by_cases h : k < p + 2
            · have hMk : k < M.length := by rw [hM]; exact h
              have hSk : k < S.length := by rw [hS]; exact h
              have hcellM := CM.out _ ho k hMk
              have hy4 : M.getD k 0 < 4294967296 := getD_lt 4294967296 (by omega) M hMl k
              have ha4 : S.getD k 0 < 4294967296 := getD_lt 4294967296 (by omega) S hSl k
              have hst := add_step 4294967296 (by omega) M S S2 k cy hS2.out hV2.out
              obtain ⟨y, hye⟩ : ∃ y, y = M.getD k 0 := ⟨_, rfl⟩
              obtain ⟨a, hae⟩ : ∃ a, a = S.getD k 0 := ⟨_, rfl⟩
              rw [← hye] at hcellM hy4
              rw [← hae] at ha4
              rw [← hye, ← hae] at hst
              rw [drop_cons_of_lt S k hSk, ← getD_of_lt hSk, ← hae, List.cons_append] at B
              have hcellR := Blk.mid B hX hS2.out
              have Hset := As.mk (fun v => mid_set X S2 (S.drop (k + 1) ++ (d :: Y)) a v i k hX hS2.out)
              have Hlt := As.mk (mid_lt X S2 (S.drop (k + 1) ++ (d :: Y)) a i k hX hS2.out)
              obtain ⟨T, hT⟩ : ∃ T, T = y + a + cy := ⟨_, rfl⟩
              rw [← hT] at hst
              have e0 : (cy : Int) + ((a : Int) + (y : Int)) = (T : Int) := by omega
              have hTb : T < 8589934592 := by omega
              obtain ⟨low, hlow⟩ : ∃ low, low = T % 4294967296 := ⟨_, rfl⟩
              obtain ⟨hi, hhi⟩ : ∃ hi, hi = T / 4294967296 := ⟨_, rfl⟩
              rw [← hlow, ← hhi] at hst
              have hl4 : low < 4294967296 := by omega
              have hh4 : hi ≤ 1 := by omega
              have e1 : IntKind.u32.wrap (T : Int) = (low : Int) := by rw [hlow]; simp [IntKind.wrap, IntKind.bits, IntKind.signed]
              have eh : (T : Int) / 4294967296 = (hi : Int) := by rw [hhi]; rfl
              have Hst := As.mk hst
              have HS2 : As ((S2 ++ [low]).length = k + 1) := ⟨by simp [hS2.out]⟩
              have HSl2 : As (∀ x ∈ S2 ++ [low], x < 4294967296) := ⟨snoc_lt hSl2.out hl4⟩
              have hkc : k < c2 := by omega
              have hkw : k < cw := by omega
              have hk3 : k < p + 3 := by omega
              have hki : (k : Int) < (p : Int) + 2 := by omega
              have hki3 : (k : Int) < (p : Int) + 3 := by omega
              clear hye hae hT hlow hhi hst hMk hSk hD hMl hX hM hS hSl hS2 hSl2 hV2
              go_wp2_with ((with_reducible refine g_store 155 ?_); go_must (refine ev_set rfl (by go_simp) B (u := low) (by go_simp; rfl) infoU Hlt.out (by rfl) ?_); intro w4 ho4 B4; rw [Hset.out] at B4)
              go_roundw
              case rel => exact ⟨k + 1, hi, S2 ++ [low], by omega, hh4, by go_num, by go_num, HS2, HSl2, Hst, ho.trans ho4, B4⟩
              case measure => simp [intOf]; omega
            · obtain rfl : k = p + 2 := by omega
              have hv := hV2.out
              rw [List.take_of_length_le (by rw [hM]; exact Nat.le_refl _), List.take_of_length_le (by rw [hS]; exact Nat.le_refl _), ← hD, Nat.add_comm D] at hv
              have hlt2 := valB_lt 4294967296 (by omega) S2 hSl2.out
              rw [hS2.out] at hlt2
              have hbe := back_end (4294967296 ^ (p + 2)) D (Wv % D) (valB 4294967296 S) (valB 4294967296 S2) cy hlt2 hv Hend.out Hmod.out HDle.out
              obtain rfl : cy = 1 := hbe.1
              rw [List.drop_eq_nil_of_le (by rw [hS]; exact Nat.le_refl _), List.nil_append] at B
              have hcellR := Blk.mid B hX hS2.out
              have Hset := As.mk (fun v => mid_set X S2 Y d v i (p + 2) hX hS2.out)
              have Hlt := As.mk (mid_lt X S2 Y d i (p + 2) hX hS2.out)
              have Hfin : As ((S2 ++ [0]).length = p + 3 ∧ (∀ x ∈ S2 ++ [0], x < 4294967296) ∧ valB 4294967296 (S2 ++ [0]) = Wv % D) := ⟨by simp [hS2.out], snoc_lt hSl2.out (by omega), by rw [valB_snoc, Nat.mul_zero, Nat.add_zero]; exact hbe.2⟩
              have ew : IntKind.u32.wrap ((d : Int) + 1) = 0 := by rw [Hd1.out]; decide
              clear hv hlt2 hbe hD hMl hX hM hS hSl hS2 hSl2 hV2
              go_wp2_with ((with_reducible refine g_store 166 ?_); go_must (refine ev_set rfl (by go_simp) B (u := 0) (by go_simp; rfl) infoU Hlt.out (by rfl) ?_); intro w4 ho4 B4; rw [Hset.out] at B4)
              go_ret
              exact ⟨by rw [← He.out]; rfl, ho.trans ho4, S2 ++ [0], Hfin.out.1, Hfin.out.2.1, Hfin.out.2.2, B4⟩
end Go.Proofs.YtbdcjlikjpdhfaaDoor
