/- nat.Div: of any numbers. -/
import Derived.Test.YtbdcjlikjpdhfaaDoorNat10
import Derived.Test.YtbdcjlikjpdhfaaDoorNum1
namespace Go.Proofs.YtbdcjlikjpdhfaaDoor
open Go.RowKit Go.Proofs.YtbdcjlikjpdhfaaDoorL Go.Proofs.YtbdcjlikjpdhfaaDoorM
set_option linter.unusedVariables false
set_option linter.unusedSimpArgs false
/-- one round of the long division, told in numbers -/
theorem div_round (N qs : List Nat) (i p nq D A : Nat) (hN : N.length = p + 2 + nq) (hNl : ∀ x ∈ N, x < 4294967296) (hi : i < nq) (hD : D < 4294967296 ^ (p + 2)) (hlt : valB 4294967296 (N.drop (i + 1)) < D) (hv : D * valB 4294967296 (List.replicate (i + 1) 0 ++ qs) + valB 4294967296 N = A) :
    ∃ X R0 Y : List Nat, N = X ++ (R0 ++ Y) ∧ X.length = i ∧ R0.length = p + 3 ∧ (∀ x ∈ R0, x < 4294967296) ∧ valB 4294967296 R0 < 4294967296 * D ∧ valB 4294967296 R0 / D < 4294967296 ∧
      ∀ R : List Nat, R.length = p + 3 → (∀ x ∈ R, x < 4294967296) → valB 4294967296 R = valB 4294967296 R0 % D →
        (X ++ (R ++ Y)).length = p + 2 + nq ∧ (∀ x ∈ X ++ (R ++ Y), x < 4294967296) ∧ valB 4294967296 ((X ++ (R ++ Y)).drop i) < D ∧ D * valB 4294967296 (List.replicate i 0 ++ (valB 4294967296 R0 / D :: qs)) + valB 4294967296 (X ++ (R ++ Y)) = A := by
  have hD0 : 0 < D := by omega
  refine ⟨N.take i, (N.drop i).take (p + 3), (N.drop i).drop (p + 3), by rw [List.take_append_drop, List.take_append_drop], by rw [List.length_take]; omega, by rw [List.length_take, List.length_drop]; omega, fun x hx => hNl x (List.mem_of_mem_drop (List.mem_of_mem_take hx)), ?_⟩
  have hX : (N.take i).length = i := by rw [List.length_take]; omega
  have hR : ((N.drop i).take (p + 3)).length = p + 3 := by rw [List.length_take, List.length_drop]; omega
  have hYn : ((N.drop i).drop (p + 3)).length = p + 2 + nq - (i + (p + 3)) := by rw [List.length_drop, List.length_drop]; omega
  have hYl : ∀ x ∈ (N.drop i).drop (p + 3), x < 4294967296 := fun x hx => hNl x (List.mem_of_mem_drop (List.mem_of_mem_drop hx))
  have hXl : ∀ x ∈ N.take i, x < 4294967296 := fun x hx => hNl x (List.mem_of_mem_take hx)
  have hsplit : valB 4294967296 (N.drop i) = valB 4294967296 ((N.drop i).take (p + 3)) + 4294967296 ^ (p + 3) * valB 4294967296 ((N.drop i).drop (p + 3)) := by
    have := valB_split 4294967296 (N.drop i) (p + 3)
    rwa [hR] at this
  obtain ⟨x, hx⟩ : ∃ x, x = N.getD i 0 := ⟨_, rfl⟩
  have hcons : valB 4294967296 (N.drop i) = x + 4294967296 * valB 4294967296 (N.drop (i + 1)) := by
    rw [hx, getD_of_lt (show i < N.length by omega), drop_cons_of_lt N i (by omega), valB_cons]
  have hNi : x < 4294967296 := by rw [hx]; exact getD_lt 4294967296 (by omega) N hNl i
  clear hx
  have hN0 : valB 4294967296 N = valB 4294967296 (N.take i) + 4294967296 ^ i * valB 4294967296 (N.drop i) := by
    have := valB_split 4294967296 N i
    rwa [hX] at this
  have hrep : ∀ k (l : List Nat), valB 4294967296 (List.replicate k 0 ++ l) = 4294967296 ^ k * valB 4294967296 l := fun k l => by
    rw [valB_append, valB_zeros, List.length_replicate, Nat.zero_add]
  rw [hrep] at hv
  generalize N.take i = X at *
  generalize (N.drop i).take (p + 3) = R0 at *
  generalize (N.drop i).drop (p + 3) = Y at *
  generalize valB 4294967296 (N.drop i) = W at *
  generalize valB 4294967296 (N.drop (i + 1)) = W1 at *
  have hW : W < 4294967296 * D := by
    have : 4294967296 * (W1 + 1) ≤ 4294967296 * D := Nat.mul_le_mul_left _ hlt
    omega
  have hY0 : valB 4294967296 Y = 0 := by
    rcases Nat.eq_zero_or_pos (valB 4294967296 Y) with h | h
    · exact h
    · exfalso
      have h1 : 4294967296 ^ (p + 3) * 1 ≤ 4294967296 ^ (p + 3) * valB 4294967296 Y := Nat.mul_le_mul_left _ h
      have h2 : 4294967296 * D < 4294967296 * 4294967296 ^ (p + 2) := Nat.mul_lt_mul_of_pos_left hD (by omega)
      have h3 : (4294967296 : Nat) ^ (p + 3) = 4294967296 * 4294967296 ^ (p + 2) := by rw [Nat.pow_succ, Nat.mul_comm]
      omega
  rw [hY0, Nat.mul_zero, Nat.add_zero] at hsplit
  rw [← hsplit]
  refine ⟨hW, (Nat.div_lt_iff_lt_mul hD0).2 hW, fun R hRl hRd hRv => ?_⟩
  have hRY : valB 4294967296 (R ++ Y) = W % D := by rw [valB_append, hY0, Nat.mul_zero, Nat.add_zero, hRv]
  refine ⟨?_, ?_, ?_, ?_⟩
  · simp only [List.length_append]; omega
  · intro y hy
    rcases List.mem_append.1 hy with h | h
    · exact hXl y h
    · rcases List.mem_append.1 h with h | h
      · exact hRd y h
      · exact hYl y h
  · rw [← hX, List.drop_left, hRY]; exact Nat.mod_lt _ hD0
  · rw [hrep, valB_cons, valB_append, hX, hRY]
    have h1 := quot_step 4294967296 i A D (valB 4294967296 X) W (4294967296 ^ (i + 1) * valB 4294967296 qs) (W % D) (by rw [← hN0]; exact hv) rfl
    rw [← h1]
    congr 2
    rw [Nat.mul_add, Nat.pow_succ, ← Nat.mul_assoc]; omega
theorem top_ge (M : List Nat) (p D : Nat) (hM : M.length = p + 2) (hMl : ∀ x ∈ M, x < 4294967296) (hv : valB 4294967296 M = D) (h : 2147483648 * 4294967296 ^ (p + 1) ≤ D) : 4294967296 ≤ 2 * M.getD (p + 1) 0 := by
  have h2 := valB_take_succ 4294967296 M (p + 1)
  rw [List.take_of_length_le (by omega), hv] at h2
  have h3 := valB_lt 4294967296 (by omega) (M.take (p + 1)) (fun x hx => hMl x (List.mem_of_mem_take hx))
  rw [List.length_take, Nat.min_eq_left (by omega)] at h3
  have h4 : 4294967296 ^ (p + 1) * 2147483648 < 4294967296 ^ (p + 1) * (M.getD (p + 1) 0 + 1) := by
    rw [Nat.mul_comm _ 2147483648, Nat.mul_add, Nat.mul_one]; omega
  have := Nat.lt_of_mul_lt_mul_left h4
  omega
theorem digitF (N : List Nat) (M : List Nat) (i p nq g : Nat) (A2 : Option Addr) (cw c2 D A : Nat) (qs : List Nat) (w : World) (B : Blk w g (N.map valU) 36) (hN : N.length = p + 2 + nq) (hNl : ∀ x ∈ N, x < 4294967296) (hi : i < nq)
    (hr2 : Rd encU 1 w A2 M) (hM : M.length = p + 2) (hMl : ∀ x ∈ M, x < 4294967296) (hMv : valB 4294967296 M = D) (hne : ∀ b ∈ addrBlock A2, b ≠ g) (hc2 : p + 2 ≤ c2) (hcw : p + 3 ≤ cw) (hp : p ≤ 4398046511104) (hn : 2147483648 * 4294967296 ^ (p + 1) ≤ D) (hD : D < 4294967296 ^ (p + 2))
    (hlt : valB 4294967296 (N.drop (i + 1)) < D) (hv : D * valB 4294967296 (List.replicate (i + 1) 0 ++ qs) + valB 4294967296 N = A) :
    Calls Tryd.prog 59 #[.slice (some ⟨g, i, none⟩) (p + 3) cw, .slice A2 (p + 2) c2] w fun e w' => ∃ (dq : Nat) (N2 : List Nat), e = .returned (.int .u32 (dq : Int)) ∧ dq < 4294967296 ∧ Only g w w' ∧ Blk w' g (N2.map valU) 36 ∧ N2.length = p + 2 + nq ∧ (∀ x ∈ N2, x < 4294967296) ∧ valB 4294967296 (N2.drop i) < D ∧ D * valB 4294967296 (List.replicate i 0 ++ (dq :: qs)) + valB 4294967296 N2 = A := by
  obtain ⟨X, R0, Y, rfl, hX, hR, hRl, hW, hq, hstep⟩ := div_round N qs i p nq D A hN hNl hi hD hlt hv
  refine (digit_any X R0 Y M i p g A2 cw c2 w B hX hR hRl hr2 hM hMl hne hc2 hcw hp (top_ge M p D hM hMl hMv hn) (by rw [hMv]; exact hW)).mono ?_
  rintro e w' ⟨rfl, ho, R, h1, h2, h3, hB⟩
  rw [hMv] at h3 ⊢
  obtain ⟨k1, k2, k3, k4⟩ := hstep R h1 h2 h3
  exact ⟨_, _, rfl, hq, ho, hB, k1, k2, k3, k4⟩
set_option maxRecDepth 8000 in
set_option maxHeartbeats 4000000 in
theorem natDivG_any (l m : List Nat) (A A2 : Option Addr) (c c2 : Nat) (w : World) (h : Lim w A c l) (h2 : Lim w A2 c2 m) (hle : valB 4294967296 m ≤ valB 4294967296 l) (h1 : 4294967296 ≤ valB 4294967296 m) :
    Calls Tryd.prog 32 #[.slice A l.length c, .slice A2 m.length c2] w (Gives w fun v w' => DivTo w.heap.size w' v (valB 4294967296 l) (valB 4294967296 m)) := by
  obtain ⟨V, hV⟩ : ∃ V, V = valB 4294967296 l := ⟨_, rfl⟩
  obtain ⟨U, hU⟩ : ∃ U, U = valB 4294967296 m := ⟨_, rfl⟩
  rw [← hU] at h1
  rw [← hV, ← hU] at hle ⊢
  obtain ⟨L, hL⟩ : ∃ L, L = digB 4294967296 V := ⟨_, rfl⟩
  obtain ⟨M, hM⟩ : ∃ M, M = digB 4294967296 U := ⟨_, rfl⟩
  have htl : trimL l = L := by rw [hL, hV]; exact trimL_dig 4294967296 (by omega) l h.lt
  have htm : trimL m = M := by rw [hM, hU]; exact trimL_dig 4294967296 (by omega) m h2.lt
  have hLle : L.length ≤ l.length := by rw [← htl]; exact trimL_le l
  have hMle : M.length ≤ m.length := by rw [← htm]; exact trimL_le m
  have hlm := h.max
  have hmm := h2.max
  have hlc := h.cap
  have hmc := h2.cap
  have hrL : Rd encU 1 w A L := by have := Rd.trim h.rd; rwa [htl] at this
  have hrM : Rd encU 1 w A2 M := by have := Rd.trim h2.rd; rwa [htm] at this
  have hVL : valB 4294967296 L = V := by rw [hL]; exact digB_val _ (by omega) V
  have hUM : valB 4294967296 M = U := by rw [hM]; exact digB_val _ (by omega) U
  have hLl : ∀ x ∈ L, x < 4294967296 := by rw [hL]; exact digB_lt _ (by omega) V
  have hMl : ∀ x ∈ M, x < 4294967296 := by rw [hM]; exact digB_lt _ (by omega) U
  have hM2 : 2 ≤ M.length := by rw [hM]; exact digB_len_ge 4294967296 (by omega) 1 U (by simpa using h1)
  have hML : M.length ≤ L.length := by rw [hL, hM]; exact digB_mono8 4294967296 (by omega) hle
  obtain ⟨p, hp⟩ : ∃ p, M.length = p + 2 := ⟨M.length - 2, by omega⟩
  obtain ⟨nq, hnq⟩ : ∃ nq, L.length + 1 = p + 2 + nq := ⟨L.length + 1 - (p + 2), by omega⟩
  obtain ⟨La, hLa⟩ : ∃ La, La = L.length := ⟨_, rfl⟩
  -- the top limb and its leading zeros
  have hMne : M ≠ [] := fun e => by rw [e] at hM2; simp at hM2
  obtain ⟨x, hx⟩ : ∃ x, x = M[p + 1]'(by omega) := ⟨_, rfl⟩
  have hx4 : x < 4294967296 := by rw [hx]; exact hMl _ (List.getElem_mem _)
  have hbits : bitN U = 32 * (p + 1) + bitN x := by
    have hk := bitN_limbs 32 U (by omega) (by rw [show (2 : Nat) ^ 32 = 4294967296 from rfl, ← hM]; exact hMne)
    simp only [show (2 : Nat) ^ 32 = 4294967296 from rfl, ← hM] at hk
    rw [hk, hp, show p + 2 - 1 = p + 1 by omega, List.getLast_eq_getElem, hx]
    simp only [hp, show p + 2 - 1 = p + 1 by omega]
  have hxb : bitN x ≤ 32 := digB_len_lt 2 (by omega) 32 x (by omega)
  have hx0 : x ≠ 0 := by
    have := digB_canon 4294967296 (by omega) U
    rw [← hM] at this
    exact this x (by rw [List.getLast?_eq_getElem?, hp, show p + 2 - 1 = p + 1 by omega, List.getElem?_eq_getElem (show p + 1 < M.length by omega), hx])
  have hxb1 : bitN x ≠ 0 := by rw [Ne, bitN_eq_zero]; exact hx0
  obtain ⟨n, hn⟩ : ∃ n, n = 32 - bitN x := ⟨_, rfl⟩
  have hn32 : n < 32 := by omega
  have hnorm := norm_top U n (p + 1) (by rw [hbits]; omega) hn32 (by omega)
  obtain ⟨D, hD⟩ : ∃ D, D = U * 2 ^ n := ⟨_, rfl⟩
  obtain ⟨AA, hAA⟩ : ∃ AA, AA = V * 2 ^ n := ⟨_, rfl⟩
  rw [← hD] at hnorm
  have hpn : 0 < 2 ^ n := Nat.pow_pos (by omega)
  have Hdiv : As (AA / D = V / U ∧ AA % D / 2 ^ n = V % U) := ⟨by rw [hAA, hD]; exact Nat.mul_div_mul_right _ _ hpn, by rw [hAA, hD, Nat.mul_mod_mul_right]; exact Nat.mul_div_cancel _ hpn⟩
  have Hlz : As (∀ w1, Calls Tryd.prog 57 #[.int .u32 x] w1 fun e w' => e = .returned (.int .i64 (n : Int)) ∧ w' = w1) := ⟨fun w1 => by
    have := Tryd.bits_LeadingZeros32 (x : Int) w1 (by omega) (by omega)
    rw [Int.toNat_natCast, bitLen_bitN x (by omega), show ((32 : Int) - (bitN x : Int)) = (n : Int) by omega] at this
    exact this⟩
  have T1 := As.mk (trimN_any l L A c w htl h.rd h.cap (by omega))
  have T2 := As.mk (trimN_any m M A2 c2 w htm h2.rd h2.cap (by omega))
  have hcmp := natCmp_any L M A A2 c c2 w hrL hrM ⟨hLl, hMl⟩ (by omega) (by omega) (by omega) (by omega)
  rw [hVL, hUM] at hcmp
  have hge := cmpN_nonneg hle
  have hcr := cmpN_range V U
  obtain ⟨cv, hcv⟩ : ∃ cv, cv = cmpN V U := ⟨_, rfl⟩
  rw [← hcv] at hcmp hge hcr
  have HL := As.mk (fun w1 (hb : Below w.heap.size w w1) => left_any L A c n La w1 (hrL.below hb) hLl hn32 hLa.symm (by omega) (by omega))
  have HM := As.mk (fun w1 (hb : Below w.heap.size w w1) => left_any M A2 c2 n (p + 2) w1 (hrM.below hb) hMl hn32 hp (by omega) (by omega))
  rw [hVL, ← hAA] at HL
  rw [hUM, ← hD] at HM
  obtain ⟨b, off, rfl⟩ := h2.rd.get (ne_nil_of_lt (i := 0) (by omega))
  have Hcl : As (∀ w1, Below w.heap.size w w1 → w1.cell? ⟨b, off + (p + 1), none⟩ = some (.int .u32 (x : Nat))) := ⟨fun w1 hb => by rw [hx]; exact Rd.u (hrM.below hb) (p + 1) (by omega)⟩
  have hlenM : (digB 4294967296 D).length = p + 2 := by
    have a1 := digB_len_lt 4294967296 (by omega) (p + 1 + 1) D hnorm.2
    have a2 := digB_len_ge 4294967296 (by omega) (p + 1) D (by have := hnorm.1; generalize 4294967296 ^ (p + 1) = P at *; omega)
    omega
  obtain ⟨M2, hM2e⟩ : ∃ M2, M2 = digB 4294967296 D := ⟨_, rfl⟩
  have HM2 : As (M2 = digB 4294967296 D ∧ M2.length = p + 2 ∧ (∀ x ∈ M2, x < 4294967296) ∧ valB 4294967296 M2 = D) := ⟨hM2e, by rw [hM2e]; exact hlenM, by rw [hM2e]; exact digB_lt _ (by omega) D, by rw [hM2e]; exact digB_val _ (by omega) D⟩
  rw [hp] at T2 hcmp
  rw [← hLa] at T1 hcmp hnq hLle hML
  have HC := As.mk hcmp
  have Hnq := As.mk hnq
  have Hnorm := As.mk hnorm
  have HAA : As (AA < 4294967296 ^ La * 2147483648) := ⟨by
    have hlt := valB_lt 4294967296 (by omega) L hLl
    rw [hVL, ← hLa] at hlt
    have h5 : 2 ^ n ≤ 2147483648 := Nat.le_trans (Nat.pow_le_pow_right (by omega) (show n ≤ 31 by omega)) (by decide)
    rw [hAA]
    exact Nat.mul_lt_mul_of_lt_of_le hlt h5 (by omega)⟩
  have en : ((La : Int) + 1 - ((p : Int) + 2)) = (nq : Int) := by omega
  have hnqb : nq ≤ 4398046511104 := by omega
  have hpb : p ≤ 4398046511104 := by omega
  have hLab : La ≤ 274877906944 := by omega
  have hpc : p + 1 < c2 := by omega
  have hM0 : ((p : Int) + 2 == 0) = false := by simp; omega
  have hM1 : ((p : Int) + 2 == 1) = false := by simp; omega
  have ez1 : ((p : Int) + 2 - 1) = (p : Int) + 1 := by omega
  have hnq1 : 1 ≤ nq := by omega
  clear htl htm hV hU hL hM hcmp hle hVL hUM hLl hMl hcv hLa hp hx hbits hnorm hD hAA hn hM2e hlenM hnq hpn hML hMle hlm hmm hlc hmc h h2 hxb hxb1 hx0 hMne hM2 h1 hrL hrM hLle
  go_enter Tryd.func32, Tryd.ntmps32
  go_wp2_with (first
    | (go_at_call 44; (with_reducible refine T1.out.mono ?_); rintro e w1 ⟨rfl, rfl⟩)
    | (go_at_call 44; (with_reducible refine T2.out.mono ?_); rintro e w1 ⟨rfl, rfl⟩)
    | (go_at_call 30; (with_reducible refine HC.out.mono ?_); rintro e w1 ⟨v1, rfl, rfl, hb1⟩; have hcell := Hcl.out _ hb1)
    | (go_at_call 57; (with_reducible refine (Hlz.out _).mono ?_); rintro e w2 ⟨rfl, rfl⟩)
    | (go_at_call 58; (with_reducible refine (HL.out _ hb1).mono ?_); rintro e w3 ⟨v3, rfl, ⟨N0, ⟨g1, rfl, hg1, B1, hN1, hN2⟩, hNv⟩, hb3⟩; replace hg1 := Nat.le_trans hb1.size hg1; replace hb3 := bthen hb1 hb3; clear hcell; have Hn0 := As.mk (And.intro hN1 (And.intro hN2 hNv)); clear hN1 hN2 hNv)
    | (go_at_call 58; (with_reducible refine (HM.out _ hb3).mono ?_); rintro e w4 ⟨v4, rfl, ⟨LB, ⟨g2, rfl, hg2, B2, hK1, hK2⟩, hKv⟩, hb4⟩; have hne12 : g1 ≠ g2 := Nat.ne_of_lt (Nat.lt_of_lt_of_le B1.lt hg2); replace B1 := B1.below hb4; replace hg2 := Nat.le_trans hb3.size hg2; replace hb4 := bthen hb3 hb4; have T3 := As.mk (trimN_any LB M2 (some ⟨g2, 0, none⟩) (p + 2 + 1) w4 (by rw [trimL_dig 4294967296 (by omega) LB hK2, hKv, HM2.out.1]) (B2.rdm encU_one) (by rw [hK1]; exact Nat.le_refl _) (by rw [hK1]; omega)); have HrB : Rd encU 1 w4 (some ⟨g2, 0, none⟩) M2 := (by have := Rd.trim (B2.rdm encU_one); rwa [trimL_dig 4294967296 (by omega) LB hK2, hKv, ← HM2.out.1] at this); rw [hK1, HM2.out.2.1] at T3; clear hK1 hK2 hKv)
    | (go_at_call 44; (with_reducible refine T3.out.mono ?_); rintro e w5 ⟨rfl, rfl⟩)
    | ((with_reducible refine g_dst 63 ?_); go_must (refine ev_make 63 rfl Tryd.underlying22 infoU rfl (n := nq) rfl rfl (by omega) (by omega) ?_); intro g3 w6 hb6 B3 hg3))
  have hne13 : g1 ≠ g3 := Nat.ne_of_lt (Nat.lt_of_lt_of_le B1.lt hg3)
  have hne23 : g2 ≠ g3 := Nat.ne_of_lt (Nat.lt_of_lt_of_le B2.lt hg3)
  replace B1 := B1.below hb6
  replace HrB := HrB.below hb6
  replace hg3 := Nat.le_trans hb4.size hg3
  replace hb6 := bthen hb4 hb6
  have Hstart : As (N0.length = p + 2 + nq ∧ valB 4294967296 (N0.drop nq) < D) := ⟨by rw [Hn0.out.1]; exact Hnq.out, by
    have h1 := valB_split 4294967296 N0 nq
    have h2 : (N0.take nq).length = nq := by rw [List.length_take, Hn0.out.1]; have := Hnq.out; omega
    rw [h2, Hn0.out.2.2] at h1
    have h3 : 4294967296 ^ nq * valB 4294967296 (N0.drop nq) < 4294967296 ^ nq * (2147483648 * 4294967296 ^ (p + 1)) := by
      have h4 := HAA.out
      rw [show La = nq + (p + 1) by have := Hnq.out; omega, Nat.pow_add, Nat.mul_assoc, Nat.mul_comm _ 2147483648] at h4
      omega
    exact Nat.lt_of_lt_of_le (Nat.lt_of_mul_lt_mul_left h3) Hnorm.out.1⟩
  have hnqi : p + 2 + nq ≤ La + 1 := by have := Hnq.out; omega
  clear hM0 hM1 hge hcr ez1 hb1 hb3 hb4 B2
  go_loopw [12] (fun v wr => ∃ (k : Nat) (N qs : List Nat), k ≤ nq ∧ v = .int .i64 ((k : Int) - 1) ∧ As (N.length = p + 2 + nq) ∧ As (∀ x ∈ N, x < 4294967296) ∧ As (qs.length = nq - k) ∧ As (∀ x ∈ qs, x < 4294967296) ∧ As (valB 4294967296 (N.drop k) < D) ∧ As (D * valB 4294967296 (List.replicate k 0 ++ qs) + valB 4294967296 N = AA) ∧ Below w.heap.size w wr ∧ Blk wr g1 (N.map valU) 36 ∧ Rd encU 1 wr (some ⟨g2, 0, none⟩) M2 ∧ Blk wr g3 ((List.replicate k 0 ++ qs).map valU) 36) (fun v _ => (intOf v + 1).toNat)
  case atStart => exact ⟨nq, N0, [], Nat.le_refl _, by go_num, ⟨Hstart.out.1⟩, ⟨Hn0.out.2.1⟩, ⟨by simp⟩, ⟨fun x hx => (nomatch hx)⟩, ⟨Hstart.out.2⟩, ⟨by rw [List.append_nil, valB_zeros, Nat.mul_zero, Nat.zero_add]; exact Hn0.out.2.2⟩, hb6, B1, HrB, by simpa [valU] using B3⟩
  case round =>
    clear B1 HrB B3 hb6 Hstart
    obtain ⟨k, N, qs, hk, rfl, hN, hNl, hql, hqd, hlt, hv, hb, B1, HrB, B3⟩ := hrel
    cases k with
    | zero =>
      rw [List.replicate_zero, List.nil_append] at B3
      have hv' := hv.out
      rw [List.replicate_zero, List.nil_append] at hv'
      have hlt' := hlt.out
      rw [List.drop_zero] at hlt'
      have hmod : valB 4294967296 N = AA % D := by
        rw [← hv', Nat.mul_add_mod, Nat.mod_eq_of_lt hlt']
      have hdv : valB 4294967296 qs = AA / D := by
        rw [← hv', Nat.mul_add_div (by omega), Nat.div_eq_of_lt hlt', Nat.add_zero]
      have hqn : qs.length = nq := by have := hql.out; omega
      have hrq := B3.rdm encU_one
      have T5 := As.mk (trim_n qs nq hqn (some ⟨g3, 0, none⟩) nq wr hrq (Nat.le_refl _) (by omega))
      have hQ : As (trimL qs = digB 4294967296 (V / U)) := ⟨by rw [trimL_dig 4294967296 (by omega) qs hqd.out, hdv, Hdiv.out.1]⟩
      have HR := As.mk (right_any N (some ⟨g1, 0, none⟩) (La + 1) n (La + 1) wr (B1.rdm encU_one) hNl.out hn32 (by rw [hN.out]; exact Hnq.out.symm) (Nat.le_refl _) (by omega))
      rw [hmod, Hdiv.out.2] at HR
      have HO := As.mk (B3.ow (base := w.heap.size) encU_one hg3 (by rw [hqn]; simp only [maxLen]; omega) (trimL qs).length (trimL_le _))
      rw [← trimL_take, hQ.out, hqn] at HO
      rw [hQ.out] at T5
      clear hv' hlt' hmod hdv hqn hrq
      go_wp2_with (first
        | (go_at_call 44; (with_reducible refine T5.out.mono ?_); rintro e w7 ⟨rfl, rfl⟩)
        | (go_at_call 60; (with_reducible refine HR.out.mono ?_); rintro e w8 ⟨v8, rfl, ⟨LR, ⟨g8, rfl, hg8, B8, h81, h82⟩, h83⟩, hb8⟩; have T6 := As.mk (trim_n LR (La + 1) h81 (some ⟨g8, 0, none⟩) (La + 1) w8 (B8.rdm encU_one) (Nat.le_refl _) (by omega)); have HO2 := As.mk (B8.ow (base := w.heap.size) encU_one (Nat.le_trans hb.size hg8) (by rw [h81]; simp only [maxLen]; omega) (trimL LR).length (trimL_le _)); rw [← trimL_take, trimL_dig 4294967296 (by omega) LR h82, h83, h81] at HO2; rw [trimL_dig 4294967296 (by omega) LR h82, h83] at T6; clear h81 h82 h83)
        | (go_at_call 44; (with_reducible refine T6.out.mono ?_); rintro e w9 ⟨rfl, rfl⟩))
      go_ret3
      exact ⟨_, rfl, ⟨_, _, rfl, HO.out.below hb8, HO2.out⟩, bthen hb hb8⟩
    | succ i =>
      have Hdig : As (∀ (cw ln : Nat) (hln : ln = p + 3) (hcw : p + 3 ≤ cw), Calls Tryd.prog 59 #[.slice (some ⟨g1, i, none⟩) ln cw, .slice (some ⟨g2, 0, none⟩) (p + 2) (p + 2 + 1)] wr fun e w' => ∃ (dq : Nat) (N2 : List Nat), e = .returned (.int .u32 (dq : Int)) ∧ dq < 4294967296 ∧ Only g1 wr w' ∧ Blk w' g1 (N2.map valU) 36 ∧ N2.length = p + 2 + nq ∧ (∀ x ∈ N2, x < 4294967296) ∧ valB 4294967296 (N2.drop i) < D ∧ D * valB 4294967296 (List.replicate i 0 ++ (dq :: qs)) + valB 4294967296 N2 = AA) := ⟨fun cw ln hln hcw => by
        subst hln
        exact digitF N M2 i p nq g1 (some ⟨g2, 0, none⟩) cw (p + 2 + 1) D AA qs wr B1 hN.out hNl.out (by omega) HrB HM2.out.2.1 HM2.out.2.2.1 HM2.out.2.2.2 (fun b hb => by simp only [addrBlock, List.mem_singleton] at hb; subst hb; exact Ne.symm hne12) (by omega) hcw hpb Hnorm.out.1 Hnorm.out.2 hlt.out hv.out⟩
      have hsl : (i : Int) + ((p : Int) + 2) + 1 ≤ (La : Int) + 1 := by omega
      have hinq : i < nq := by omega
      have Hlen := As.mk (show i < (List.replicate (i + 1) 0 ++ qs).length by simp only [List.length_append, List.length_replicate]; omega)
      go_wp2_with (first
        | (go_at_call 59; (with_reducible refine (Hdig.out _ _ (by omega) (by omega)).mono ?_); rintro e w7 ⟨dq, N2, rfl, hdq, ho, B1', h71, h72, h73, h74⟩; have H7 := As.mk (And.intro h71 (And.intro h72 (And.intro h73 h74))); clear h71 h72 h73 h74; replace B3 := B3.only ho (Ne.symm hne13))
        | ((with_reducible refine g_store 83 ?_); go_must (refine ev_set rfl (by go_simp) B3 (u := dq) (by go_simp; rfl) infoU Hlen.out (by rfl) ?_); intro w8 ho8 B38; rw [fill_down] at B38; replace B1' := B1'.only ho8 hne13))
      go_roundw
      case rel => exact ⟨i, N2, dq :: qs, by omega, by go_num, ⟨H7.out.1⟩, ⟨H7.out.2.1⟩, ⟨by rw [List.length_cons, hql.out]; omega⟩, ⟨fun x hx => by
        rcases List.mem_cons.1 hx with rfl | hx
        · exact hdq
        · exact hqd.out x hx⟩, ⟨H7.out.2.2.1⟩, ⟨H7.out.2.2.2⟩, (hb.trans (ho.below hg1)).trans (ho8.below hg3), B1', Rd.keep HrB (fun _ b hb => by
          simp only [addrBlock, List.mem_singleton] at hb
          subst hb
          rw [ho8.block _ hne23, ho.block _ (Ne.symm hne12)]), B38⟩
      case measure => simp [intOf]
end Go.Proofs.YtbdcjlikjpdhfaaDoor
