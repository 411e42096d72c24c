/- RefB Num29, in one text. -/
import Derived.Test.YtigoofeodbbbhaaDoorRef5
import Derived.Test.YtigoofeodbbbhaaDoorKeep
import Derived.Test.YtigoofeodbbbhaaDoorLib4
import Derived.Test.YtigoofeodbbbhaaDoorMath7
import Derived.Deep.RegionHeld3
import Derived.Test.YtigoofeodbbbhaaDoorNumR
import Derived.Test.YtigoofeodbbbhaaDoorNumP
/- tandemref01.Bits, Parse. -/
namespace Go.Proofs.YtigoofeodbbbhaaDoor
open Go.RowKit Go.Proofs.YtigoofeodbbbhaaDoorL Go.Proofs.YtigoofeodbbbhaaDoorM
set_option linter.unusedVariables false
set_option linter.unusedSimpArgs false
set_option maxHeartbeats 1000000 in
theorem rBits_any (l : List Nat) (A : Option Addr) (c : Nat) (w : World) (h : Sl.Good ⟨A, c, l⟩ w) :
    Calls Tryd.prog 60 #[.slice A l.length c] w (Gives w fun v _ => v = .int .i64 ((bitN (valB 4294967296 l) : Nat) : Int)) := by
  obtain ⟨V, hV⟩ : ∃ V, V = valB 4294967296 l := ⟨_, rfl⟩
  have q1 := half_len3 l h.lt h.max
  have H1 := As.mk (half_any l _ rfl A c w h.rd h.lt h.cap (Nat.le_trans h.max (by omega)))
  rw [← hV] at H1 q1 ⊢
  obtain ⟨L, hL⟩ : ∃ L, L = digB 65536 V := ⟨_, rfl⟩
  rw [← hL] at H1 q1
  by_cases h0 : L = []
  · have hb0 : As (bitN V = 0) := ⟨by rw [bitN_eq_zero, ← digB_eq_nil 65536 V (by omega), ← hL]; exact h0⟩
    subst h0
    clear hV hL
    go_enter Tryd.func60, Tryd.ntmps60
    go_wp2_with (go_at_call 81; (with_reducible refine H1.out.mono ?_); rintro e w1 ⟨v1, rfl, ho1, hb1⟩; obtain ⟨A1, k1, rfl, h11, h12⟩ := ho1.form)
    go_ret
    exact ⟨_, rfl, by rw [hb0.out]; rfl, hb1⟩
  · obtain ⟨m, hm1⟩ : ∃ m, L.length = m + 1 := ⟨L.length - 1, by have : L.length ≠ 0 := fun e => h0 (List.eq_nil_of_length_eq_zero e); omega⟩
    have hz : ((L.length : Int) == 0) = false := by simp; exact h0
    have hmL : m < L.length := by omega
    obtain ⟨x, hx⟩ : ∃ x, x = L[m]'hmL := ⟨_, rfl⟩
    have hx2 : x < 65536 := by rw [hx]; have := List.getElem_mem (show m < L.length by omega); exact (hL ▸ digB_lt 65536 (by omega) V) _ this
    have hbits : As (bitN V = 16 * m + bitN x) := ⟨by
      have hk := bitN_limbs 16 V (by omega) (by rw [show (2 : Nat) ^ 16 = 65536 from rfl, ← hL]; exact h0)
      simp only [show (2 : Nat) ^ 16 = 65536 from rfl, ← hL] at hk
      rw [hk, hm1, Nat.add_sub_cancel, List.getLast_eq_getElem, hx]
      simp only [hm1, Nat.add_sub_cancel]⟩
    have Hne := As.mk h0
    have Hx := As.mk hx
    have hml : m < 549755813888 := by omega
    have em : ((L.length : Int) - 1) = (m : Int) := by omega
    clear hV hL h0 hx hm1
    go_enter Tryd.func60, Tryd.ntmps60
    go_wp2_with (go_at_call 81; (with_reducible refine H1.out.mono ?_); rintro e w1 ⟨v1, rfl, ho1, hb1⟩; obtain ⟨A1, k1, rfl, h11, h12⟩ := ho1.form; obtain ⟨b, off, rfl⟩ := (ho1.rd lenI).get Hne.out; have hcell := Rd.i (ho1.rd lenI) m hmL; rw [← Hx.out] at hcell; have hmk : m < k1 := Nat.lt_of_lt_of_le hmL h11)
    go_loopw [4, 5] (fun v u wr => ∃ n y : Nat, v = .int .i64 (n : Int) ∧ u = .int .i64 (y : Int) ∧ y < 65536 ∧ n ≤ 8796093022208 + 16 ∧ As (n + bitN y = bitN V) ∧ n + y ≤ 8796093022208 + 65552 ∧ w1 = wr) (fun _ u _ => (intOf u).toNat)
    case atStart => exact ⟨16 * m, x, by go_num, rfl, hx2, by omega, hbits.out.symm |> As.mk, by omega, rfl⟩
    case round =>
      obtain ⟨n, y, rfl, rfl, hy, hn, hny, hs, rfl⟩ := hrel
      by_cases h : 0 < y
      · have hh : As (n + 1 + bitN (y / 2) = bitN V) := ⟨by rw [← hny.out, bitN_half y h]; omega⟩
        have e2 : (y : Int) / 2 = ((y / 2 : Nat) : Int) := rfl
        have h' : (0 : Int) < (y : Int) := by omega
        obtain ⟨z, hzz⟩ : ∃ z, z = y / 2 := ⟨_, rfl⟩
        rw [← hzz] at hh e2
        have hz1 : z < y := by omega
        have hbn : bitN V ≤ 16 * m + 16 := by rw [hbits.out]; have : bitN x ≤ 16 := digB_len_lt 2 (by omega) 16 x (by omega); omega
        have hn1 : n + 1 ≤ 8796093022208 + 16 := by have := hh.out; omega
        clear hzz hny hbn
        go_wp2
        go_roundw
        case rel => exact ⟨n + 1, z, by go_num, by go_num, by omega, hn1, hh, by omega, trivial⟩
        case measure => simp [intOf]; omega
      · obtain rfl : y = 0 := by omega
        have hh : As (bitN V = n) := ⟨by rw [← hny.out, bitN_zero]; rfl⟩
        clear hny
        go_wp2
        go_ret
        exact ⟨_, rfl, by rw [hh.out]; rfl, hb1⟩
theorem valI_10 : ([10].map valI) = [valI 10] := rfl
end Go.Proofs.YtigoofeodbbbhaaDoor
/- tandemref02.fits, Power, told of numbers that are held. -/
namespace Go.Proofs.YtigoofeodbbbhaaDoor
open Go.RowKit Go.Proofs.YtigoofeodbbbhaaDoorL Go.Proofs.YtigoofeodbbbhaaDoorM
set_option linter.unusedVariables false
set_option linter.unusedSimpArgs false
section
variable {w : World} {L : List NR} {b b2 : Bool} {A A2 : Option Addr} {n c n2 c2 : Nat} {z z2 q r : Int} {K K2 : Nat} {can can2 ok : Bool}
theorem infoBool : (Tryd.prog.info? 4).map (fun i => (i.zero, i.size, i.bytes)) = some (some (.bool false), 1, 1) := by kernel_rfl
theorem rbitsN {N : Nat} (hN : N = bitN z.natAbs) (F : Fs w L) (h : (⟨b, A, n, c, z, K, can⟩ : NR) ∈ L) :
    Calls Tryd.prog 60 #[.slice A n c] w (Gives w fun v _ => v = .int .i64 (N : Int)) := by
  subst hN
  obtain ⟨⟨l, h1, h2, h3, h4⟩, h5⟩ := F.out _ h
  simp only at h1 h2 h3 h4 h5
  subst h1
  have e : valB 4294967296 l = z.natAbs := by rw [← h3, sval_abs]
  have := rBits_any l A c w (sl_good h2)
  rw [e] at this
  exact this
theorem rmulF {g : Nat} {t : TypeId} (F : Fs w L) (B : Blk w g [.bool b, .slice A n c, .bool b2, .slice A2 n2 c2] t) (h : (⟨b, A, n, c, z, K, can⟩ : NR) ∈ L) (h' : (⟨b2, A2, n2, c2, z2, K2, can2⟩ : NR) ∈ L) (hK : K + K2 ≤ 1073741824) :
    Calls Tryd.prog 36 #[.slice (some ⟨g, 0, none⟩) 2 2] w (Gives w (NumRes w (z * z2) (K + K2) true)) := by
  have ho := F.out _ h
  have hs := ho.sm
  obtain ⟨⟨l, h1, h2, h3, h4⟩, h5⟩ := ho
  have ho2 := F.out _ h'
  have hs2 := ho2.sm
  obtain ⟨⟨m, k1, k2, k3, k4⟩, k5⟩ := ho2
  simp only at h1 h2 h3 h4 h5 hs k1 k2 k3 k4 k5 hs2
  subst h1 k1
  have := rMulAll_any [⟨b, A, c, l⟩, ⟨b2, A2, c2, m⟩] 2 rfl (some ⟨g, 0, none⟩) 2 w (B.rd (l := [⟨b, A, c, l⟩, ⟨b2, A2, c2, m⟩]) lenN rfl) (Nat.le_refl _) (two_limN' h2 k2) (by simp only [mlens, List.map_cons, List.map_nil, lens]; omega) (by omega)
  rw [show prodZ (List.map zN [⟨b, A, c, l⟩, ⟨b2, A2, c2, m⟩]) = z * z2 by simp only [List.map_cons, List.map_nil, prodZ, zN]; rw [h3, k3, Int.mul_one]] at this
  refine this.mono ?_
  rintro e w' ⟨v, rfl, ht, hb⟩
  exact ⟨_, rfl, NumRes.of ht (hs.mul hs2) (by omega), hb⟩
set_option maxRecDepth 8000 in
set_option maxHeartbeats 4000000 in
theorem rfitsYF {B : Int} (F : Fs w L) (h : (⟨b, A, n, c, z, K, can⟩ : NR) ∈ L) (hB : ((bitN z.natAbs : Nat) : Int) ≤ B) :
    Calls Tryd.prog 61 #[.agg #[.bool b, .slice A n c], .int .i64 B] w (Gives w fun v _ => v = .tuple #[.agg #[.bool b, .slice A n c], .bool true]) := by
  have F0 : Fs w [⟨b, A, n, c, z, K, can⟩] := (Fs.nil w).cons (F.out _ h)
  obtain ⟨X, hX⟩ : ∃ X, X = bitN z.natAbs := ⟨_, rfl⟩
  rw [← hX] at hB
  have HX := As.mk hX
  have h1 : decide ((X : Int) > B) = false := by simp; omega
  have h2 : decide (B < (X : Int)) = false := by simp; omega
  clear hX hB F h
  go_enter Tryd.func61, Tryd.ntmps61
  go_wp2_with (first
    | ((with_reducible refine g_dst 2 ?_); go_must (refine ev_box 2 rfl (cs := [.bool b, .slice A n c]) (by rfl) ?_); intro g2 wn hb2 B2 hg2; have hb := hb2)
    | ((with_reducible refine g_dst 4 ?_); go_must (refine ev_alloc 4 rfl infoNum (cs := [.bool false, .slice none 0 0]) rfl ?_); intro g4 wn hb4 B4 hgn; have hg4 := Nat.le_trans hb.size hgn; replace B2 := B2.below hb4; replace hb := bthen hb hb4; have C2 := B2.cells)
    | (go_at_call 60; (with_reducible refine (rbitsN HX.out (F0.below hb) (by repeat (first | exact List.mem_cons_self .. | apply List.mem_cons_of_mem))).mono ?_); rintro e wn ⟨vn, rfl, rfl, hbn⟩; clear C2; replace B2 := B2.below hbn; replace B4 := B4.below hbn; have C2 := B2.cells; replace hb := bthen hb hbn; clear hbn)
    | ((with_reducible refine g_store 4 ?_); go_must (refine ev_store rfl rfl B4 (news := [.bool b, .slice A n c]) (by first | rfl | (go_simp; try rfl)) infoNum (by simp) (by simp [Value.oneCell']) ?_); intro wn hon Bn; simp only [List.take_zero, List.nil_append, List.length_cons, List.length_nil, List.drop_succ_cons, List.drop_zero, List.append_nil, List.cons_append] at Bn; replace B4 := Bn; clear Bn; replace hb := hb.trans (hon.below hg4); clear hon))
  refine bodyPost_ret (results_ct rfl _ _ g4 26 #[.bool b, .slice A n c] (0, 0) _ rfl B4.h Tryd.underlying26 rfl (by kernel_rfl)) rfl ?_
  exact ⟨_, rfl, rfl, hb⟩
set_option maxRecDepth 8000 in
set_option maxHeartbeats 4000000 in
theorem rfitsNF {B : Int} (F : Fs w L) (h : (⟨b, A, n, c, z, K, can⟩ : NR) ∈ L) (hB : B < ((bitN z.natAbs : Nat) : Int)) :
    Calls Tryd.prog 61 #[.agg #[.bool b, .slice A n c], .int .i64 B] w (Gives w fun v _ => v = .tuple #[.agg #[.bool false, .slice none 0 0], .bool false]) := by
  have F0 : Fs w [⟨b, A, n, c, z, K, can⟩] := (Fs.nil w).cons (F.out _ h)
  obtain ⟨X, hX⟩ : ∃ X, X = bitN z.natAbs := ⟨_, rfl⟩
  rw [← hX] at hB
  have HX := As.mk hX
  have h1 : decide ((X : Int) > B) = true := by simp; omega
  have h2 : decide (B < (X : Int)) = true := by simp; omega
  clear hX hB F h
  go_enter Tryd.func61, Tryd.ntmps61
  go_wp2_with (first
    | ((with_reducible refine g_dst 2 ?_); go_must (refine ev_box 2 rfl (cs := [.bool b, .slice A n c]) (by rfl) ?_); intro g2 wn hb2 B2 hg2; have hb := hb2)
    | ((with_reducible refine g_dst 4 ?_); go_must (refine ev_alloc 4 rfl infoNum (cs := [.bool false, .slice none 0 0]) rfl ?_); intro g4 wn hb4 B4 hgn; have hg4 := Nat.le_trans hb.size hgn; replace B2 := B2.below hb4; replace hb := bthen hb hb4; have C2 := B2.cells)
    | (go_at_call 60; (with_reducible refine (rbitsN HX.out (F0.below hb) (by repeat (first | exact List.mem_cons_self .. | apply List.mem_cons_of_mem))).mono ?_); rintro e wn ⟨vn, rfl, rfl, hbn⟩; clear C2; replace B2 := B2.below hbn; replace B4 := B4.below hbn; have C2 := B2.cells; replace hb := bthen hb hbn; clear hbn)
    | ((with_reducible refine g_store 4 ?_); go_must (refine ev_store rfl rfl B4 (news := [.bool false, .slice none 0 0]) (by first | rfl | (go_simp; try rfl)) infoNum (by simp) (by simp [Value.oneCell']) ?_); intro wn hon Bn; simp only [List.take_zero, List.nil_append, List.length_cons, List.length_nil, List.drop_succ_cons, List.drop_zero, List.append_nil, List.cons_append] at Bn; replace B4 := Bn; clear Bn; replace hb := hb.trans (hon.below hg4); clear hon))
  refine bodyPost_ret (results_ct rfl _ _ g4 26 #[.bool false, .slice none 0 0] (0, 0) _ rfl B4.h Tryd.underlying26 rfl (by kernel_rfl)) rfl ?_
  exact ⟨_, rfl, rfl, hb⟩
set_option maxRecDepth 8000 in
set_option maxHeartbeats 4000000 in
theorem rpowN_go {e B : Int} (F0 : Fs w [⟨b, A, n, c, z, K, can⟩]) (hK : K ≤ 1073000000) (h : e < 0 ∨ B < 0) :
    Calls Tryd.prog 38 #[.agg #[.bool b, .slice A n c], .int .i64 e, .int .i64 B] w (Gives w fun v w' => ∃ qv, v = .tuple #[qv, .bool false] ∧ NumRes w (0) 626 true qv w') := by
  obtain ⟨s, hs⟩ : ∃ s, decide (z < 0) = s := ⟨_, rfl⟩
  have HS := As.mk hs
  clear hs
  rcases Int.lt_or_le e 0 with he | he
  · have h1 : decide (e < 0) = true := by simpa using he
    go_enter Tryd.func38, Tryd.ntmps38
    go_wp2_with (first
      | ((with_reducible refine g_dst 3 ?_); go_must (refine ev_box 3 rfl (cs := [.bool b, .slice A n c]) (by rfl) ?_); intro g3 wn hb3 B3 hg3; have hb := hb3)
      | ((with_reducible refine g_dst 6 ?_); go_must (refine ev_alloc 6 rfl infoNum (cs := [.bool false, .slice none 0 0]) rfl ?_); intro g6 wn hb6 B6 hgn; have hneb6_3 : g6 ≠ g3 := (fun e => by (have h1 := B3.lt; omega)); have hg6 := Nat.le_trans hb.size hgn; replace B3 := B3.below hb6; have C3 := B3.cells; replace hb := bthen hb hb6)
      | (go_at_call 52; (with_reducible refine (rcanonS (F0.below hb) (by repeat (first | exact List.mem_cons_self .. | apply List.mem_cons_of_mem)) (by omega) HS.out).mono ?_); rintro e' wn ⟨vn, rfl, ⟨A4, n4, c4, rfl, o4, f4⟩, hbn⟩; clear C3; have hne4 : ∀ k ∈ addrBlock A4, k ≠ g3 := (fun k hk e => by (have h1 := (f4 k hk).1; have h2 := B3.lt; omega)); have hne46 : ∀ k ∈ addrBlock A4, k ≠ g6 := (fun k hk e => by (have h1 := (f4 k hk).1; have h2 := B6.lt; omega)); have hlt4 : ∀ k ∈ addrBlock A4, k < _ := (fun k hk => (f4 k hk).2); clear f4; replace B3 := B3.below hbn; replace B6 := B6.below hbn; replace hb := bthen hb hbn; clear hbn)
      | ((with_reducible refine g_store 3 ?_); go_must (refine ev_store rfl rfl B3 (news := [.bool s, .slice A4 n4 c4]) (by rfl) infoNum (by simp) (by simp [Value.oneCell']) ?_); intro wn hon Bn; simp only [List.take_zero, List.nil_append, List.length_cons, List.length_nil, List.drop_succ_cons, List.drop_zero, List.append_nil, List.cons_append] at Bn; replace B6 := B6.only hon hneb6_3; replace B3 := Bn; clear Bn; replace o4 := o4.only hon hne4; replace hlt4 : ∀ k ∈ addrBlock A4, k < _ := (fun k hk => Nat.lt_of_lt_of_eq (hlt4 k hk) hon.size.symm); replace hb := hb.trans (hon.below hg3); clear hon; have C3 := B3.cells)
      | ((with_reducible refine g_store 6 ?_); go_must (refine ev_store rfl rfl B6 (news := [.bool false, .slice none 0 0]) (by first | rfl | (go_simp; try rfl)) infoNum (by simp) (by simp [Value.oneCell']) ?_); intro wn hon Bn; simp only [List.take_zero, List.nil_append, List.length_cons, List.length_nil, List.drop_succ_cons, List.drop_zero, List.append_nil, List.cons_append] at Bn; replace B6 := Bn; clear Bn; replace hb := hb.trans (hon.below hg6); clear hon))
    refine bodyPost_ret (results_ct rfl _ _ g6 26 #[.bool false, .slice none 0 0] (0, 0) _ rfl B6.h Tryd.underlying26 rfl (by kernel_rfl)) rfl ?_
    exact ⟨_, rfl, ⟨_, rfl, NumRes.nil _ _ _⟩, hb⟩
  · have h1 : decide (e < 0) = false := by simp; omega
    have h2 : decide (B < 0) = true := by simp; omega
    go_enter Tryd.func38, Tryd.ntmps38
    go_wp2_with (first
      | ((with_reducible refine g_dst 3 ?_); go_must (refine ev_box 3 rfl (cs := [.bool b, .slice A n c]) (by rfl) ?_); intro g3 wn hb3 B3 hg3; have hb := hb3)
      | ((with_reducible refine g_dst 6 ?_); go_must (refine ev_alloc 6 rfl infoNum (cs := [.bool false, .slice none 0 0]) rfl ?_); intro g6 wn hb6 B6 hgn; have hneb6_3 : g6 ≠ g3 := (fun e => by (have h1 := B3.lt; omega)); have hg6 := Nat.le_trans hb.size hgn; replace B3 := B3.below hb6; have C3 := B3.cells; replace hb := bthen hb hb6)
      | (go_at_call 52; (with_reducible refine (rcanonS (F0.below hb) (by repeat (first | exact List.mem_cons_self .. | apply List.mem_cons_of_mem)) (by omega) HS.out).mono ?_); rintro e' wn ⟨vn, rfl, ⟨A4, n4, c4, rfl, o4, f4⟩, hbn⟩; clear C3; have hne4 : ∀ k ∈ addrBlock A4, k ≠ g3 := (fun k hk e => by (have h1 := (f4 k hk).1; have h2 := B3.lt; omega)); have hne46 : ∀ k ∈ addrBlock A4, k ≠ g6 := (fun k hk e => by (have h1 := (f4 k hk).1; have h2 := B6.lt; omega)); have hlt4 : ∀ k ∈ addrBlock A4, k < _ := (fun k hk => (f4 k hk).2); clear f4; replace B3 := B3.below hbn; replace B6 := B6.below hbn; replace hb := bthen hb hbn; clear hbn)
      | ((with_reducible refine g_store 3 ?_); go_must (refine ev_store rfl rfl B3 (news := [.bool s, .slice A4 n4 c4]) (by rfl) infoNum (by simp) (by simp [Value.oneCell']) ?_); intro wn hon Bn; simp only [List.take_zero, List.nil_append, List.length_cons, List.length_nil, List.drop_succ_cons, List.drop_zero, List.append_nil, List.cons_append] at Bn; replace B6 := B6.only hon hneb6_3; replace B3 := Bn; clear Bn; replace o4 := o4.only hon hne4; replace hlt4 : ∀ k ∈ addrBlock A4, k < _ := (fun k hk => Nat.lt_of_lt_of_eq (hlt4 k hk) hon.size.symm); replace hb := hb.trans (hon.below hg3); clear hon; have C3 := B3.cells)
      | ((with_reducible refine g_store 6 ?_); go_must (refine ev_store rfl rfl B6 (news := [.bool false, .slice none 0 0]) (by first | rfl | (go_simp; try rfl)) infoNum (by simp) (by simp [Value.oneCell']) ?_); intro wn hon Bn; simp only [List.take_zero, List.nil_append, List.length_cons, List.length_nil, List.drop_succ_cons, List.drop_zero, List.append_nil, List.cons_append] at Bn; replace B6 := Bn; clear Bn; replace hb := hb.trans (hon.below hg6); clear hon))
    refine bodyPost_ret (results_ct rfl _ _ g6 26 #[.bool false, .slice none 0 0] (0, 0) _ rfl B6.h Tryd.underlying26 rfl (by kernel_rfl)) rfl ?_
    exact ⟨_, rfl, ⟨_, rfl, NumRes.nil _ _ _⟩, hb⟩
theorem NR.Ok.tight {w : World} {r : NR} (h : r.Ok w) {P : Prop} {K : Nat} (hP : P) (hK : P → r.can = true ∧ (digB 4294967296 r.z.natAbs).length ≤ K) : NR.Ok w ⟨r.b, r.A, r.n, r.c, r.z, K, r.can⟩ := by
  obtain ⟨hc, hl⟩ := hK hP
  obtain ⟨l, h1, h2, h3, h4⟩ := h.ex
  exact ⟨⟨l, h1, h2, h3, h4⟩, by rw [← h1, (h4 hc).2]; exact hl⟩
theorem NR.Ok.resign {w : World} {b : Bool} {A : Option Addr} {n c : Nat} {z : Int} {K : Nat} {can : Bool} (h : NR.Ok w ⟨b, A, n, c, z, K, can⟩) (f : Bool) (y : Int) (hy : sval f z.natAbs = y) : NR.Ok w ⟨f, A, n, c, y, K, false⟩ := by
  obtain ⟨⟨l, h1, h2, h3, h4⟩, h5⟩ := h
  simp only at h1 h2 h3 h4 h5
  refine ⟨⟨l, h1, h2, ?_, fun h => (nomatch h)⟩, h5⟩
  simp only
  rw [← hy, ← h3, sval_abs]
set_option maxRecDepth 8000 in
set_option maxHeartbeats 4000000 in
theorem rpowSZY_go {e B : Int} (F0 : Fs w [⟨b, A, n, c, z, K, can⟩]) (hK : K ≤ 1073000000) (he : 0 ≤ e) (hz : z = 0) (hp : 0 < e) (hB0 : 0 ≤ B) (hB : ((bitN (0 : Int).natAbs : Nat) : Int) ≤ B) (hB2 : B ≤ 20000) :
    Calls Tryd.prog 38 #[.agg #[.bool b, .slice A n c], .int .i64 e, .int .i64 B] w (Gives w fun v w' => ∃ qv, v = .tuple #[qv, .bool true] ∧ NumRes w (0) 626 true qv w') := by
  have h1 : decide (e < 0) = false := by simp; omega
  have h2 : decide (B < 0) = false := by simp; omega
  have HB := As.mk hB
  have HS : As (decide (z < 0) = false) := ⟨by simp; omega⟩
  obtain ⟨X, hX⟩ : ∃ X, X = bitN z.natAbs := ⟨_, rfl⟩
  have HX := As.mk hX
  have INTMK := True.intro
  obtain rfl : X = 0 := by
    rw [hX]
    have h4 := bitN_le_one z.natAbs
    have h5 := bitN_eq_zero z.natAbs
    omega
  have h6 : decide (0 < e) = true := by simpa using hp
  have h7 : decide (e > 0) = true := by simpa using hp
  clear hz hp
  clear hX he hB
  go_enter Tryd.func38, Tryd.ntmps38
  go_wp2_with (first
    | ((with_reducible refine g_dst 3 ?_); go_must (refine ev_box 3 rfl (cs := [.bool b, .slice A n c]) (by rfl) ?_); intro g3 wn hb3 B3 hg3; have hb := hb3)
    | ((with_reducible refine g_dst 6 ?_); go_must (refine ev_alloc 6 rfl infoNum (cs := [.bool false, .slice none 0 0]) rfl ?_); intro g6 wn hb6 B6 hgn; have hneb6_3 : g6 ≠ g3 := (fun e => by (have h1 := B3.lt; omega)); have hg6 := Nat.le_trans hb.size hgn; replace B3 := B3.below hb6; have C3 := B3.cells; replace hb := bthen hb hb6)
    | (go_at_call 52; (with_reducible refine (rcanonS (F0.below hb) (by repeat (first | exact List.mem_cons_self .. | apply List.mem_cons_of_mem)) (by omega) HS.out).mono ?_); rintro e' wn ⟨vn, rfl, ⟨A4, n4, c4, rfl, o4, f4⟩, hbn⟩; clear C3; have hne4 : ∀ k ∈ addrBlock A4, k ≠ g3 := (fun k hk e => by (have h1 := (f4 k hk).1; have h2 := B3.lt; omega)); have hne46 : ∀ k ∈ addrBlock A4, k ≠ g6 := (fun k hk e => by (have h1 := (f4 k hk).1; have h2 := B6.lt; omega)); have hlt4 : ∀ k ∈ addrBlock A4, k < _ := (fun k hk => (f4 k hk).2); clear f4; replace B3 := B3.below hbn; replace B6 := B6.below hbn; replace hb := bthen hb hbn; clear hbn)
    | ((with_reducible refine g_store 3 ?_); go_must (refine ev_store rfl rfl B3 (news := [.bool false, .slice A4 n4 c4]) (by rfl) infoNum (by simp) (by simp [Value.oneCell']) ?_); intro wn hon Bn; simp only [List.take_zero, List.nil_append, List.length_cons, List.length_nil, List.drop_succ_cons, List.drop_zero, List.append_nil, List.cons_append] at Bn; replace B6 := B6.only hon hneb6_3; replace B3 := Bn; clear Bn; replace o4 := o4.only hon hne4; replace hlt4 : ∀ k ∈ addrBlock A4, k < _ := (fun k hk => Nat.lt_of_lt_of_eq (hlt4 k hk) hon.size.symm); replace hb := hb.trans (hon.below hg3); clear hon; have C3 := B3.cells)
    | (go_at_call 28; (with_reducible refine (rintF 1 (by omega) (by omega)).mono ?_); rintro e' wn ⟨vn, rfl, ⟨b8, A8, n8, c8, rfl, o8, f8⟩, hbn⟩; have hlt8 : ∀ k ∈ addrBlock A8, k < _ := (fun k hk => (f8 k hk).2); have hge8 : ∀ k ∈ addrBlock A8, w.heap.size ≤ k := (fun k hk => Nat.le_trans hb.size (f8 k hk).1); have hne83 : ∀ k ∈ addrBlock A8, k ≠ g3 := (fun k hk e => by (have h1 := (f8 k hk).1; have h2 := B3.lt; omega)); have hne86 : ∀ k ∈ addrBlock A8, k ≠ g6 := (fun k hk e => by (have h1 := (f8 k hk).1; have h2 := B6.lt; omega)); clear f8 C3; replace B3 := B3.below hbn; replace B6 := B6.below hbn; replace o4 := o4.below hbn; replace hlt4 : ∀ k ∈ addrBlock A4, k < _ := (fun k hk => Nat.lt_of_lt_of_le (hlt4 k hk) hbn.size); replace hb := bthen hb hbn; clear hbn)
    | ((with_reducible refine g_dst 8 ?_); go_must (refine ev_alloc 8 rfl infoNum (cs := [.bool false, .slice none 0 0]) rfl ?_); intro g8 wn hb8 B8 hgn; have hneb8_3 : g8 ≠ g3 := (fun e => by (have h1 := B3.lt; omega)); have hneb8_6 : g8 ≠ g6 := (fun e => by (have h1 := B6.lt; omega)); have hne8 : ∀ k ∈ addrBlock A8, k ≠ g8 := (fun k hk e => by (have h1 := hlt8 k hk; omega)); have hne48 : ∀ k ∈ addrBlock A4, k ≠ g8 := (fun k hk e => by (have h1 := hlt4 k hk; omega)); have hg8 := Nat.le_trans hb.size hgn; replace B3 := B3.below hb8; replace B6 := B6.below hb8; replace o4 := o4.below hb8; replace o8 := o8.below hb8; replace hlt8 : ∀ k ∈ addrBlock A8, k < _ := (fun k hk => Nat.lt_of_lt_of_le (hlt8 k hk) hb8.size); replace hb := bthen hb hb8)
    | ((clear INTMK); (with_reducible refine g_store 8 ?_); go_must (refine ev_store rfl rfl B8 (news := [.bool b8, .slice A8 n8 c8]) (by rfl) infoNum (by simp) (by simp [Value.oneCell']) ?_); intro wn hon Bn; simp only [List.take_zero, List.nil_append, List.length_cons, List.length_nil, List.drop_succ_cons, List.drop_zero, List.append_nil, List.cons_append] at Bn; replace B3 := B3.only hon (Ne.symm hneb8_3); replace B6 := B6.only hon (Ne.symm hneb8_6); replace B8 := Bn; clear Bn; replace o4 := o4.only hon hne48; replace o8 := o8.only hon hne8; replace hlt8 : ∀ k ∈ addrBlock A8, k < _ := (fun k hk => Nat.lt_of_lt_of_eq (hlt8 k hk) hon.size.symm); replace hb := hb.trans (hon.below hg8); clear hon; have C3 := B3.cells; have C8 := B8.cells)
    | (go_at_call 60; (with_reducible refine (rbitsN HX.out ((Fs.nil _).cons o4) (by repeat (first | exact List.mem_cons_self .. | apply List.mem_cons_of_mem))).mono ?_); rintro e' wn ⟨vn, rfl, rfl, hbn⟩; clear C3 C8; replace B3 := B3.below hbn; replace B6 := B6.below hbn; replace B8 := B8.below hbn; replace o4 := o4.below hbn; replace o8 := o8.below hbn; replace hlt8 : ∀ k ∈ addrBlock A8, k < _ := (fun k hk => Nat.lt_of_lt_of_le (hlt8 k hk) hbn.size); have C3 := B3.cells; have C8 := B8.cells; replace hb := bthen hb hbn; clear hbn)
    | ((with_reducible refine g_store 8 ?_); go_must (refine ev_store rfl rfl B8 (news := [.bool false, .slice none 0 0]) (by first | rfl | (go_simp; try rfl)) infoNum (by simp) (by simp [Value.oneCell']) ?_); intro wn hon Bn; simp only [List.take_zero, List.nil_append, List.length_cons, List.length_nil, List.drop_succ_cons, List.drop_zero, List.append_nil, List.cons_append] at Bn; replace B3 := B3.only hon (Ne.symm hneb8_3); replace B6 := B6.only hon (Ne.symm hneb8_6); replace B8 := Bn; clear Bn o8 hlt8 hge8 hne83 hne86; replace hb := hb.trans (hon.below hg8); clear hon; have C3 := B3.cells; have C8 := B8.cells)
    | ((with_reducible refine g_store 40 ?_); go_must (refine ev_store rfl rfl B8 (news := [.bool false]) (by first | rfl | (go_simp; try rfl)) infoBool (by simp) (by simp [Value.oneCell']) ?_); intro wn hon Bn; simp only [List.take_zero, List.nil_append, List.length_cons, List.length_nil, List.drop_succ_cons, List.drop_zero, List.append_nil, List.cons_append] at Bn; replace B6 := B6.only hon (Ne.symm hneb8_6); replace B8 := Bn; clear Bn B3 C3 C8; replace hb := hb.trans (hon.below hg8); clear hon; have C8 := B8.cells)
    | (go_at_call 52; (with_reducible refine (rcanonF ((Fs.nil _).cons (show NR.Ok _ ⟨false, none, 0, 0, 0, 2, false⟩ from ⟨⟨[], rfl, lim_nil _, rfl, fun h => (nomatch h)⟩, Nat.zero_le _⟩)) (by repeat (first | exact List.mem_cons_self .. | apply List.mem_cons_of_mem)) (by omega)).mono ?_); rintro e' wn ⟨vn, rfl, ⟨b9, A9, n9, c9, rfl, o9, f9⟩, hbn⟩; have hge9 : ∀ k ∈ addrBlock A9, w.heap.size ≤ k := (fun k hk => Nat.le_trans hb.size (f9 k hk).1); have hlt9 : ∀ k ∈ addrBlock A9, k < _ := (fun k hk => (f9 k hk).2); have hne96 : ∀ k ∈ addrBlock A9, k ≠ g6 := (fun k hk e => by (have h1 := (f9 k hk).1; have h2 := B6.lt; omega)); clear f9 C8 B8; replace B6 := B6.below hbn; replace hb := bthen hb hbn; clear hbn)
    | (go_at_call 61; (with_reducible refine (rfitsYF ((Fs.nil _).cons o9) (by repeat (first | exact List.mem_cons_self .. | apply List.mem_cons_of_mem)) HB.out).mono ?_); rintro e' wn ⟨vn, rfl, rfl, hbn⟩; replace B6 := B6.below hbn; replace o9 := o9.below hbn; replace hlt9 : ∀ k ∈ addrBlock A9, k < _ := (fun k hk => Nat.lt_of_lt_of_le (hlt9 k hk) hbn.size); replace hb := bthen hb hbn; clear hbn)
    | ((with_reducible refine g_store 6 ?_); go_must (refine ev_store rfl rfl B6 (news := [.bool b9, .slice A9 n9 c9]) (by rfl) infoNum (by simp) (by simp [Value.oneCell']) ?_); intro wn hon Bn; simp only [List.take_zero, List.nil_append, List.length_cons, List.length_nil, List.drop_succ_cons, List.drop_zero, List.append_nil, List.cons_append] at Bn; replace B6 := Bn; clear Bn; replace o9 := o9.only hon hne96; replace hlt9 : ∀ k ∈ addrBlock A9, k < _ := (fun k hk => Nat.lt_of_lt_of_eq (hlt9 k hk) hon.size.symm); replace hb := hb.trans (hon.below hg6); clear hon))
  refine bodyPost_ret (results_ct rfl _ _ g6 26 #[.bool b9, .slice A9 n9 c9] (0, 0) _ rfl B6.h Tryd.underlying26 rfl (by kernel_rfl)) rfl ?_
  exact ⟨_, rfl, ⟨_, rfl, ⟨_, _, _, _, rfl, ⟨o9.ex, Nat.le_trans o9.le (by simp only; omega)⟩, fun k hk => ⟨hge9 k hk, hlt9 k hk⟩⟩⟩, hb⟩
set_option maxRecDepth 8000 in
set_option maxHeartbeats 4000000 in
theorem rpowS0Y_go {e B : Int} (F0 : Fs w [⟨b, A, n, c, z, K, can⟩]) (hK : K ≤ 1073000000) (he : 0 ≤ e) (hz : z = 0) (hp : e = 0) (hB0 : 0 ≤ B) (hB : ((bitN (1 : Int).natAbs : Nat) : Int) ≤ B) (hB2 : B ≤ 20000) :
    Calls Tryd.prog 38 #[.agg #[.bool b, .slice A n c], .int .i64 e, .int .i64 B] w (Gives w fun v w' => ∃ qv, v = .tuple #[qv, .bool true] ∧ NumRes w (1) 626 true qv w') := by
  have h1 : decide (e < 0) = false := by simp; omega
  have h2 : decide (B < 0) = false := by simp; omega
  have HB := As.mk hB
  have HS : As (decide (z < 0) = false) := ⟨by simp; omega⟩
  obtain ⟨X, hX⟩ : ∃ X, X = bitN z.natAbs := ⟨_, rfl⟩
  have HX := As.mk hX
  have INTMK := True.intro
  obtain rfl : X = 0 := by
    rw [hX]
    have h4 := bitN_le_one z.natAbs
    have h5 := bitN_eq_zero z.natAbs
    omega
  have h6 : decide (0 < e) = false := by simp; omega
  have h7 : decide (e > 0) = false := by simp; omega
  clear hz hp
  clear hX he hB
  go_enter Tryd.func38, Tryd.ntmps38
  go_wp2_with (first
    | ((with_reducible refine g_dst 3 ?_); go_must (refine ev_box 3 rfl (cs := [.bool b, .slice A n c]) (by rfl) ?_); intro g3 wn hb3 B3 hg3; have hb := hb3)
    | ((with_reducible refine g_dst 6 ?_); go_must (refine ev_alloc 6 rfl infoNum (cs := [.bool false, .slice none 0 0]) rfl ?_); intro g6 wn hb6 B6 hgn; have hneb6_3 : g6 ≠ g3 := (fun e => by (have h1 := B3.lt; omega)); have hg6 := Nat.le_trans hb.size hgn; replace B3 := B3.below hb6; have C3 := B3.cells; replace hb := bthen hb hb6)
    | (go_at_call 52; (with_reducible refine (rcanonS (F0.below hb) (by repeat (first | exact List.mem_cons_self .. | apply List.mem_cons_of_mem)) (by omega) HS.out).mono ?_); rintro e' wn ⟨vn, rfl, ⟨A4, n4, c4, rfl, o4, f4⟩, hbn⟩; clear C3; have hne4 : ∀ k ∈ addrBlock A4, k ≠ g3 := (fun k hk e => by (have h1 := (f4 k hk).1; have h2 := B3.lt; omega)); have hne46 : ∀ k ∈ addrBlock A4, k ≠ g6 := (fun k hk e => by (have h1 := (f4 k hk).1; have h2 := B6.lt; omega)); have hlt4 : ∀ k ∈ addrBlock A4, k < _ := (fun k hk => (f4 k hk).2); clear f4; replace B3 := B3.below hbn; replace B6 := B6.below hbn; replace hb := bthen hb hbn; clear hbn)
    | ((with_reducible refine g_store 3 ?_); go_must (refine ev_store rfl rfl B3 (news := [.bool false, .slice A4 n4 c4]) (by rfl) infoNum (by simp) (by simp [Value.oneCell']) ?_); intro wn hon Bn; simp only [List.take_zero, List.nil_append, List.length_cons, List.length_nil, List.drop_succ_cons, List.drop_zero, List.append_nil, List.cons_append] at Bn; replace B6 := B6.only hon hneb6_3; replace B3 := Bn; clear Bn; replace o4 := o4.only hon hne4; replace hlt4 : ∀ k ∈ addrBlock A4, k < _ := (fun k hk => Nat.lt_of_lt_of_eq (hlt4 k hk) hon.size.symm); replace hb := hb.trans (hon.below hg3); clear hon; have C3 := B3.cells)
    | (go_at_call 28; (with_reducible refine (rintF 1 (by omega) (by omega)).mono ?_); rintro e' wn ⟨vn, rfl, ⟨b8, A8, n8, c8, rfl, o8, f8⟩, hbn⟩; have hlt8 : ∀ k ∈ addrBlock A8, k < _ := (fun k hk => (f8 k hk).2); have hge8 : ∀ k ∈ addrBlock A8, w.heap.size ≤ k := (fun k hk => Nat.le_trans hb.size (f8 k hk).1); have hne83 : ∀ k ∈ addrBlock A8, k ≠ g3 := (fun k hk e => by (have h1 := (f8 k hk).1; have h2 := B3.lt; omega)); have hne86 : ∀ k ∈ addrBlock A8, k ≠ g6 := (fun k hk e => by (have h1 := (f8 k hk).1; have h2 := B6.lt; omega)); clear f8 C3; replace B3 := B3.below hbn; replace B6 := B6.below hbn; replace o4 := o4.below hbn; replace hlt4 : ∀ k ∈ addrBlock A4, k < _ := (fun k hk => Nat.lt_of_lt_of_le (hlt4 k hk) hbn.size); replace hb := bthen hb hbn; clear hbn)
    | ((with_reducible refine g_dst 8 ?_); go_must (refine ev_alloc 8 rfl infoNum (cs := [.bool false, .slice none 0 0]) rfl ?_); intro g8 wn hb8 B8 hgn; have hneb8_3 : g8 ≠ g3 := (fun e => by (have h1 := B3.lt; omega)); have hneb8_6 : g8 ≠ g6 := (fun e => by (have h1 := B6.lt; omega)); have hne8 : ∀ k ∈ addrBlock A8, k ≠ g8 := (fun k hk e => by (have h1 := hlt8 k hk; omega)); have hne48 : ∀ k ∈ addrBlock A4, k ≠ g8 := (fun k hk e => by (have h1 := hlt4 k hk; omega)); have hg8 := Nat.le_trans hb.size hgn; replace B3 := B3.below hb8; replace B6 := B6.below hb8; replace o4 := o4.below hb8; replace o8 := o8.below hb8; replace hlt8 : ∀ k ∈ addrBlock A8, k < _ := (fun k hk => Nat.lt_of_lt_of_le (hlt8 k hk) hb8.size); replace hb := bthen hb hb8)
    | ((clear INTMK); (with_reducible refine g_store 8 ?_); go_must (refine ev_store rfl rfl B8 (news := [.bool b8, .slice A8 n8 c8]) (by rfl) infoNum (by simp) (by simp [Value.oneCell']) ?_); intro wn hon Bn; simp only [List.take_zero, List.nil_append, List.length_cons, List.length_nil, List.drop_succ_cons, List.drop_zero, List.append_nil, List.cons_append] at Bn; replace B3 := B3.only hon (Ne.symm hneb8_3); replace B6 := B6.only hon (Ne.symm hneb8_6); replace B8 := Bn; clear Bn; replace o4 := o4.only hon hne48; replace o8 := o8.only hon hne8; replace hlt8 : ∀ k ∈ addrBlock A8, k < _ := (fun k hk => Nat.lt_of_lt_of_eq (hlt8 k hk) hon.size.symm); replace hb := hb.trans (hon.below hg8); clear hon; have C3 := B3.cells; have C8 := B8.cells)
    | (go_at_call 60; (with_reducible refine (rbitsN HX.out ((Fs.nil _).cons o4) (by repeat (first | exact List.mem_cons_self .. | apply List.mem_cons_of_mem))).mono ?_); rintro e' wn ⟨vn, rfl, rfl, hbn⟩; clear C3 C8; replace B3 := B3.below hbn; replace B6 := B6.below hbn; replace B8 := B8.below hbn; replace o4 := o4.below hbn; replace o8 := o8.below hbn; replace hlt8 : ∀ k ∈ addrBlock A8, k < _ := (fun k hk => Nat.lt_of_lt_of_le (hlt8 k hk) hbn.size); have C3 := B3.cells; have C8 := B8.cells; replace hb := bthen hb hbn; clear hbn)
    | ((with_reducible refine g_store 40 ?_); go_must (refine ev_store rfl rfl B8 (news := [.bool false]) (by first | rfl | (go_simp; try rfl)) infoBool (by simp) (by simp [Value.oneCell']) ?_); intro wn hon Bn; simp only [List.take_zero, List.nil_append, List.length_cons, List.length_nil, List.drop_succ_cons, List.drop_zero, List.append_nil, List.cons_append] at Bn; replace B6 := B6.only hon (Ne.symm hneb8_6); replace B8 := Bn; clear Bn B3 C3 C8; replace o8 := o8.only hon hne8; replace hlt8 : ∀ k ∈ addrBlock A8, k < _ := (fun k hk => Nat.lt_of_lt_of_eq (hlt8 k hk) hon.size.symm); replace hb := hb.trans (hon.below hg8); clear hon; have C8 := B8.cells)
    | (go_at_call 52; (with_reducible refine (rcanonF ((Fs.nil _).cons (o8.resign false (1) (by decide))) (by repeat (first | exact List.mem_cons_self .. | apply List.mem_cons_of_mem)) (by omega)).mono ?_); rintro e' wn ⟨vn, rfl, ⟨b9, A9, n9, c9, rfl, o9, f9⟩, hbn⟩; have hge9 : ∀ k ∈ addrBlock A9, w.heap.size ≤ k := (fun k hk => Nat.le_trans hb.size (f9 k hk).1); have hlt9 : ∀ k ∈ addrBlock A9, k < _ := (fun k hk => (f9 k hk).2); have hne96 : ∀ k ∈ addrBlock A9, k ≠ g6 := (fun k hk e => by (have h1 := (f9 k hk).1; have h2 := B6.lt; omega)); clear f9 C8 B8; replace B6 := B6.below hbn; replace hb := bthen hb hbn; clear hbn)
    | (go_at_call 61; (with_reducible refine (rfitsYF ((Fs.nil _).cons o9) (by repeat (first | exact List.mem_cons_self .. | apply List.mem_cons_of_mem)) HB.out).mono ?_); rintro e' wn ⟨vn, rfl, rfl, hbn⟩; replace B6 := B6.below hbn; replace o9 := o9.below hbn; replace hlt9 : ∀ k ∈ addrBlock A9, k < _ := (fun k hk => Nat.lt_of_lt_of_le (hlt9 k hk) hbn.size); replace hb := bthen hb hbn; clear hbn)
    | ((with_reducible refine g_store 6 ?_); go_must (refine ev_store rfl rfl B6 (news := [.bool b9, .slice A9 n9 c9]) (by rfl) infoNum (by simp) (by simp [Value.oneCell']) ?_); intro wn hon Bn; simp only [List.take_zero, List.nil_append, List.length_cons, List.length_nil, List.drop_succ_cons, List.drop_zero, List.append_nil, List.cons_append] at Bn; replace B6 := Bn; clear Bn; replace o9 := o9.only hon hne96; replace hlt9 : ∀ k ∈ addrBlock A9, k < _ := (fun k hk => Nat.lt_of_lt_of_eq (hlt9 k hk) hon.size.symm); replace hb := hb.trans (hon.below hg6); clear hon))
  refine bodyPost_ret (results_ct rfl _ _ g6 26 #[.bool b9, .slice A9 n9 c9] (0, 0) _ rfl B6.h Tryd.underlying26 rfl (by kernel_rfl)) rfl ?_
  exact ⟨_, rfl, ⟨_, rfl, ⟨_, _, _, _, rfl, ⟨o9.ex, Nat.le_trans o9.le (by simp only; omega)⟩, fun k hk => ⟨hge9 k hk, hlt9 k hk⟩⟩⟩, hb⟩
set_option maxRecDepth 8000 in
set_option maxHeartbeats 4000000 in
theorem rpowS1Y_go {e B : Int} (F0 : Fs w [⟨b, A, n, c, z, K, can⟩]) (hK : K ≤ 1073000000) (he : 0 ≤ e) (hz : z = 1) (hB0 : 0 ≤ B) (hB : ((bitN (1 : Int).natAbs : Nat) : Int) ≤ B) (hB2 : B ≤ 20000) :
    Calls Tryd.prog 38 #[.agg #[.bool b, .slice A n c], .int .i64 e, .int .i64 B] w (Gives w fun v w' => ∃ qv, v = .tuple #[qv, .bool true] ∧ NumRes w (1) 626 true qv w') := by
  have h1 : decide (e < 0) = false := by simp; omega
  have h2 : decide (B < 0) = false := by simp; omega
  have HB := As.mk hB
  have HS : As (decide (z < 0) = false) := ⟨by simp; omega⟩
  obtain ⟨X, hX⟩ : ∃ X, X = bitN z.natAbs := ⟨_, rfl⟩
  have HX := As.mk hX
  have INTMK := True.intro
  obtain rfl : X = 1 := by
    rw [hX]
    have h4 := bitN_le_one z.natAbs
    have h5 := bitN_eq_zero z.natAbs
    omega
  clear hz
  clear hX he hB
  go_enter Tryd.func38, Tryd.ntmps38
  go_wp2_with (first
    | ((with_reducible refine g_dst 3 ?_); go_must (refine ev_box 3 rfl (cs := [.bool b, .slice A n c]) (by rfl) ?_); intro g3 wn hb3 B3 hg3; have hb := hb3)
    | ((with_reducible refine g_dst 6 ?_); go_must (refine ev_alloc 6 rfl infoNum (cs := [.bool false, .slice none 0 0]) rfl ?_); intro g6 wn hb6 B6 hgn; have hneb6_3 : g6 ≠ g3 := (fun e => by (have h1 := B3.lt; omega)); have hg6 := Nat.le_trans hb.size hgn; replace B3 := B3.below hb6; have C3 := B3.cells; replace hb := bthen hb hb6)
    | (go_at_call 52; (with_reducible refine (rcanonS (F0.below hb) (by repeat (first | exact List.mem_cons_self .. | apply List.mem_cons_of_mem)) (by omega) HS.out).mono ?_); rintro e' wn ⟨vn, rfl, ⟨A4, n4, c4, rfl, o4, f4⟩, hbn⟩; clear C3; have hne4 : ∀ k ∈ addrBlock A4, k ≠ g3 := (fun k hk e => by (have h1 := (f4 k hk).1; have h2 := B3.lt; omega)); have hne46 : ∀ k ∈ addrBlock A4, k ≠ g6 := (fun k hk e => by (have h1 := (f4 k hk).1; have h2 := B6.lt; omega)); have hlt4 : ∀ k ∈ addrBlock A4, k < _ := (fun k hk => (f4 k hk).2); clear f4; replace B3 := B3.below hbn; replace B6 := B6.below hbn; replace hb := bthen hb hbn; clear hbn)
    | ((with_reducible refine g_store 3 ?_); go_must (refine ev_store rfl rfl B3 (news := [.bool false, .slice A4 n4 c4]) (by rfl) infoNum (by simp) (by simp [Value.oneCell']) ?_); intro wn hon Bn; simp only [List.take_zero, List.nil_append, List.length_cons, List.length_nil, List.drop_succ_cons, List.drop_zero, List.append_nil, List.cons_append] at Bn; replace B6 := B6.only hon hneb6_3; replace B3 := Bn; clear Bn; replace o4 := o4.only hon hne4; replace hlt4 : ∀ k ∈ addrBlock A4, k < _ := (fun k hk => Nat.lt_of_lt_of_eq (hlt4 k hk) hon.size.symm); replace hb := hb.trans (hon.below hg3); clear hon; have C3 := B3.cells)
    | (go_at_call 28; (with_reducible refine (rintF 1 (by omega) (by omega)).mono ?_); rintro e' wn ⟨vn, rfl, ⟨b8, A8, n8, c8, rfl, o8, f8⟩, hbn⟩; have hlt8 : ∀ k ∈ addrBlock A8, k < _ := (fun k hk => (f8 k hk).2); have hge8 : ∀ k ∈ addrBlock A8, w.heap.size ≤ k := (fun k hk => Nat.le_trans hb.size (f8 k hk).1); have hne83 : ∀ k ∈ addrBlock A8, k ≠ g3 := (fun k hk e => by (have h1 := (f8 k hk).1; have h2 := B3.lt; omega)); have hne86 : ∀ k ∈ addrBlock A8, k ≠ g6 := (fun k hk e => by (have h1 := (f8 k hk).1; have h2 := B6.lt; omega)); clear f8 C3; replace B3 := B3.below hbn; replace B6 := B6.below hbn; replace o4 := o4.below hbn; replace hlt4 : ∀ k ∈ addrBlock A4, k < _ := (fun k hk => Nat.lt_of_lt_of_le (hlt4 k hk) hbn.size); replace hb := bthen hb hbn; clear hbn)
    | ((with_reducible refine g_dst 8 ?_); go_must (refine ev_alloc 8 rfl infoNum (cs := [.bool false, .slice none 0 0]) rfl ?_); intro g8 wn hb8 B8 hgn; have hneb8_3 : g8 ≠ g3 := (fun e => by (have h1 := B3.lt; omega)); have hneb8_6 : g8 ≠ g6 := (fun e => by (have h1 := B6.lt; omega)); have hne8 : ∀ k ∈ addrBlock A8, k ≠ g8 := (fun k hk e => by (have h1 := hlt8 k hk; omega)); have hne48 : ∀ k ∈ addrBlock A4, k ≠ g8 := (fun k hk e => by (have h1 := hlt4 k hk; omega)); have hg8 := Nat.le_trans hb.size hgn; replace B3 := B3.below hb8; replace B6 := B6.below hb8; replace o4 := o4.below hb8; replace o8 := o8.below hb8; replace hlt8 : ∀ k ∈ addrBlock A8, k < _ := (fun k hk => Nat.lt_of_lt_of_le (hlt8 k hk) hb8.size); replace hb := bthen hb hb8)
    | ((clear INTMK); (with_reducible refine g_store 8 ?_); go_must (refine ev_store rfl rfl B8 (news := [.bool b8, .slice A8 n8 c8]) (by rfl) infoNum (by simp) (by simp [Value.oneCell']) ?_); intro wn hon Bn; simp only [List.take_zero, List.nil_append, List.length_cons, List.length_nil, List.drop_succ_cons, List.drop_zero, List.append_nil, List.cons_append] at Bn; replace B3 := B3.only hon (Ne.symm hneb8_3); replace B6 := B6.only hon (Ne.symm hneb8_6); replace B8 := Bn; clear Bn; replace o4 := o4.only hon hne48; replace o8 := o8.only hon hne8; replace hlt8 : ∀ k ∈ addrBlock A8, k < _ := (fun k hk => Nat.lt_of_lt_of_eq (hlt8 k hk) hon.size.symm); replace hb := hb.trans (hon.below hg8); clear hon; have C3 := B3.cells; have C8 := B8.cells)
    | (go_at_call 60; (with_reducible refine (rbitsN HX.out ((Fs.nil _).cons o4) (by repeat (first | exact List.mem_cons_self .. | apply List.mem_cons_of_mem))).mono ?_); rintro e' wn ⟨vn, rfl, rfl, hbn⟩; clear C3 C8; replace B3 := B3.below hbn; replace B6 := B6.below hbn; replace B8 := B8.below hbn; replace o4 := o4.below hbn; replace o8 := o8.below hbn; replace hlt8 : ∀ k ∈ addrBlock A8, k < _ := (fun k hk => Nat.lt_of_lt_of_le (hlt8 k hk) hbn.size); have C3 := B3.cells; have C8 := B8.cells; replace hb := bthen hb hbn; clear hbn)
    | ((with_reducible refine g_store 40 ?_); go_must (refine ev_store rfl rfl B8 (news := [.bool false]) (by first | rfl | (go_simp; try rfl)) infoBool (by simp) (by simp [Value.oneCell']) ?_); intro wn hon Bn; simp only [List.take_zero, List.nil_append, List.length_cons, List.length_nil, List.drop_succ_cons, List.drop_zero, List.append_nil, List.cons_append] at Bn; replace B6 := B6.only hon (Ne.symm hneb8_6); replace B8 := Bn; clear Bn B3 C3 C8; replace o8 := o8.only hon hne8; replace hlt8 : ∀ k ∈ addrBlock A8, k < _ := (fun k hk => Nat.lt_of_lt_of_eq (hlt8 k hk) hon.size.symm); replace hb := hb.trans (hon.below hg8); clear hon; have C8 := B8.cells)
    | (go_at_call 52; (with_reducible refine (rcanonF ((Fs.nil _).cons (o8.resign false (1) (by decide))) (by repeat (first | exact List.mem_cons_self .. | apply List.mem_cons_of_mem)) (by omega)).mono ?_); rintro e' wn ⟨vn, rfl, ⟨b9, A9, n9, c9, rfl, o9, f9⟩, hbn⟩; have hge9 : ∀ k ∈ addrBlock A9, w.heap.size ≤ k := (fun k hk => Nat.le_trans hb.size (f9 k hk).1); have hlt9 : ∀ k ∈ addrBlock A9, k < _ := (fun k hk => (f9 k hk).2); have hne96 : ∀ k ∈ addrBlock A9, k ≠ g6 := (fun k hk e => by (have h1 := (f9 k hk).1; have h2 := B6.lt; omega)); clear f9 C8 B8; replace B6 := B6.below hbn; replace hb := bthen hb hbn; clear hbn)
    | (go_at_call 61; (with_reducible refine (rfitsYF ((Fs.nil _).cons o9) (by repeat (first | exact List.mem_cons_self .. | apply List.mem_cons_of_mem)) HB.out).mono ?_); rintro e' wn ⟨vn, rfl, rfl, hbn⟩; replace B6 := B6.below hbn; replace o9 := o9.below hbn; replace hlt9 : ∀ k ∈ addrBlock A9, k < _ := (fun k hk => Nat.lt_of_lt_of_le (hlt9 k hk) hbn.size); replace hb := bthen hb hbn; clear hbn)
    | ((with_reducible refine g_store 6 ?_); go_must (refine ev_store rfl rfl B6 (news := [.bool b9, .slice A9 n9 c9]) (by rfl) infoNum (by simp) (by simp [Value.oneCell']) ?_); intro wn hon Bn; simp only [List.take_zero, List.nil_append, List.length_cons, List.length_nil, List.drop_succ_cons, List.drop_zero, List.append_nil, List.cons_append] at Bn; replace B6 := Bn; clear Bn; replace o9 := o9.only hon hne96; replace hlt9 : ∀ k ∈ addrBlock A9, k < _ := (fun k hk => Nat.lt_of_lt_of_eq (hlt9 k hk) hon.size.symm); replace hb := hb.trans (hon.below hg6); clear hon))
  refine bodyPost_ret (results_ct rfl _ _ g6 26 #[.bool b9, .slice A9 n9 c9] (0, 0) _ rfl B6.h Tryd.underlying26 rfl (by kernel_rfl)) rfl ?_
  exact ⟨_, rfl, ⟨_, rfl, ⟨_, _, _, _, rfl, ⟨o9.ex, Nat.le_trans o9.le (by simp only; omega)⟩, fun k hk => ⟨hge9 k hk, hlt9 k hk⟩⟩⟩, hb⟩
set_option maxRecDepth 8000 in
set_option maxHeartbeats 4000000 in
theorem rpowSOY_go {e B : Int} (F0 : Fs w [⟨b, A, n, c, z, K, can⟩]) (hK : K ≤ 1073000000) (he : 0 ≤ e) (hz : z = -1) (hp : e % 2 = 1) (hB0 : 0 ≤ B) (hB : ((bitN (-1 : Int).natAbs : Nat) : Int) ≤ B) (hB2 : B ≤ 20000) :
    Calls Tryd.prog 38 #[.agg #[.bool b, .slice A n c], .int .i64 e, .int .i64 B] w (Gives w fun v w' => ∃ qv, v = .tuple #[qv, .bool true] ∧ NumRes w (-1) 626 true qv w') := by
  have h1 : decide (e < 0) = false := by simp; omega
  have h2 : decide (B < 0) = false := by simp; omega
  have HB := As.mk hB
  have HS : As (decide (z < 0) = true) := ⟨by simp; omega⟩
  obtain ⟨X, hX⟩ : ∃ X, X = bitN z.natAbs := ⟨_, rfl⟩
  have HX := As.mk hX
  have INTMK := True.intro
  obtain rfl : X = 1 := by
    rw [hX]
    have h4 := bitN_le_one z.natAbs
    have h5 := bitN_eq_zero z.natAbs
    omega
  have h3 : e.tmod 2 = e % 2 := Int.tmod_eq_emod_of_nonneg (by omega)
  have h4 : e % 2 = 1 := hp
  clear hz hp
  clear hX he hB
  go_enter Tryd.func38, Tryd.ntmps38
  go_wp2_with (first
    | ((with_reducible refine g_dst 3 ?_); go_must (refine ev_box 3 rfl (cs := [.bool b, .slice A n c]) (by rfl) ?_); intro g3 wn hb3 B3 hg3; have hb := hb3)
    | ((with_reducible refine g_dst 6 ?_); go_must (refine ev_alloc 6 rfl infoNum (cs := [.bool false, .slice none 0 0]) rfl ?_); intro g6 wn hb6 B6 hgn; have hneb6_3 : g6 ≠ g3 := (fun e => by (have h1 := B3.lt; omega)); have hg6 := Nat.le_trans hb.size hgn; replace B3 := B3.below hb6; have C3 := B3.cells; replace hb := bthen hb hb6)
    | (go_at_call 52; (with_reducible refine (rcanonS (F0.below hb) (by repeat (first | exact List.mem_cons_self .. | apply List.mem_cons_of_mem)) (by omega) HS.out).mono ?_); rintro e' wn ⟨vn, rfl, ⟨A4, n4, c4, rfl, o4, f4⟩, hbn⟩; clear C3; have hne4 : ∀ k ∈ addrBlock A4, k ≠ g3 := (fun k hk e => by (have h1 := (f4 k hk).1; have h2 := B3.lt; omega)); have hne46 : ∀ k ∈ addrBlock A4, k ≠ g6 := (fun k hk e => by (have h1 := (f4 k hk).1; have h2 := B6.lt; omega)); have hlt4 : ∀ k ∈ addrBlock A4, k < _ := (fun k hk => (f4 k hk).2); clear f4; replace B3 := B3.below hbn; replace B6 := B6.below hbn; replace hb := bthen hb hbn; clear hbn)
    | ((with_reducible refine g_store 3 ?_); go_must (refine ev_store rfl rfl B3 (news := [.bool true, .slice A4 n4 c4]) (by rfl) infoNum (by simp) (by simp [Value.oneCell']) ?_); intro wn hon Bn; simp only [List.take_zero, List.nil_append, List.length_cons, List.length_nil, List.drop_succ_cons, List.drop_zero, List.append_nil, List.cons_append] at Bn; replace B6 := B6.only hon hneb6_3; replace B3 := Bn; clear Bn; replace o4 := o4.only hon hne4; replace hlt4 : ∀ k ∈ addrBlock A4, k < _ := (fun k hk => Nat.lt_of_lt_of_eq (hlt4 k hk) hon.size.symm); replace hb := hb.trans (hon.below hg3); clear hon; have C3 := B3.cells)
    | (go_at_call 28; (with_reducible refine (rintF 1 (by omega) (by omega)).mono ?_); rintro e' wn ⟨vn, rfl, ⟨b8, A8, n8, c8, rfl, o8, f8⟩, hbn⟩; have hlt8 : ∀ k ∈ addrBlock A8, k < _ := (fun k hk => (f8 k hk).2); have hge8 : ∀ k ∈ addrBlock A8, w.heap.size ≤ k := (fun k hk => Nat.le_trans hb.size (f8 k hk).1); have hne83 : ∀ k ∈ addrBlock A8, k ≠ g3 := (fun k hk e => by (have h1 := (f8 k hk).1; have h2 := B3.lt; omega)); have hne86 : ∀ k ∈ addrBlock A8, k ≠ g6 := (fun k hk e => by (have h1 := (f8 k hk).1; have h2 := B6.lt; omega)); clear f8 C3; replace B3 := B3.below hbn; replace B6 := B6.below hbn; replace o4 := o4.below hbn; replace hlt4 : ∀ k ∈ addrBlock A4, k < _ := (fun k hk => Nat.lt_of_lt_of_le (hlt4 k hk) hbn.size); replace hb := bthen hb hbn; clear hbn)
    | ((with_reducible refine g_dst 8 ?_); go_must (refine ev_alloc 8 rfl infoNum (cs := [.bool false, .slice none 0 0]) rfl ?_); intro g8 wn hb8 B8 hgn; have hneb8_3 : g8 ≠ g3 := (fun e => by (have h1 := B3.lt; omega)); have hneb8_6 : g8 ≠ g6 := (fun e => by (have h1 := B6.lt; omega)); have hne8 : ∀ k ∈ addrBlock A8, k ≠ g8 := (fun k hk e => by (have h1 := hlt8 k hk; omega)); have hne48 : ∀ k ∈ addrBlock A4, k ≠ g8 := (fun k hk e => by (have h1 := hlt4 k hk; omega)); have hg8 := Nat.le_trans hb.size hgn; replace B3 := B3.below hb8; replace B6 := B6.below hb8; replace o4 := o4.below hb8; replace o8 := o8.below hb8; replace hlt8 : ∀ k ∈ addrBlock A8, k < _ := (fun k hk => Nat.lt_of_lt_of_le (hlt8 k hk) hb8.size); replace hb := bthen hb hb8)
    | ((clear INTMK); (with_reducible refine g_store 8 ?_); go_must (refine ev_store rfl rfl B8 (news := [.bool b8, .slice A8 n8 c8]) (by rfl) infoNum (by simp) (by simp [Value.oneCell']) ?_); intro wn hon Bn; simp only [List.take_zero, List.nil_append, List.length_cons, List.length_nil, List.drop_succ_cons, List.drop_zero, List.append_nil, List.cons_append] at Bn; replace B3 := B3.only hon (Ne.symm hneb8_3); replace B6 := B6.only hon (Ne.symm hneb8_6); replace B8 := Bn; clear Bn; replace o4 := o4.only hon hne48; replace o8 := o8.only hon hne8; replace hlt8 : ∀ k ∈ addrBlock A8, k < _ := (fun k hk => Nat.lt_of_lt_of_eq (hlt8 k hk) hon.size.symm); replace hb := hb.trans (hon.below hg8); clear hon; have C3 := B3.cells; have C8 := B8.cells)
    | (go_at_call 60; (with_reducible refine (rbitsN HX.out ((Fs.nil _).cons o4) (by repeat (first | exact List.mem_cons_self .. | apply List.mem_cons_of_mem))).mono ?_); rintro e' wn ⟨vn, rfl, rfl, hbn⟩; clear C3 C8; replace B3 := B3.below hbn; replace B6 := B6.below hbn; replace B8 := B8.below hbn; replace o4 := o4.below hbn; replace o8 := o8.below hbn; replace hlt8 : ∀ k ∈ addrBlock A8, k < _ := (fun k hk => Nat.lt_of_lt_of_le (hlt8 k hk) hbn.size); have C3 := B3.cells; have C8 := B8.cells; replace hb := bthen hb hbn; clear hbn)
    | ((with_reducible refine g_store 40 ?_); go_must (refine ev_store rfl rfl B8 (news := [.bool true]) (by first | rfl | (go_simp; try rfl)) infoBool (by simp) (by simp [Value.oneCell']) ?_); intro wn hon Bn; simp only [List.take_zero, List.nil_append, List.length_cons, List.length_nil, List.drop_succ_cons, List.drop_zero, List.append_nil, List.cons_append] at Bn; replace B6 := B6.only hon (Ne.symm hneb8_6); replace B8 := Bn; clear Bn B3 C3 C8; replace o8 := o8.only hon hne8; replace hlt8 : ∀ k ∈ addrBlock A8, k < _ := (fun k hk => Nat.lt_of_lt_of_eq (hlt8 k hk) hon.size.symm); replace hb := hb.trans (hon.below hg8); clear hon; have C8 := B8.cells)
    | (go_at_call 52; (with_reducible refine (rcanonF ((Fs.nil _).cons (o8.resign true (-1) (by decide))) (by repeat (first | exact List.mem_cons_self .. | apply List.mem_cons_of_mem)) (by omega)).mono ?_); rintro e' wn ⟨vn, rfl, ⟨b9, A9, n9, c9, rfl, o9, f9⟩, hbn⟩; have hge9 : ∀ k ∈ addrBlock A9, w.heap.size ≤ k := (fun k hk => Nat.le_trans hb.size (f9 k hk).1); have hlt9 : ∀ k ∈ addrBlock A9, k < _ := (fun k hk => (f9 k hk).2); have hne96 : ∀ k ∈ addrBlock A9, k ≠ g6 := (fun k hk e => by (have h1 := (f9 k hk).1; have h2 := B6.lt; omega)); clear f9 C8 B8; replace B6 := B6.below hbn; replace hb := bthen hb hbn; clear hbn)
    | (go_at_call 61; (with_reducible refine (rfitsYF ((Fs.nil _).cons o9) (by repeat (first | exact List.mem_cons_self .. | apply List.mem_cons_of_mem)) HB.out).mono ?_); rintro e' wn ⟨vn, rfl, rfl, hbn⟩; replace B6 := B6.below hbn; replace o9 := o9.below hbn; replace hlt9 : ∀ k ∈ addrBlock A9, k < _ := (fun k hk => Nat.lt_of_lt_of_le (hlt9 k hk) hbn.size); replace hb := bthen hb hbn; clear hbn)
    | ((with_reducible refine g_store 6 ?_); go_must (refine ev_store rfl rfl B6 (news := [.bool b9, .slice A9 n9 c9]) (by rfl) infoNum (by simp) (by simp [Value.oneCell']) ?_); intro wn hon Bn; simp only [List.take_zero, List.nil_append, List.length_cons, List.length_nil, List.drop_succ_cons, List.drop_zero, List.append_nil, List.cons_append] at Bn; replace B6 := Bn; clear Bn; replace o9 := o9.only hon hne96; replace hlt9 : ∀ k ∈ addrBlock A9, k < _ := (fun k hk => Nat.lt_of_lt_of_eq (hlt9 k hk) hon.size.symm); replace hb := hb.trans (hon.below hg6); clear hon))
  refine bodyPost_ret (results_ct rfl _ _ g6 26 #[.bool b9, .slice A9 n9 c9] (0, 0) _ rfl B6.h Tryd.underlying26 rfl (by kernel_rfl)) rfl ?_
  exact ⟨_, rfl, ⟨_, rfl, ⟨_, _, _, _, rfl, ⟨o9.ex, Nat.le_trans o9.le (by simp only; omega)⟩, fun k hk => ⟨hge9 k hk, hlt9 k hk⟩⟩⟩, hb⟩
set_option maxRecDepth 8000 in
set_option maxHeartbeats 4000000 in
theorem rpowSEY_go {e B : Int} (F0 : Fs w [⟨b, A, n, c, z, K, can⟩]) (hK : K ≤ 1073000000) (he : 0 ≤ e) (hz : z = -1) (hp : e % 2 = 0) (hB0 : 0 ≤ B) (hB : ((bitN (1 : Int).natAbs : Nat) : Int) ≤ B) (hB2 : B ≤ 20000) :
    Calls Tryd.prog 38 #[.agg #[.bool b, .slice A n c], .int .i64 e, .int .i64 B] w (Gives w fun v w' => ∃ qv, v = .tuple #[qv, .bool true] ∧ NumRes w (1) 626 true qv w') := by
  have h1 : decide (e < 0) = false := by simp; omega
  have h2 : decide (B < 0) = false := by simp; omega
  have HB := As.mk hB
  have HS : As (decide (z < 0) = true) := ⟨by simp; omega⟩
  obtain ⟨X, hX⟩ : ∃ X, X = bitN z.natAbs := ⟨_, rfl⟩
  have HX := As.mk hX
  have INTMK := True.intro
  obtain rfl : X = 1 := by
    rw [hX]
    have h4 := bitN_le_one z.natAbs
    have h5 := bitN_eq_zero z.natAbs
    omega
  have h3 : e.tmod 2 = e % 2 := Int.tmod_eq_emod_of_nonneg (by omega)
  have h4 : e % 2 = 0 := hp
  clear hz hp
  clear hX he hB
  go_enter Tryd.func38, Tryd.ntmps38
  go_wp2_with (first
    | ((with_reducible refine g_dst 3 ?_); go_must (refine ev_box 3 rfl (cs := [.bool b, .slice A n c]) (by rfl) ?_); intro g3 wn hb3 B3 hg3; have hb := hb3)
    | ((with_reducible refine g_dst 6 ?_); go_must (refine ev_alloc 6 rfl infoNum (cs := [.bool false, .slice none 0 0]) rfl ?_); intro g6 wn hb6 B6 hgn; have hneb6_3 : g6 ≠ g3 := (fun e => by (have h1 := B3.lt; omega)); have hg6 := Nat.le_trans hb.size hgn; replace B3 := B3.below hb6; have C3 := B3.cells; replace hb := bthen hb hb6)
    | (go_at_call 52; (with_reducible refine (rcanonS (F0.below hb) (by repeat (first | exact List.mem_cons_self .. | apply List.mem_cons_of_mem)) (by omega) HS.out).mono ?_); rintro e' wn ⟨vn, rfl, ⟨A4, n4, c4, rfl, o4, f4⟩, hbn⟩; clear C3; have hne4 : ∀ k ∈ addrBlock A4, k ≠ g3 := (fun k hk e => by (have h1 := (f4 k hk).1; have h2 := B3.lt; omega)); have hne46 : ∀ k ∈ addrBlock A4, k ≠ g6 := (fun k hk e => by (have h1 := (f4 k hk).1; have h2 := B6.lt; omega)); have hlt4 : ∀ k ∈ addrBlock A4, k < _ := (fun k hk => (f4 k hk).2); clear f4; replace B3 := B3.below hbn; replace B6 := B6.below hbn; replace hb := bthen hb hbn; clear hbn)
    | ((with_reducible refine g_store 3 ?_); go_must (refine ev_store rfl rfl B3 (news := [.bool true, .slice A4 n4 c4]) (by rfl) infoNum (by simp) (by simp [Value.oneCell']) ?_); intro wn hon Bn; simp only [List.take_zero, List.nil_append, List.length_cons, List.length_nil, List.drop_succ_cons, List.drop_zero, List.append_nil, List.cons_append] at Bn; replace B6 := B6.only hon hneb6_3; replace B3 := Bn; clear Bn; replace o4 := o4.only hon hne4; replace hlt4 : ∀ k ∈ addrBlock A4, k < _ := (fun k hk => Nat.lt_of_lt_of_eq (hlt4 k hk) hon.size.symm); replace hb := hb.trans (hon.below hg3); clear hon; have C3 := B3.cells)
    | (go_at_call 28; (with_reducible refine (rintF 1 (by omega) (by omega)).mono ?_); rintro e' wn ⟨vn, rfl, ⟨b8, A8, n8, c8, rfl, o8, f8⟩, hbn⟩; have hlt8 : ∀ k ∈ addrBlock A8, k < _ := (fun k hk => (f8 k hk).2); have hge8 : ∀ k ∈ addrBlock A8, w.heap.size ≤ k := (fun k hk => Nat.le_trans hb.size (f8 k hk).1); have hne83 : ∀ k ∈ addrBlock A8, k ≠ g3 := (fun k hk e => by (have h1 := (f8 k hk).1; have h2 := B3.lt; omega)); have hne86 : ∀ k ∈ addrBlock A8, k ≠ g6 := (fun k hk e => by (have h1 := (f8 k hk).1; have h2 := B6.lt; omega)); clear f8 C3; replace B3 := B3.below hbn; replace B6 := B6.below hbn; replace o4 := o4.below hbn; replace hlt4 : ∀ k ∈ addrBlock A4, k < _ := (fun k hk => Nat.lt_of_lt_of_le (hlt4 k hk) hbn.size); replace hb := bthen hb hbn; clear hbn)
    | ((with_reducible refine g_dst 8 ?_); go_must (refine ev_alloc 8 rfl infoNum (cs := [.bool false, .slice none 0 0]) rfl ?_); intro g8 wn hb8 B8 hgn; have hneb8_3 : g8 ≠ g3 := (fun e => by (have h1 := B3.lt; omega)); have hneb8_6 : g8 ≠ g6 := (fun e => by (have h1 := B6.lt; omega)); have hne8 : ∀ k ∈ addrBlock A8, k ≠ g8 := (fun k hk e => by (have h1 := hlt8 k hk; omega)); have hne48 : ∀ k ∈ addrBlock A4, k ≠ g8 := (fun k hk e => by (have h1 := hlt4 k hk; omega)); have hg8 := Nat.le_trans hb.size hgn; replace B3 := B3.below hb8; replace B6 := B6.below hb8; replace o4 := o4.below hb8; replace o8 := o8.below hb8; replace hlt8 : ∀ k ∈ addrBlock A8, k < _ := (fun k hk => Nat.lt_of_lt_of_le (hlt8 k hk) hb8.size); replace hb := bthen hb hb8)
    | ((clear INTMK); (with_reducible refine g_store 8 ?_); go_must (refine ev_store rfl rfl B8 (news := [.bool b8, .slice A8 n8 c8]) (by rfl) infoNum (by simp) (by simp [Value.oneCell']) ?_); intro wn hon Bn; simp only [List.take_zero, List.nil_append, List.length_cons, List.length_nil, List.drop_succ_cons, List.drop_zero, List.append_nil, List.cons_append] at Bn; replace B3 := B3.only hon (Ne.symm hneb8_3); replace B6 := B6.only hon (Ne.symm hneb8_6); replace B8 := Bn; clear Bn; replace o4 := o4.only hon hne48; replace o8 := o8.only hon hne8; replace hlt8 : ∀ k ∈ addrBlock A8, k < _ := (fun k hk => Nat.lt_of_lt_of_eq (hlt8 k hk) hon.size.symm); replace hb := hb.trans (hon.below hg8); clear hon; have C3 := B3.cells; have C8 := B8.cells)
    | (go_at_call 60; (with_reducible refine (rbitsN HX.out ((Fs.nil _).cons o4) (by repeat (first | exact List.mem_cons_self .. | apply List.mem_cons_of_mem))).mono ?_); rintro e' wn ⟨vn, rfl, rfl, hbn⟩; clear C3 C8; replace B3 := B3.below hbn; replace B6 := B6.below hbn; replace B8 := B8.below hbn; replace o4 := o4.below hbn; replace o8 := o8.below hbn; replace hlt8 : ∀ k ∈ addrBlock A8, k < _ := (fun k hk => Nat.lt_of_lt_of_le (hlt8 k hk) hbn.size); have C3 := B3.cells; have C8 := B8.cells; replace hb := bthen hb hbn; clear hbn)
    | ((with_reducible refine g_store 40 ?_); go_must (refine ev_store rfl rfl B8 (news := [.bool false]) (by first | rfl | (go_simp; try rfl)) infoBool (by simp) (by simp [Value.oneCell']) ?_); intro wn hon Bn; simp only [List.take_zero, List.nil_append, List.length_cons, List.length_nil, List.drop_succ_cons, List.drop_zero, List.append_nil, List.cons_append] at Bn; replace B6 := B6.only hon (Ne.symm hneb8_6); replace B8 := Bn; clear Bn B3 C3 C8; replace o8 := o8.only hon hne8; replace hlt8 : ∀ k ∈ addrBlock A8, k < _ := (fun k hk => Nat.lt_of_lt_of_eq (hlt8 k hk) hon.size.symm); replace hb := hb.trans (hon.below hg8); clear hon; have C8 := B8.cells)
    | (go_at_call 52; (with_reducible refine (rcanonF ((Fs.nil _).cons (o8.resign false (1) (by decide))) (by repeat (first | exact List.mem_cons_self .. | apply List.mem_cons_of_mem)) (by omega)).mono ?_); rintro e' wn ⟨vn, rfl, ⟨b9, A9, n9, c9, rfl, o9, f9⟩, hbn⟩; have hge9 : ∀ k ∈ addrBlock A9, w.heap.size ≤ k := (fun k hk => Nat.le_trans hb.size (f9 k hk).1); have hlt9 : ∀ k ∈ addrBlock A9, k < _ := (fun k hk => (f9 k hk).2); have hne96 : ∀ k ∈ addrBlock A9, k ≠ g6 := (fun k hk e => by (have h1 := (f9 k hk).1; have h2 := B6.lt; omega)); clear f9 C8 B8; replace B6 := B6.below hbn; replace hb := bthen hb hbn; clear hbn)
    | (go_at_call 61; (with_reducible refine (rfitsYF ((Fs.nil _).cons o9) (by repeat (first | exact List.mem_cons_self .. | apply List.mem_cons_of_mem)) HB.out).mono ?_); rintro e' wn ⟨vn, rfl, rfl, hbn⟩; replace B6 := B6.below hbn; replace o9 := o9.below hbn; replace hlt9 : ∀ k ∈ addrBlock A9, k < _ := (fun k hk => Nat.lt_of_lt_of_le (hlt9 k hk) hbn.size); replace hb := bthen hb hbn; clear hbn)
    | ((with_reducible refine g_store 6 ?_); go_must (refine ev_store rfl rfl B6 (news := [.bool b9, .slice A9 n9 c9]) (by rfl) infoNum (by simp) (by simp [Value.oneCell']) ?_); intro wn hon Bn; simp only [List.take_zero, List.nil_append, List.length_cons, List.length_nil, List.drop_succ_cons, List.drop_zero, List.append_nil, List.cons_append] at Bn; replace B6 := Bn; clear Bn; replace o9 := o9.only hon hne96; replace hlt9 : ∀ k ∈ addrBlock A9, k < _ := (fun k hk => Nat.lt_of_lt_of_eq (hlt9 k hk) hon.size.symm); replace hb := hb.trans (hon.below hg6); clear hon))
  refine bodyPost_ret (results_ct rfl _ _ g6 26 #[.bool b9, .slice A9 n9 c9] (0, 0) _ rfl B6.h Tryd.underlying26 rfl (by kernel_rfl)) rfl ?_
  exact ⟨_, rfl, ⟨_, rfl, ⟨_, _, _, _, rfl, ⟨o9.ex, Nat.le_trans o9.le (by simp only; omega)⟩, fun k hk => ⟨hge9 k hk, hlt9 k hk⟩⟩⟩, hb⟩
set_option maxRecDepth 8000 in
set_option maxHeartbeats 4000000 in
theorem rpowS0N_go {e B : Int} (F0 : Fs w [⟨b, A, n, c, z, K, can⟩]) (hK : K ≤ 1073000000) (he : 0 ≤ e) (hz : z = 0) (hp : e = 0) (hB0 : 0 ≤ B) (hB : B < ((bitN (1 : Int).natAbs : Nat) : Int)) :
    Calls Tryd.prog 38 #[.agg #[.bool b, .slice A n c], .int .i64 e, .int .i64 B] w (Gives w fun v w' => ∃ qv, v = .tuple #[qv, .bool false] ∧ NumRes w (0) 626 true qv w') := by
  have h1 : decide (e < 0) = false := by simp; omega
  have h2 : decide (B < 0) = false := by simp; omega
  have HB := As.mk hB
  have HS : As (decide (z < 0) = false) := ⟨by simp; omega⟩
  obtain ⟨X, hX⟩ : ∃ X, X = bitN z.natAbs := ⟨_, rfl⟩
  have HX := As.mk hX
  have INTMK := True.intro
  obtain rfl : X = 0 := by
    rw [hX]
    have h4 := bitN_le_one z.natAbs
    have h5 := bitN_eq_zero z.natAbs
    omega
  have h6 : decide (0 < e) = false := by simp; omega
  have h7 : decide (e > 0) = false := by simp; omega
  clear hz hp
  clear hX he hB
  go_enter Tryd.func38, Tryd.ntmps38
  go_wp2_with (first
    | ((with_reducible refine g_dst 3 ?_); go_must (refine ev_box 3 rfl (cs := [.bool b, .slice A n c]) (by rfl) ?_); intro g3 wn hb3 B3 hg3; have hb := hb3)
    | ((with_reducible refine g_dst 6 ?_); go_must (refine ev_alloc 6 rfl infoNum (cs := [.bool false, .slice none 0 0]) rfl ?_); intro g6 wn hb6 B6 hgn; have hneb6_3 : g6 ≠ g3 := (fun e => by (have h1 := B3.lt; omega)); have hg6 := Nat.le_trans hb.size hgn; replace B3 := B3.below hb6; have C3 := B3.cells; replace hb := bthen hb hb6)
    | (go_at_call 52; (with_reducible refine (rcanonS (F0.below hb) (by repeat (first | exact List.mem_cons_self .. | apply List.mem_cons_of_mem)) (by omega) HS.out).mono ?_); rintro e' wn ⟨vn, rfl, ⟨A4, n4, c4, rfl, o4, f4⟩, hbn⟩; clear C3; have hne4 : ∀ k ∈ addrBlock A4, k ≠ g3 := (fun k hk e => by (have h1 := (f4 k hk).1; have h2 := B3.lt; omega)); have hne46 : ∀ k ∈ addrBlock A4, k ≠ g6 := (fun k hk e => by (have h1 := (f4 k hk).1; have h2 := B6.lt; omega)); have hlt4 : ∀ k ∈ addrBlock A4, k < _ := (fun k hk => (f4 k hk).2); clear f4; replace B3 := B3.below hbn; replace B6 := B6.below hbn; replace hb := bthen hb hbn; clear hbn)
    | ((with_reducible refine g_store 3 ?_); go_must (refine ev_store rfl rfl B3 (news := [.bool false, .slice A4 n4 c4]) (by rfl) infoNum (by simp) (by simp [Value.oneCell']) ?_); intro wn hon Bn; simp only [List.take_zero, List.nil_append, List.length_cons, List.length_nil, List.drop_succ_cons, List.drop_zero, List.append_nil, List.cons_append] at Bn; replace B6 := B6.only hon hneb6_3; replace B3 := Bn; clear Bn; replace o4 := o4.only hon hne4; replace hlt4 : ∀ k ∈ addrBlock A4, k < _ := (fun k hk => Nat.lt_of_lt_of_eq (hlt4 k hk) hon.size.symm); replace hb := hb.trans (hon.below hg3); clear hon; have C3 := B3.cells)
    | (go_at_call 28; (with_reducible refine (rintF 1 (by omega) (by omega)).mono ?_); rintro e' wn ⟨vn, rfl, ⟨b8, A8, n8, c8, rfl, o8, f8⟩, hbn⟩; have hlt8 : ∀ k ∈ addrBlock A8, k < _ := (fun k hk => (f8 k hk).2); have hge8 : ∀ k ∈ addrBlock A8, w.heap.size ≤ k := (fun k hk => Nat.le_trans hb.size (f8 k hk).1); have hne83 : ∀ k ∈ addrBlock A8, k ≠ g3 := (fun k hk e => by (have h1 := (f8 k hk).1; have h2 := B3.lt; omega)); have hne86 : ∀ k ∈ addrBlock A8, k ≠ g6 := (fun k hk e => by (have h1 := (f8 k hk).1; have h2 := B6.lt; omega)); clear f8 C3; replace B3 := B3.below hbn; replace B6 := B6.below hbn; replace o4 := o4.below hbn; replace hlt4 : ∀ k ∈ addrBlock A4, k < _ := (fun k hk => Nat.lt_of_lt_of_le (hlt4 k hk) hbn.size); replace hb := bthen hb hbn; clear hbn)
    | ((with_reducible refine g_dst 8 ?_); go_must (refine ev_alloc 8 rfl infoNum (cs := [.bool false, .slice none 0 0]) rfl ?_); intro g8 wn hb8 B8 hgn; have hneb8_3 : g8 ≠ g3 := (fun e => by (have h1 := B3.lt; omega)); have hneb8_6 : g8 ≠ g6 := (fun e => by (have h1 := B6.lt; omega)); have hne8 : ∀ k ∈ addrBlock A8, k ≠ g8 := (fun k hk e => by (have h1 := hlt8 k hk; omega)); have hne48 : ∀ k ∈ addrBlock A4, k ≠ g8 := (fun k hk e => by (have h1 := hlt4 k hk; omega)); have hg8 := Nat.le_trans hb.size hgn; replace B3 := B3.below hb8; replace B6 := B6.below hb8; replace o4 := o4.below hb8; replace o8 := o8.below hb8; replace hlt8 : ∀ k ∈ addrBlock A8, k < _ := (fun k hk => Nat.lt_of_lt_of_le (hlt8 k hk) hb8.size); replace hb := bthen hb hb8)
    | ((clear INTMK); (with_reducible refine g_store 8 ?_); go_must (refine ev_store rfl rfl B8 (news := [.bool b8, .slice A8 n8 c8]) (by rfl) infoNum (by simp) (by simp [Value.oneCell']) ?_); intro wn hon Bn; simp only [List.take_zero, List.nil_append, List.length_cons, List.length_nil, List.drop_succ_cons, List.drop_zero, List.append_nil, List.cons_append] at Bn; replace B3 := B3.only hon (Ne.symm hneb8_3); replace B6 := B6.only hon (Ne.symm hneb8_6); replace B8 := Bn; clear Bn; replace o4 := o4.only hon hne48; replace o8 := o8.only hon hne8; replace hlt8 : ∀ k ∈ addrBlock A8, k < _ := (fun k hk => Nat.lt_of_lt_of_eq (hlt8 k hk) hon.size.symm); replace hb := hb.trans (hon.below hg8); clear hon; have C3 := B3.cells; have C8 := B8.cells)
    | (go_at_call 60; (with_reducible refine (rbitsN HX.out ((Fs.nil _).cons o4) (by repeat (first | exact List.mem_cons_self .. | apply List.mem_cons_of_mem))).mono ?_); rintro e' wn ⟨vn, rfl, rfl, hbn⟩; clear C3 C8; replace B3 := B3.below hbn; replace B6 := B6.below hbn; replace B8 := B8.below hbn; replace o4 := o4.below hbn; replace o8 := o8.below hbn; replace hlt8 : ∀ k ∈ addrBlock A8, k < _ := (fun k hk => Nat.lt_of_lt_of_le (hlt8 k hk) hbn.size); have C3 := B3.cells; have C8 := B8.cells; replace hb := bthen hb hbn; clear hbn)
    | ((with_reducible refine g_store 40 ?_); go_must (refine ev_store rfl rfl B8 (news := [.bool false]) (by first | rfl | (go_simp; try rfl)) infoBool (by simp) (by simp [Value.oneCell']) ?_); intro wn hon Bn; simp only [List.take_zero, List.nil_append, List.length_cons, List.length_nil, List.drop_succ_cons, List.drop_zero, List.append_nil, List.cons_append] at Bn; replace B6 := B6.only hon (Ne.symm hneb8_6); replace B8 := Bn; clear Bn B3 C3 C8; replace o8 := o8.only hon hne8; replace hlt8 : ∀ k ∈ addrBlock A8, k < _ := (fun k hk => Nat.lt_of_lt_of_eq (hlt8 k hk) hon.size.symm); replace hb := hb.trans (hon.below hg8); clear hon; have C8 := B8.cells)
    | (go_at_call 52; (with_reducible refine (rcanonF ((Fs.nil _).cons (o8.resign false (1) (by decide))) (by repeat (first | exact List.mem_cons_self .. | apply List.mem_cons_of_mem)) (by omega)).mono ?_); rintro e' wn ⟨vn, rfl, ⟨b9, A9, n9, c9, rfl, o9, f9⟩, hbn⟩; have hge9 : ∀ k ∈ addrBlock A9, w.heap.size ≤ k := (fun k hk => Nat.le_trans hb.size (f9 k hk).1); have hlt9 : ∀ k ∈ addrBlock A9, k < _ := (fun k hk => (f9 k hk).2); have hne96 : ∀ k ∈ addrBlock A9, k ≠ g6 := (fun k hk e => by (have h1 := (f9 k hk).1; have h2 := B6.lt; omega)); clear f9 C8 B8; replace B6 := B6.below hbn; replace hb := bthen hb hbn; clear hbn)
    | (go_at_call 61; (with_reducible refine (rfitsNF ((Fs.nil _).cons o9) (by repeat (first | exact List.mem_cons_self .. | apply List.mem_cons_of_mem)) HB.out).mono ?_); rintro e' wn ⟨vn, rfl, rfl, hbn⟩; replace B6 := B6.below hbn; replace o9 := o9.below hbn; replace hlt9 : ∀ k ∈ addrBlock A9, k < _ := (fun k hk => Nat.lt_of_lt_of_le (hlt9 k hk) hbn.size); replace hb := bthen hb hbn; clear hbn)
    | ((with_reducible refine g_store 6 ?_); go_must (refine ev_store rfl rfl B6 (news := [.bool false, .slice none 0 0]) (by first | rfl | (go_simp; try rfl)) infoNum (by simp) (by simp [Value.oneCell']) ?_); intro wn hon Bn; simp only [List.take_zero, List.nil_append, List.length_cons, List.length_nil, List.drop_succ_cons, List.drop_zero, List.append_nil, List.cons_append] at Bn; replace B6 := Bn; clear Bn; replace hb := hb.trans (hon.below hg6); clear hon))
  refine bodyPost_ret (results_ct rfl _ _ g6 26 #[.bool false, .slice none 0 0] (0, 0) _ rfl B6.h Tryd.underlying26 rfl (by kernel_rfl)) rfl ?_
  exact ⟨_, rfl, ⟨_, rfl, NumRes.nil _ _ _⟩, hb⟩
set_option maxRecDepth 8000 in
set_option maxHeartbeats 4000000 in
theorem rpowS1N_go {e B : Int} (F0 : Fs w [⟨b, A, n, c, z, K, can⟩]) (hK : K ≤ 1073000000) (he : 0 ≤ e) (hz : z = 1) (hB0 : 0 ≤ B) (hB : B < ((bitN (1 : Int).natAbs : Nat) : Int)) :
    Calls Tryd.prog 38 #[.agg #[.bool b, .slice A n c], .int .i64 e, .int .i64 B] w (Gives w fun v w' => ∃ qv, v = .tuple #[qv, .bool false] ∧ NumRes w (0) 626 true qv w') := by
  have h1 : decide (e < 0) = false := by simp; omega
  have h2 : decide (B < 0) = false := by simp; omega
  have HB := As.mk hB
  have HS : As (decide (z < 0) = false) := ⟨by simp; omega⟩
  obtain ⟨X, hX⟩ : ∃ X, X = bitN z.natAbs := ⟨_, rfl⟩
  have HX := As.mk hX
  have INTMK := True.intro
  obtain rfl : X = 1 := by
    rw [hX]
    have h4 := bitN_le_one z.natAbs
    have h5 := bitN_eq_zero z.natAbs
    omega
  clear hz
  clear hX he hB
  go_enter Tryd.func38, Tryd.ntmps38
  go_wp2_with (first
    | ((with_reducible refine g_dst 3 ?_); go_must (refine ev_box 3 rfl (cs := [.bool b, .slice A n c]) (by rfl) ?_); intro g3 wn hb3 B3 hg3; have hb := hb3)
    | ((with_reducible refine g_dst 6 ?_); go_must (refine ev_alloc 6 rfl infoNum (cs := [.bool false, .slice none 0 0]) rfl ?_); intro g6 wn hb6 B6 hgn; have hneb6_3 : g6 ≠ g3 := (fun e => by (have h1 := B3.lt; omega)); have hg6 := Nat.le_trans hb.size hgn; replace B3 := B3.below hb6; have C3 := B3.cells; replace hb := bthen hb hb6)
    | (go_at_call 52; (with_reducible refine (rcanonS (F0.below hb) (by repeat (first | exact List.mem_cons_self .. | apply List.mem_cons_of_mem)) (by omega) HS.out).mono ?_); rintro e' wn ⟨vn, rfl, ⟨A4, n4, c4, rfl, o4, f4⟩, hbn⟩; clear C3; have hne4 : ∀ k ∈ addrBlock A4, k ≠ g3 := (fun k hk e => by (have h1 := (f4 k hk).1; have h2 := B3.lt; omega)); have hne46 : ∀ k ∈ addrBlock A4, k ≠ g6 := (fun k hk e => by (have h1 := (f4 k hk).1; have h2 := B6.lt; omega)); have hlt4 : ∀ k ∈ addrBlock A4, k < _ := (fun k hk => (f4 k hk).2); clear f4; replace B3 := B3.below hbn; replace B6 := B6.below hbn; replace hb := bthen hb hbn; clear hbn)
    | ((with_reducible refine g_store 3 ?_); go_must (refine ev_store rfl rfl B3 (news := [.bool false, .slice A4 n4 c4]) (by rfl) infoNum (by simp) (by simp [Value.oneCell']) ?_); intro wn hon Bn; simp only [List.take_zero, List.nil_append, List.length_cons, List.length_nil, List.drop_succ_cons, List.drop_zero, List.append_nil, List.cons_append] at Bn; replace B6 := B6.only hon hneb6_3; replace B3 := Bn; clear Bn; replace o4 := o4.only hon hne4; replace hlt4 : ∀ k ∈ addrBlock A4, k < _ := (fun k hk => Nat.lt_of_lt_of_eq (hlt4 k hk) hon.size.symm); replace hb := hb.trans (hon.below hg3); clear hon; have C3 := B3.cells)
    | (go_at_call 28; (with_reducible refine (rintF 1 (by omega) (by omega)).mono ?_); rintro e' wn ⟨vn, rfl, ⟨b8, A8, n8, c8, rfl, o8, f8⟩, hbn⟩; have hlt8 : ∀ k ∈ addrBlock A8, k < _ := (fun k hk => (f8 k hk).2); have hge8 : ∀ k ∈ addrBlock A8, w.heap.size ≤ k := (fun k hk => Nat.le_trans hb.size (f8 k hk).1); have hne83 : ∀ k ∈ addrBlock A8, k ≠ g3 := (fun k hk e => by (have h1 := (f8 k hk).1; have h2 := B3.lt; omega)); have hne86 : ∀ k ∈ addrBlock A8, k ≠ g6 := (fun k hk e => by (have h1 := (f8 k hk).1; have h2 := B6.lt; omega)); clear f8 C3; replace B3 := B3.below hbn; replace B6 := B6.below hbn; replace o4 := o4.below hbn; replace hlt4 : ∀ k ∈ addrBlock A4, k < _ := (fun k hk => Nat.lt_of_lt_of_le (hlt4 k hk) hbn.size); replace hb := bthen hb hbn; clear hbn)
    | ((with_reducible refine g_dst 8 ?_); go_must (refine ev_alloc 8 rfl infoNum (cs := [.bool false, .slice none 0 0]) rfl ?_); intro g8 wn hb8 B8 hgn; have hneb8_3 : g8 ≠ g3 := (fun e => by (have h1 := B3.lt; omega)); have hneb8_6 : g8 ≠ g6 := (fun e => by (have h1 := B6.lt; omega)); have hne8 : ∀ k ∈ addrBlock A8, k ≠ g8 := (fun k hk e => by (have h1 := hlt8 k hk; omega)); have hne48 : ∀ k ∈ addrBlock A4, k ≠ g8 := (fun k hk e => by (have h1 := hlt4 k hk; omega)); have hg8 := Nat.le_trans hb.size hgn; replace B3 := B3.below hb8; replace B6 := B6.below hb8; replace o4 := o4.below hb8; replace o8 := o8.below hb8; replace hlt8 : ∀ k ∈ addrBlock A8, k < _ := (fun k hk => Nat.lt_of_lt_of_le (hlt8 k hk) hb8.size); replace hb := bthen hb hb8)
    | ((clear INTMK); (with_reducible refine g_store 8 ?_); go_must (refine ev_store rfl rfl B8 (news := [.bool b8, .slice A8 n8 c8]) (by rfl) infoNum (by simp) (by simp [Value.oneCell']) ?_); intro wn hon Bn; simp only [List.take_zero, List.nil_append, List.length_cons, List.length_nil, List.drop_succ_cons, List.drop_zero, List.append_nil, List.cons_append] at Bn; replace B3 := B3.only hon (Ne.symm hneb8_3); replace B6 := B6.only hon (Ne.symm hneb8_6); replace B8 := Bn; clear Bn; replace o4 := o4.only hon hne48; replace o8 := o8.only hon hne8; replace hlt8 : ∀ k ∈ addrBlock A8, k < _ := (fun k hk => Nat.lt_of_lt_of_eq (hlt8 k hk) hon.size.symm); replace hb := hb.trans (hon.below hg8); clear hon; have C3 := B3.cells; have C8 := B8.cells)
    | (go_at_call 60; (with_reducible refine (rbitsN HX.out ((Fs.nil _).cons o4) (by repeat (first | exact List.mem_cons_self .. | apply List.mem_cons_of_mem))).mono ?_); rintro e' wn ⟨vn, rfl, rfl, hbn⟩; clear C3 C8; replace B3 := B3.below hbn; replace B6 := B6.below hbn; replace B8 := B8.below hbn; replace o4 := o4.below hbn; replace o8 := o8.below hbn; replace hlt8 : ∀ k ∈ addrBlock A8, k < _ := (fun k hk => Nat.lt_of_lt_of_le (hlt8 k hk) hbn.size); have C3 := B3.cells; have C8 := B8.cells; replace hb := bthen hb hbn; clear hbn)
    | ((with_reducible refine g_store 40 ?_); go_must (refine ev_store rfl rfl B8 (news := [.bool false]) (by first | rfl | (go_simp; try rfl)) infoBool (by simp) (by simp [Value.oneCell']) ?_); intro wn hon Bn; simp only [List.take_zero, List.nil_append, List.length_cons, List.length_nil, List.drop_succ_cons, List.drop_zero, List.append_nil, List.cons_append] at Bn; replace B6 := B6.only hon (Ne.symm hneb8_6); replace B8 := Bn; clear Bn B3 C3 C8; replace o8 := o8.only hon hne8; replace hlt8 : ∀ k ∈ addrBlock A8, k < _ := (fun k hk => Nat.lt_of_lt_of_eq (hlt8 k hk) hon.size.symm); replace hb := hb.trans (hon.below hg8); clear hon; have C8 := B8.cells)
    | (go_at_call 52; (with_reducible refine (rcanonF ((Fs.nil _).cons (o8.resign false (1) (by decide))) (by repeat (first | exact List.mem_cons_self .. | apply List.mem_cons_of_mem)) (by omega)).mono ?_); rintro e' wn ⟨vn, rfl, ⟨b9, A9, n9, c9, rfl, o9, f9⟩, hbn⟩; have hge9 : ∀ k ∈ addrBlock A9, w.heap.size ≤ k := (fun k hk => Nat.le_trans hb.size (f9 k hk).1); have hlt9 : ∀ k ∈ addrBlock A9, k < _ := (fun k hk => (f9 k hk).2); have hne96 : ∀ k ∈ addrBlock A9, k ≠ g6 := (fun k hk e => by (have h1 := (f9 k hk).1; have h2 := B6.lt; omega)); clear f9 C8 B8; replace B6 := B6.below hbn; replace hb := bthen hb hbn; clear hbn)
    | (go_at_call 61; (with_reducible refine (rfitsNF ((Fs.nil _).cons o9) (by repeat (first | exact List.mem_cons_self .. | apply List.mem_cons_of_mem)) HB.out).mono ?_); rintro e' wn ⟨vn, rfl, rfl, hbn⟩; replace B6 := B6.below hbn; replace o9 := o9.below hbn; replace hlt9 : ∀ k ∈ addrBlock A9, k < _ := (fun k hk => Nat.lt_of_lt_of_le (hlt9 k hk) hbn.size); replace hb := bthen hb hbn; clear hbn)
    | ((with_reducible refine g_store 6 ?_); go_must (refine ev_store rfl rfl B6 (news := [.bool false, .slice none 0 0]) (by first | rfl | (go_simp; try rfl)) infoNum (by simp) (by simp [Value.oneCell']) ?_); intro wn hon Bn; simp only [List.take_zero, List.nil_append, List.length_cons, List.length_nil, List.drop_succ_cons, List.drop_zero, List.append_nil, List.cons_append] at Bn; replace B6 := Bn; clear Bn; replace hb := hb.trans (hon.below hg6); clear hon))
  refine bodyPost_ret (results_ct rfl _ _ g6 26 #[.bool false, .slice none 0 0] (0, 0) _ rfl B6.h Tryd.underlying26 rfl (by kernel_rfl)) rfl ?_
  exact ⟨_, rfl, ⟨_, rfl, NumRes.nil _ _ _⟩, hb⟩
set_option maxRecDepth 8000 in
set_option maxHeartbeats 4000000 in
theorem rpowSON_go {e B : Int} (F0 : Fs w [⟨b, A, n, c, z, K, can⟩]) (hK : K ≤ 1073000000) (he : 0 ≤ e) (hz : z = -1) (hp : e % 2 = 1) (hB0 : 0 ≤ B) (hB : B < ((bitN (-1 : Int).natAbs : Nat) : Int)) :
    Calls Tryd.prog 38 #[.agg #[.bool b, .slice A n c], .int .i64 e, .int .i64 B] w (Gives w fun v w' => ∃ qv, v = .tuple #[qv, .bool false] ∧ NumRes w (0) 626 true qv w') := by
  have h1 : decide (e < 0) = false := by simp; omega
  have h2 : decide (B < 0) = false := by simp; omega
  have HB := As.mk hB
  have HS : As (decide (z < 0) = true) := ⟨by simp; omega⟩
  obtain ⟨X, hX⟩ : ∃ X, X = bitN z.natAbs := ⟨_, rfl⟩
  have HX := As.mk hX
  have INTMK := True.intro
  obtain rfl : X = 1 := by
    rw [hX]
    have h4 := bitN_le_one z.natAbs
    have h5 := bitN_eq_zero z.natAbs
    omega
  have h3 : e.tmod 2 = e % 2 := Int.tmod_eq_emod_of_nonneg (by omega)
  have h4 : e % 2 = 1 := hp
  clear hz hp
  clear hX he hB
  go_enter Tryd.func38, Tryd.ntmps38
  go_wp2_with (first
    | ((with_reducible refine g_dst 3 ?_); go_must (refine ev_box 3 rfl (cs := [.bool b, .slice A n c]) (by rfl) ?_); intro g3 wn hb3 B3 hg3; have hb := hb3)
    | ((with_reducible refine g_dst 6 ?_); go_must (refine ev_alloc 6 rfl infoNum (cs := [.bool false, .slice none 0 0]) rfl ?_); intro g6 wn hb6 B6 hgn; have hneb6_3 : g6 ≠ g3 := (fun e => by (have h1 := B3.lt; omega)); have hg6 := Nat.le_trans hb.size hgn; replace B3 := B3.below hb6; have C3 := B3.cells; replace hb := bthen hb hb6)
    | (go_at_call 52; (with_reducible refine (rcanonS (F0.below hb) (by repeat (first | exact List.mem_cons_self .. | apply List.mem_cons_of_mem)) (by omega) HS.out).mono ?_); rintro e' wn ⟨vn, rfl, ⟨A4, n4, c4, rfl, o4, f4⟩, hbn⟩; clear C3; have hne4 : ∀ k ∈ addrBlock A4, k ≠ g3 := (fun k hk e => by (have h1 := (f4 k hk).1; have h2 := B3.lt; omega)); have hne46 : ∀ k ∈ addrBlock A4, k ≠ g6 := (fun k hk e => by (have h1 := (f4 k hk).1; have h2 := B6.lt; omega)); have hlt4 : ∀ k ∈ addrBlock A4, k < _ := (fun k hk => (f4 k hk).2); clear f4; replace B3 := B3.below hbn; replace B6 := B6.below hbn; replace hb := bthen hb hbn; clear hbn)
    | ((with_reducible refine g_store 3 ?_); go_must (refine ev_store rfl rfl B3 (news := [.bool true, .slice A4 n4 c4]) (by rfl) infoNum (by simp) (by simp [Value.oneCell']) ?_); intro wn hon Bn; simp only [List.take_zero, List.nil_append, List.length_cons, List.length_nil, List.drop_succ_cons, List.drop_zero, List.append_nil, List.cons_append] at Bn; replace B6 := B6.only hon hneb6_3; replace B3 := Bn; clear Bn; replace o4 := o4.only hon hne4; replace hlt4 : ∀ k ∈ addrBlock A4, k < _ := (fun k hk => Nat.lt_of_lt_of_eq (hlt4 k hk) hon.size.symm); replace hb := hb.trans (hon.below hg3); clear hon; have C3 := B3.cells)
    | (go_at_call 28; (with_reducible refine (rintF 1 (by omega) (by omega)).mono ?_); rintro e' wn ⟨vn, rfl, ⟨b8, A8, n8, c8, rfl, o8, f8⟩, hbn⟩; have hlt8 : ∀ k ∈ addrBlock A8, k < _ := (fun k hk => (f8 k hk).2); have hge8 : ∀ k ∈ addrBlock A8, w.heap.size ≤ k := (fun k hk => Nat.le_trans hb.size (f8 k hk).1); have hne83 : ∀ k ∈ addrBlock A8, k ≠ g3 := (fun k hk e => by (have h1 := (f8 k hk).1; have h2 := B3.lt; omega)); have hne86 : ∀ k ∈ addrBlock A8, k ≠ g6 := (fun k hk e => by (have h1 := (f8 k hk).1; have h2 := B6.lt; omega)); clear f8 C3; replace B3 := B3.below hbn; replace B6 := B6.below hbn; replace o4 := o4.below hbn; replace hlt4 : ∀ k ∈ addrBlock A4, k < _ := (fun k hk => Nat.lt_of_lt_of_le (hlt4 k hk) hbn.size); replace hb := bthen hb hbn; clear hbn)
    | ((with_reducible refine g_dst 8 ?_); go_must (refine ev_alloc 8 rfl infoNum (cs := [.bool false, .slice none 0 0]) rfl ?_); intro g8 wn hb8 B8 hgn; have hneb8_3 : g8 ≠ g3 := (fun e => by (have h1 := B3.lt; omega)); have hneb8_6 : g8 ≠ g6 := (fun e => by (have h1 := B6.lt; omega)); have hne8 : ∀ k ∈ addrBlock A8, k ≠ g8 := (fun k hk e => by (have h1 := hlt8 k hk; omega)); have hne48 : ∀ k ∈ addrBlock A4, k ≠ g8 := (fun k hk e => by (have h1 := hlt4 k hk; omega)); have hg8 := Nat.le_trans hb.size hgn; replace B3 := B3.below hb8; replace B6 := B6.below hb8; replace o4 := o4.below hb8; replace o8 := o8.below hb8; replace hlt8 : ∀ k ∈ addrBlock A8, k < _ := (fun k hk => Nat.lt_of_lt_of_le (hlt8 k hk) hb8.size); replace hb := bthen hb hb8)
    | ((clear INTMK); (with_reducible refine g_store 8 ?_); go_must (refine ev_store rfl rfl B8 (news := [.bool b8, .slice A8 n8 c8]) (by rfl) infoNum (by simp) (by simp [Value.oneCell']) ?_); intro wn hon Bn; simp only [List.take_zero, List.nil_append, List.length_cons, List.length_nil, List.drop_succ_cons, List.drop_zero, List.append_nil, List.cons_append] at Bn; replace B3 := B3.only hon (Ne.symm hneb8_3); replace B6 := B6.only hon (Ne.symm hneb8_6); replace B8 := Bn; clear Bn; replace o4 := o4.only hon hne48; replace o8 := o8.only hon hne8; replace hlt8 : ∀ k ∈ addrBlock A8, k < _ := (fun k hk => Nat.lt_of_lt_of_eq (hlt8 k hk) hon.size.symm); replace hb := hb.trans (hon.below hg8); clear hon; have C3 := B3.cells; have C8 := B8.cells)
    | (go_at_call 60; (with_reducible refine (rbitsN HX.out ((Fs.nil _).cons o4) (by repeat (first | exact List.mem_cons_self .. | apply List.mem_cons_of_mem))).mono ?_); rintro e' wn ⟨vn, rfl, rfl, hbn⟩; clear C3 C8; replace B3 := B3.below hbn; replace B6 := B6.below hbn; replace B8 := B8.below hbn; replace o4 := o4.below hbn; replace o8 := o8.below hbn; replace hlt8 : ∀ k ∈ addrBlock A8, k < _ := (fun k hk => Nat.lt_of_lt_of_le (hlt8 k hk) hbn.size); have C3 := B3.cells; have C8 := B8.cells; replace hb := bthen hb hbn; clear hbn)
    | ((with_reducible refine g_store 40 ?_); go_must (refine ev_store rfl rfl B8 (news := [.bool true]) (by first | rfl | (go_simp; try rfl)) infoBool (by simp) (by simp [Value.oneCell']) ?_); intro wn hon Bn; simp only [List.take_zero, List.nil_append, List.length_cons, List.length_nil, List.drop_succ_cons, List.drop_zero, List.append_nil, List.cons_append] at Bn; replace B6 := B6.only hon (Ne.symm hneb8_6); replace B8 := Bn; clear Bn B3 C3 C8; replace o8 := o8.only hon hne8; replace hlt8 : ∀ k ∈ addrBlock A8, k < _ := (fun k hk => Nat.lt_of_lt_of_eq (hlt8 k hk) hon.size.symm); replace hb := hb.trans (hon.below hg8); clear hon; have C8 := B8.cells)
    | (go_at_call 52; (with_reducible refine (rcanonF ((Fs.nil _).cons (o8.resign true (-1) (by decide))) (by repeat (first | exact List.mem_cons_self .. | apply List.mem_cons_of_mem)) (by omega)).mono ?_); rintro e' wn ⟨vn, rfl, ⟨b9, A9, n9, c9, rfl, o9, f9⟩, hbn⟩; have hge9 : ∀ k ∈ addrBlock A9, w.heap.size ≤ k := (fun k hk => Nat.le_trans hb.size (f9 k hk).1); have hlt9 : ∀ k ∈ addrBlock A9, k < _ := (fun k hk => (f9 k hk).2); have hne96 : ∀ k ∈ addrBlock A9, k ≠ g6 := (fun k hk e => by (have h1 := (f9 k hk).1; have h2 := B6.lt; omega)); clear f9 C8 B8; replace B6 := B6.below hbn; replace hb := bthen hb hbn; clear hbn)
    | (go_at_call 61; (with_reducible refine (rfitsNF ((Fs.nil _).cons o9) (by repeat (first | exact List.mem_cons_self .. | apply List.mem_cons_of_mem)) HB.out).mono ?_); rintro e' wn ⟨vn, rfl, rfl, hbn⟩; replace B6 := B6.below hbn; replace o9 := o9.below hbn; replace hlt9 : ∀ k ∈ addrBlock A9, k < _ := (fun k hk => Nat.lt_of_lt_of_le (hlt9 k hk) hbn.size); replace hb := bthen hb hbn; clear hbn)
    | ((with_reducible refine g_store 6 ?_); go_must (refine ev_store rfl rfl B6 (news := [.bool false, .slice none 0 0]) (by first | rfl | (go_simp; try rfl)) infoNum (by simp) (by simp [Value.oneCell']) ?_); intro wn hon Bn; simp only [List.take_zero, List.nil_append, List.length_cons, List.length_nil, List.drop_succ_cons, List.drop_zero, List.append_nil, List.cons_append] at Bn; replace B6 := Bn; clear Bn; replace hb := hb.trans (hon.below hg6); clear hon))
  refine bodyPost_ret (results_ct rfl _ _ g6 26 #[.bool false, .slice none 0 0] (0, 0) _ rfl B6.h Tryd.underlying26 rfl (by kernel_rfl)) rfl ?_
  exact ⟨_, rfl, ⟨_, rfl, NumRes.nil _ _ _⟩, hb⟩
set_option maxRecDepth 8000 in
set_option maxHeartbeats 4000000 in
theorem rpowSEN_go {e B : Int} (F0 : Fs w [⟨b, A, n, c, z, K, can⟩]) (hK : K ≤ 1073000000) (he : 0 ≤ e) (hz : z = -1) (hp : e % 2 = 0) (hB0 : 0 ≤ B) (hB : B < ((bitN (1 : Int).natAbs : Nat) : Int)) :
    Calls Tryd.prog 38 #[.agg #[.bool b, .slice A n c], .int .i64 e, .int .i64 B] w (Gives w fun v w' => ∃ qv, v = .tuple #[qv, .bool false] ∧ NumRes w (0) 626 true qv w') := by
  have h1 : decide (e < 0) = false := by simp; omega
  have h2 : decide (B < 0) = false := by simp; omega
  have HB := As.mk hB
  have HS : As (decide (z < 0) = true) := ⟨by simp; omega⟩
  obtain ⟨X, hX⟩ : ∃ X, X = bitN z.natAbs := ⟨_, rfl⟩
  have HX := As.mk hX
  have INTMK := True.intro
  obtain rfl : X = 1 := by
    rw [hX]
    have h4 := bitN_le_one z.natAbs
    have h5 := bitN_eq_zero z.natAbs
    omega
  have h3 : e.tmod 2 = e % 2 := Int.tmod_eq_emod_of_nonneg (by omega)
  have h4 : e % 2 = 0 := hp
  clear hz hp
  clear hX he hB
  go_enter Tryd.func38, Tryd.ntmps38
  go_wp2_with (first
    | ((with_reducible refine g_dst 3 ?_); go_must (refine ev_box 3 rfl (cs := [.bool b, .slice A n c]) (by rfl) ?_); intro g3 wn hb3 B3 hg3; have hb := hb3)
    | ((with_reducible refine g_dst 6 ?_); go_must (refine ev_alloc 6 rfl infoNum (cs := [.bool false, .slice none 0 0]) rfl ?_); intro g6 wn hb6 B6 hgn; have hneb6_3 : g6 ≠ g3 := (fun e => by (have h1 := B3.lt; omega)); have hg6 := Nat.le_trans hb.size hgn; replace B3 := B3.below hb6; have C3 := B3.cells; replace hb := bthen hb hb6)
    | (go_at_call 52; (with_reducible refine (rcanonS (F0.below hb) (by repeat (first | exact List.mem_cons_self .. | apply List.mem_cons_of_mem)) (by omega) HS.out).mono ?_); rintro e' wn ⟨vn, rfl, ⟨A4, n4, c4, rfl, o4, f4⟩, hbn⟩; clear C3; have hne4 : ∀ k ∈ addrBlock A4, k ≠ g3 := (fun k hk e => by (have h1 := (f4 k hk).1; have h2 := B3.lt; omega)); have hne46 : ∀ k ∈ addrBlock A4, k ≠ g6 := (fun k hk e => by (have h1 := (f4 k hk).1; have h2 := B6.lt; omega)); have hlt4 : ∀ k ∈ addrBlock A4, k < _ := (fun k hk => (f4 k hk).2); clear f4; replace B3 := B3.below hbn; replace B6 := B6.below hbn; replace hb := bthen hb hbn; clear hbn)
    | ((with_reducible refine g_store 3 ?_); go_must (refine ev_store rfl rfl B3 (news := [.bool true, .slice A4 n4 c4]) (by rfl) infoNum (by simp) (by simp [Value.oneCell']) ?_); intro wn hon Bn; simp only [List.take_zero, List.nil_append, List.length_cons, List.length_nil, List.drop_succ_cons, List.drop_zero, List.append_nil, List.cons_append] at Bn; replace B6 := B6.only hon hneb6_3; replace B3 := Bn; clear Bn; replace o4 := o4.only hon hne4; replace hlt4 : ∀ k ∈ addrBlock A4, k < _ := (fun k hk => Nat.lt_of_lt_of_eq (hlt4 k hk) hon.size.symm); replace hb := hb.trans (hon.below hg3); clear hon; have C3 := B3.cells)
    | (go_at_call 28; (with_reducible refine (rintF 1 (by omega) (by omega)).mono ?_); rintro e' wn ⟨vn, rfl, ⟨b8, A8, n8, c8, rfl, o8, f8⟩, hbn⟩; have hlt8 : ∀ k ∈ addrBlock A8, k < _ := (fun k hk => (f8 k hk).2); have hge8 : ∀ k ∈ addrBlock A8, w.heap.size ≤ k := (fun k hk => Nat.le_trans hb.size (f8 k hk).1); have hne83 : ∀ k ∈ addrBlock A8, k ≠ g3 := (fun k hk e => by (have h1 := (f8 k hk).1; have h2 := B3.lt; omega)); have hne86 : ∀ k ∈ addrBlock A8, k ≠ g6 := (fun k hk e => by (have h1 := (f8 k hk).1; have h2 := B6.lt; omega)); clear f8 C3; replace B3 := B3.below hbn; replace B6 := B6.below hbn; replace o4 := o4.below hbn; replace hlt4 : ∀ k ∈ addrBlock A4, k < _ := (fun k hk => Nat.lt_of_lt_of_le (hlt4 k hk) hbn.size); replace hb := bthen hb hbn; clear hbn)
    | ((with_reducible refine g_dst 8 ?_); go_must (refine ev_alloc 8 rfl infoNum (cs := [.bool false, .slice none 0 0]) rfl ?_); intro g8 wn hb8 B8 hgn; have hneb8_3 : g8 ≠ g3 := (fun e => by (have h1 := B3.lt; omega)); have hneb8_6 : g8 ≠ g6 := (fun e => by (have h1 := B6.lt; omega)); have hne8 : ∀ k ∈ addrBlock A8, k ≠ g8 := (fun k hk e => by (have h1 := hlt8 k hk; omega)); have hne48 : ∀ k ∈ addrBlock A4, k ≠ g8 := (fun k hk e => by (have h1 := hlt4 k hk; omega)); have hg8 := Nat.le_trans hb.size hgn; replace B3 := B3.below hb8; replace B6 := B6.below hb8; replace o4 := o4.below hb8; replace o8 := o8.below hb8; replace hlt8 : ∀ k ∈ addrBlock A8, k < _ := (fun k hk => Nat.lt_of_lt_of_le (hlt8 k hk) hb8.size); replace hb := bthen hb hb8)
    | ((clear INTMK); (with_reducible refine g_store 8 ?_); go_must (refine ev_store rfl rfl B8 (news := [.bool b8, .slice A8 n8 c8]) (by rfl) infoNum (by simp) (by simp [Value.oneCell']) ?_); intro wn hon Bn; simp only [List.take_zero, List.nil_append, List.length_cons, List.length_nil, List.drop_succ_cons, List.drop_zero, List.append_nil, List.cons_append] at Bn; replace B3 := B3.only hon (Ne.symm hneb8_3); replace B6 := B6.only hon (Ne.symm hneb8_6); replace B8 := Bn; clear Bn; replace o4 := o4.only hon hne48; replace o8 := o8.only hon hne8; replace hlt8 : ∀ k ∈ addrBlock A8, k < _ := (fun k hk => Nat.lt_of_lt_of_eq (hlt8 k hk) hon.size.symm); replace hb := hb.trans (hon.below hg8); clear hon; have C3 := B3.cells; have C8 := B8.cells)
    | (go_at_call 60; (with_reducible refine (rbitsN HX.out ((Fs.nil _).cons o4) (by repeat (first | exact List.mem_cons_self .. | apply List.mem_cons_of_mem))).mono ?_); rintro e' wn ⟨vn, rfl, rfl, hbn⟩; clear C3 C8; replace B3 := B3.below hbn; replace B6 := B6.below hbn; replace B8 := B8.below hbn; replace o4 := o4.below hbn; replace o8 := o8.below hbn; replace hlt8 : ∀ k ∈ addrBlock A8, k < _ := (fun k hk => Nat.lt_of_lt_of_le (hlt8 k hk) hbn.size); have C3 := B3.cells; have C8 := B8.cells; replace hb := bthen hb hbn; clear hbn)
    | ((with_reducible refine g_store 40 ?_); go_must (refine ev_store rfl rfl B8 (news := [.bool false]) (by first | rfl | (go_simp; try rfl)) infoBool (by simp) (by simp [Value.oneCell']) ?_); intro wn hon Bn; simp only [List.take_zero, List.nil_append, List.length_cons, List.length_nil, List.drop_succ_cons, List.drop_zero, List.append_nil, List.cons_append] at Bn; replace B6 := B6.only hon (Ne.symm hneb8_6); replace B8 := Bn; clear Bn B3 C3 C8; replace o8 := o8.only hon hne8; replace hlt8 : ∀ k ∈ addrBlock A8, k < _ := (fun k hk => Nat.lt_of_lt_of_eq (hlt8 k hk) hon.size.symm); replace hb := hb.trans (hon.below hg8); clear hon; have C8 := B8.cells)
    | (go_at_call 52; (with_reducible refine (rcanonF ((Fs.nil _).cons (o8.resign false (1) (by decide))) (by repeat (first | exact List.mem_cons_self .. | apply List.mem_cons_of_mem)) (by omega)).mono ?_); rintro e' wn ⟨vn, rfl, ⟨b9, A9, n9, c9, rfl, o9, f9⟩, hbn⟩; have hge9 : ∀ k ∈ addrBlock A9, w.heap.size ≤ k := (fun k hk => Nat.le_trans hb.size (f9 k hk).1); have hlt9 : ∀ k ∈ addrBlock A9, k < _ := (fun k hk => (f9 k hk).2); have hne96 : ∀ k ∈ addrBlock A9, k ≠ g6 := (fun k hk e => by (have h1 := (f9 k hk).1; have h2 := B6.lt; omega)); clear f9 C8 B8; replace B6 := B6.below hbn; replace hb := bthen hb hbn; clear hbn)
    | (go_at_call 61; (with_reducible refine (rfitsNF ((Fs.nil _).cons o9) (by repeat (first | exact List.mem_cons_self .. | apply List.mem_cons_of_mem)) HB.out).mono ?_); rintro e' wn ⟨vn, rfl, rfl, hbn⟩; replace B6 := B6.below hbn; replace o9 := o9.below hbn; replace hlt9 : ∀ k ∈ addrBlock A9, k < _ := (fun k hk => Nat.lt_of_lt_of_le (hlt9 k hk) hbn.size); replace hb := bthen hb hbn; clear hbn)
    | ((with_reducible refine g_store 6 ?_); go_must (refine ev_store rfl rfl B6 (news := [.bool false, .slice none 0 0]) (by first | rfl | (go_simp; try rfl)) infoNum (by simp) (by simp [Value.oneCell']) ?_); intro wn hon Bn; simp only [List.take_zero, List.nil_append, List.length_cons, List.length_nil, List.drop_succ_cons, List.drop_zero, List.append_nil, List.cons_append] at Bn; replace B6 := Bn; clear Bn; replace hb := hb.trans (hon.below hg6); clear hon))
  refine bodyPost_ret (results_ct rfl _ _ g6 26 #[.bool false, .slice none 0 0] (0, 0) _ rfl B6.h Tryd.underlying26 rfl (by kernel_rfl)) rfl ?_
  exact ⟨_, rfl, ⟨_, rfl, NumRes.nil _ _ _⟩, hb⟩
set_option maxRecDepth 8000 in
set_option maxHeartbeats 4000000 in
theorem rpowT_go {e B : Int} (F0 : Fs w [⟨b, A, n, c, z, K, can⟩]) (hK : K ≤ 1073000000) (he : 0 ≤ e) (hB : 0 ≤ B) (hz : 1 < z.natAbs) (hlt : B < e) :
    Calls Tryd.prog 38 #[.agg #[.bool b, .slice A n c], .int .i64 e, .int .i64 B] w (Gives w fun v w' => ∃ qv, v = .tuple #[qv, .bool false] ∧ NumRes w (0) 626 true qv w') := by
  have h1 : decide (e < 0) = false := by simp; omega
  have h2 : decide (B < 0) = false := by simp; omega
  obtain ⟨s, hs⟩ : ∃ s, decide (z < 0) = s := ⟨_, rfl⟩
  have HS := As.mk hs
  clear hs
  obtain ⟨X, hX⟩ : ∃ X, X = bitN z.natAbs := ⟨_, rfl⟩
  have HX := As.mk hX
  have INTMK := True.intro
  have h5 : decide ((X : Int) ≤ 1) = false := by
    have := bitN_le_one z.natAbs
    simp; omega
  have h6 : decide (e > B) = true := by simpa using hlt
  have h7 : decide (B < e) = true := by simpa using hlt
  clear hX hz
  go_enter Tryd.func38, Tryd.ntmps38
  go_wp2_with (first
    | ((with_reducible refine g_dst 3 ?_); go_must (refine ev_box 3 rfl (cs := [.bool b, .slice A n c]) (by rfl) ?_); intro g3 wn hb3 B3 hg3; have hb := hb3)
    | ((with_reducible refine g_dst 6 ?_); go_must (refine ev_alloc 6 rfl infoNum (cs := [.bool false, .slice none 0 0]) rfl ?_); intro g6 wn hb6 B6 hgn; have hneb6_3 : g6 ≠ g3 := (fun e => by (have h1 := B3.lt; omega)); have hg6 := Nat.le_trans hb.size hgn; replace B3 := B3.below hb6; have C3 := B3.cells; replace hb := bthen hb hb6)
    | (go_at_call 52; (with_reducible refine (rcanonS (F0.below hb) (by repeat (first | exact List.mem_cons_self .. | apply List.mem_cons_of_mem)) (by omega) HS.out).mono ?_); rintro e' wn ⟨vn, rfl, ⟨A4, n4, c4, rfl, o4, f4⟩, hbn⟩; clear C3; have hne4 : ∀ k ∈ addrBlock A4, k ≠ g3 := (fun k hk e => by (have h1 := (f4 k hk).1; have h2 := B3.lt; omega)); have hne46 : ∀ k ∈ addrBlock A4, k ≠ g6 := (fun k hk e => by (have h1 := (f4 k hk).1; have h2 := B6.lt; omega)); have hlt4 : ∀ k ∈ addrBlock A4, k < _ := (fun k hk => (f4 k hk).2); clear f4; replace B3 := B3.below hbn; replace B6 := B6.below hbn; replace hb := bthen hb hbn; clear hbn)
    | ((with_reducible refine g_store 3 ?_); go_must (refine ev_store rfl rfl B3 (news := [.bool s, .slice A4 n4 c4]) (by rfl) infoNum (by simp) (by simp [Value.oneCell']) ?_); intro wn hon Bn; simp only [List.take_zero, List.nil_append, List.length_cons, List.length_nil, List.drop_succ_cons, List.drop_zero, List.append_nil, List.cons_append] at Bn; replace B6 := B6.only hon hneb6_3; replace B3 := Bn; clear Bn; replace o4 := o4.only hon hne4; replace hlt4 : ∀ k ∈ addrBlock A4, k < _ := (fun k hk => Nat.lt_of_lt_of_eq (hlt4 k hk) hon.size.symm); replace hb := hb.trans (hon.below hg3); clear hon; have C3 := B3.cells)
    | (go_at_call 28; (with_reducible refine (rintF 1 (by omega) (by omega)).mono ?_); rintro e' wn ⟨vn, rfl, ⟨b8, A8, n8, c8, rfl, o8, f8⟩, hbn⟩; have hlt8 : ∀ k ∈ addrBlock A8, k < _ := (fun k hk => (f8 k hk).2); have hge8 : ∀ k ∈ addrBlock A8, w.heap.size ≤ k := (fun k hk => Nat.le_trans hb.size (f8 k hk).1); have hne83 : ∀ k ∈ addrBlock A8, k ≠ g3 := (fun k hk e => by (have h1 := (f8 k hk).1; have h2 := B3.lt; omega)); have hne86 : ∀ k ∈ addrBlock A8, k ≠ g6 := (fun k hk e => by (have h1 := (f8 k hk).1; have h2 := B6.lt; omega)); clear f8 C3; replace B3 := B3.below hbn; replace B6 := B6.below hbn; replace o4 := o4.below hbn; replace hlt4 : ∀ k ∈ addrBlock A4, k < _ := (fun k hk => Nat.lt_of_lt_of_le (hlt4 k hk) hbn.size); replace hb := bthen hb hbn; clear hbn)
    | ((with_reducible refine g_dst 8 ?_); go_must (refine ev_alloc 8 rfl infoNum (cs := [.bool false, .slice none 0 0]) rfl ?_); intro g8 wn hb8 B8 hgn; have hneb8_3 : g8 ≠ g3 := (fun e => by (have h1 := B3.lt; omega)); have hneb8_6 : g8 ≠ g6 := (fun e => by (have h1 := B6.lt; omega)); have hne8 : ∀ k ∈ addrBlock A8, k ≠ g8 := (fun k hk e => by (have h1 := hlt8 k hk; omega)); have hne48 : ∀ k ∈ addrBlock A4, k ≠ g8 := (fun k hk e => by (have h1 := hlt4 k hk; omega)); have hg8 := Nat.le_trans hb.size hgn; replace B3 := B3.below hb8; replace B6 := B6.below hb8; replace o4 := o4.below hb8; replace o8 := o8.below hb8; replace hlt8 : ∀ k ∈ addrBlock A8, k < _ := (fun k hk => Nat.lt_of_lt_of_le (hlt8 k hk) hb8.size); replace hb := bthen hb hb8)
    | ((clear INTMK); (with_reducible refine g_store 8 ?_); go_must (refine ev_store rfl rfl B8 (news := [.bool b8, .slice A8 n8 c8]) (by rfl) infoNum (by simp) (by simp [Value.oneCell']) ?_); intro wn hon Bn; simp only [List.take_zero, List.nil_append, List.length_cons, List.length_nil, List.drop_succ_cons, List.drop_zero, List.append_nil, List.cons_append] at Bn; replace B3 := B3.only hon (Ne.symm hneb8_3); replace B6 := B6.only hon (Ne.symm hneb8_6); replace B8 := Bn; clear Bn; replace o4 := o4.only hon hne48; replace o8 := o8.only hon hne8; replace hlt8 : ∀ k ∈ addrBlock A8, k < _ := (fun k hk => Nat.lt_of_lt_of_eq (hlt8 k hk) hon.size.symm); replace hb := hb.trans (hon.below hg8); clear hon; have C3 := B3.cells; have C8 := B8.cells)
    | (go_at_call 60; (with_reducible refine (rbitsN HX.out ((Fs.nil _).cons o4) (by repeat (first | exact List.mem_cons_self .. | apply List.mem_cons_of_mem))).mono ?_); rintro e' wn ⟨vn, rfl, rfl, hbn⟩; clear C3 C8; replace B3 := B3.below hbn; replace B6 := B6.below hbn; replace B8 := B8.below hbn; replace o4 := o4.below hbn; replace o8 := o8.below hbn; replace hlt8 : ∀ k ∈ addrBlock A8, k < _ := (fun k hk => Nat.lt_of_lt_of_le (hlt8 k hk) hbn.size); have C3 := B3.cells; have C8 := B8.cells; replace hb := bthen hb hbn; clear hbn)
    | ((with_reducible refine g_store 6 ?_); go_must (refine ev_store rfl rfl B6 (news := [.bool false, .slice none 0 0]) (by first | rfl | (go_simp; try rfl)) infoNum (by simp) (by simp [Value.oneCell']) ?_); intro wn hon Bn; simp only [List.take_zero, List.nil_append, List.length_cons, List.length_nil, List.drop_succ_cons, List.drop_zero, List.append_nil, List.cons_append] at Bn; replace B6 := Bn; clear Bn; replace hb := hb.trans (hon.below hg6); clear hon))
  refine bodyPost_ret (results_ct rfl _ _ g6 26 #[.bool false, .slice none 0 0] (0, 0) _ rfl B6.h Tryd.underlying26 rfl (by kernel_rfl)) rfl ?_
  exact ⟨_, rfl, ⟨_, rfl, NumRes.nil _ _ _⟩, hb⟩
set_option maxRecDepth 8000 in
set_option maxHeartbeats 4000000 in
theorem rpowL_go {e B : Int} {N : Nat} (F0 : Fs w [⟨b, A, n, c, z, K, can⟩]) (hK : K ≤ 1073000000) (he : e = (N : Int)) (hB : 0 ≤ B) (hB2 : B ≤ 20000) (hz : 1 < z.natAbs) (hlt : (N : Int) ≤ B) (hP : PW z e B q ok) :
    Calls Tryd.prog 38 #[.agg #[.bool b, .slice A n c], .int .i64 e, .int .i64 B] w (Gives w fun v w' => ∃ qv, v = .tuple #[qv, .bool ok] ∧ NumRes w (q) 626 true qv w') := by
  subst he
  have HP := As.mk hP
  have HMON : As (∀ k, k ≤ N → bitN (z ^ k).natAbs ≤ bitN (z ^ N).natAbs) := ⟨fun k hk => bitN_mono (pow_grows (by omega) hk)⟩
  have h1 : decide ((N : Int) < 0) = false := by simp
  have h2 : decide (B < 0) = false := by simp; omega
  obtain ⟨s, hs⟩ : ∃ s, decide (z < 0) = s := ⟨_, rfl⟩
  have HS := As.mk hs
  clear hs
  obtain ⟨X, hX⟩ : ∃ X, X = bitN z.natAbs := ⟨_, rfl⟩
  have HX := As.mk hX
  have INTMK := True.intro
  have h5 : decide ((X : Int) ≤ 1) = false := by
    have := bitN_le_one z.natAbs
    simp; omega
  have h6 : decide ((N : Int) > B) = false := by simp; omega
  have h7 : decide (B < (N : Int)) = false := by simp; omega
  have HN : As (N ≤ 20000) := ⟨by omega⟩
  clear hX hz hP hlt
  go_enter Tryd.func38, Tryd.ntmps38
  go_wp2_with (first
    | ((with_reducible refine g_dst 3 ?_); go_must (refine ev_box 3 rfl (cs := [.bool b, .slice A n c]) (by rfl) ?_); intro g3 wn hb3 B3 hg3; have hb := hb3)
    | ((with_reducible refine g_dst 6 ?_); go_must (refine ev_alloc 6 rfl infoNum (cs := [.bool false, .slice none 0 0]) rfl ?_); intro g6 wn hb6 B6 hgn; have hneb6_3 : g6 ≠ g3 := (fun e => by (have h1 := B3.lt; omega)); have hg6 := Nat.le_trans hb.size hgn; replace B3 := B3.below hb6; have C3 := B3.cells; replace hb := bthen hb hb6)
    | (go_at_call 52; (with_reducible refine (rcanonS (F0.below hb) (by repeat (first | exact List.mem_cons_self .. | apply List.mem_cons_of_mem)) (by omega) HS.out).mono ?_); rintro e' wn ⟨vn, rfl, ⟨A4, n4, c4, rfl, o4, f4⟩, hbn⟩; clear C3; have hne4 : ∀ k ∈ addrBlock A4, k ≠ g3 := (fun k hk e => by (have h1 := (f4 k hk).1; have h2 := B3.lt; omega)); have hne46 : ∀ k ∈ addrBlock A4, k ≠ g6 := (fun k hk e => by (have h1 := (f4 k hk).1; have h2 := B6.lt; omega)); have hlt4 : ∀ k ∈ addrBlock A4, k < _ := (fun k hk => (f4 k hk).2); clear f4; replace B3 := B3.below hbn; replace B6 := B6.below hbn; replace hb := bthen hb hbn; clear hbn)
    | ((with_reducible refine g_store 3 ?_); go_must (refine ev_store rfl rfl B3 (news := [.bool s, .slice A4 n4 c4]) (by rfl) infoNum (by simp) (by simp [Value.oneCell']) ?_); intro wn hon Bn; simp only [List.take_zero, List.nil_append, List.length_cons, List.length_nil, List.drop_succ_cons, List.drop_zero, List.append_nil, List.cons_append] at Bn; replace B6 := B6.only hon hneb6_3; replace B3 := Bn; clear Bn; replace o4 := o4.only hon hne4; replace hlt4 : ∀ k ∈ addrBlock A4, k < _ := (fun k hk => Nat.lt_of_lt_of_eq (hlt4 k hk) hon.size.symm); replace hb := hb.trans (hon.below hg3); clear hon; have C3 := B3.cells)
    | (go_at_call 28; (with_reducible refine (rintF 1 (by omega) (by omega)).mono ?_); rintro e' wn ⟨vn, rfl, ⟨b8, A8, n8, c8, rfl, o8, f8⟩, hbn⟩; have hlt8 : ∀ k ∈ addrBlock A8, k < _ := (fun k hk => (f8 k hk).2); have hge8 : ∀ k ∈ addrBlock A8, w.heap.size ≤ k := (fun k hk => Nat.le_trans hb.size (f8 k hk).1); have hne83 : ∀ k ∈ addrBlock A8, k ≠ g3 := (fun k hk e => by (have h1 := (f8 k hk).1; have h2 := B3.lt; omega)); have hne86 : ∀ k ∈ addrBlock A8, k ≠ g6 := (fun k hk e => by (have h1 := (f8 k hk).1; have h2 := B6.lt; omega)); clear f8 C3; replace B3 := B3.below hbn; replace B6 := B6.below hbn; replace o4 := o4.below hbn; replace hlt4 : ∀ k ∈ addrBlock A4, k < _ := (fun k hk => Nat.lt_of_lt_of_le (hlt4 k hk) hbn.size); replace hb := bthen hb hbn; clear hbn)
    | ((with_reducible refine g_dst 8 ?_); go_must (refine ev_alloc 8 rfl infoNum (cs := [.bool false, .slice none 0 0]) rfl ?_); intro g8 wn hb8 B8 hgn; have hneb8_3 : g8 ≠ g3 := (fun e => by (have h1 := B3.lt; omega)); have hneb8_6 : g8 ≠ g6 := (fun e => by (have h1 := B6.lt; omega)); have hne8 : ∀ k ∈ addrBlock A8, k ≠ g8 := (fun k hk e => by (have h1 := hlt8 k hk; omega)); have hne48 : ∀ k ∈ addrBlock A4, k ≠ g8 := (fun k hk e => by (have h1 := hlt4 k hk; omega)); have hg8 := Nat.le_trans hb.size hgn; replace B3 := B3.below hb8; replace B6 := B6.below hb8; replace o4 := o4.below hb8; replace o8 := o8.below hb8; replace hlt8 : ∀ k ∈ addrBlock A8, k < _ := (fun k hk => Nat.lt_of_lt_of_le (hlt8 k hk) hb8.size); replace hb := bthen hb hb8)
    | ((clear INTMK); (with_reducible refine g_store 8 ?_); go_must (refine ev_store rfl rfl B8 (news := [.bool b8, .slice A8 n8 c8]) (by rfl) infoNum (by simp) (by simp [Value.oneCell']) ?_); intro wn hon Bn; simp only [List.take_zero, List.nil_append, List.length_cons, List.length_nil, List.drop_succ_cons, List.drop_zero, List.append_nil, List.cons_append] at Bn; replace B3 := B3.only hon (Ne.symm hneb8_3); replace B6 := B6.only hon (Ne.symm hneb8_6); replace B8 := Bn; clear Bn; replace o4 := o4.only hon hne48; replace o8 := o8.only hon hne8; replace hlt8 : ∀ k ∈ addrBlock A8, k < _ := (fun k hk => Nat.lt_of_lt_of_eq (hlt8 k hk) hon.size.symm); replace hb := hb.trans (hon.below hg8); clear hon; have C3 := B3.cells; have C8 := B8.cells)
    | (go_at_call 60; (with_reducible refine (rbitsN HX.out ((Fs.nil _).cons o4) (by repeat (first | exact List.mem_cons_self .. | apply List.mem_cons_of_mem))).mono ?_); rintro e' wn ⟨vn, rfl, rfl, hbn⟩; clear C3 C8; replace B3 := B3.below hbn; replace B6 := B6.below hbn; replace B8 := B8.below hbn; replace o4 := o4.below hbn; replace o8 := o8.below hbn; replace hlt8 : ∀ k ∈ addrBlock A8, k < _ := (fun k hk => Nat.lt_of_lt_of_le (hlt8 k hk) hbn.size); have C3 := B3.cells; have C8 := B8.cells; replace hb := bthen hb hbn; clear hbn))
  go_loopw [10] (fun i wr => ∃ (k : Nat) (b9 : Bool) (A9 : Option Addr) (n9 c9 : Nat), i = .int .i64 (k : Int) ∧ k ≤ N ∧ (0 < k → ((bitN (z ^ k).natAbs : Nat) : Int) ≤ B) ∧ Below w.heap.size w wr ∧ Blk wr g3 [.bool s, .slice A4 n4 c4] 26 ∧ Blk wr g6 [.bool false, .slice none 0 0] 26 ∧ Blk wr g8 [.bool b9, .slice A9 n9 c9] 26 ∧ NR.Ok wr ⟨s, A4, n4, c4, z, K, true⟩ ∧ NR.Ok wr ⟨b9, A9, n9, c9, z ^ k, 626, true⟩ ∧ As (∀ k ∈ addrBlock A9, w.heap.size ≤ k ∧ k < wr.heap.size ∧ k ≠ g6 ∧ k ≠ g8) ∧ As (∀ k ∈ addrBlock A4, k ≠ g8)) (fun i _ => N - (intOf i).toNat)
  case atStart => exact ⟨0, b8, A8, n8, c8, rfl, Nat.zero_le _, fun h => absurd h (by omega), hb, B3, B6, B8, o4, by rw [Int.pow_zero]; exact ⟨o8.ex, Nat.le_trans o8.le (by simp only; omega)⟩, ⟨fun k hk => ⟨hge8 k hk, hlt8 k hk, hne86 k hk, hne8 k hk⟩⟩, ⟨hne48⟩⟩
  case round =>
    clear B3 B6 B8 C3 C8 hb o4 o8 hge8 hlt8 hne83 hne86 hne8 hne48
    obtain ⟨k, b9, A9, n9, c9, rfl, hk, hkB, hb, B3, B6, B8, o4, o9, f9, hne48⟩ := hrel
    have C3 := B3.cells
    have C8 := B8.cells
    have hk2 : k ≤ 20000 := by have := HN.out; omega
    by_cases hkN : k < N
    · have HK := As.mk hkB
      clear hkB
      obtain ⟨Y, hY⟩ : ∃ Y, Y = bitN (z ^ k * z).natAbs := ⟨_, rfl⟩
      have HY := As.mk hY
      have hgr := HMON.out (k + 1) hkN
      rw [Int.pow_succ, ← hY] at hgr
      have HG := As.mk hgr
      clear hY hgr
      by_cases hYB : (Y : Int) ≤ B
      · have y1 : decide ((Y : Int) > B) = false := by simp; omega
        have y2 : decide (B < (Y : Int)) = false := by simp; omega
        have hl9 : (digB 4294967296 (z ^ k * z).natAbs).length ≤ 626 := len_of_bits _ _ (by rw [← HY.out]; omega)
        have HL := As.mk hl9
        have HYB := As.mk hYB
        clear hl9 hYB
        go_wp2_with (first
          | ((with_reducible refine g_dst 58 ?_); go_must (refine ev_lit (v := fun g => .slice (some ⟨g, 0, none⟩) 2 2) 58 rfl (cs := [.bool b9, .slice A9 n9 c9, .bool s, .slice A4 n4 c4]) (t := 26) (by go_simp; try rfl) ?_); intro gl wn hbl Bl hgl; clear C3 C8; replace B3 := B3.below hbl; replace B6 := B6.below hbl; replace B8 := B8.below hbl; replace o4 := o4.below hbl; replace o9 := o9.below hbl; replace hb := bthen hb hbl)
          | (go_at_call 36; (with_reducible refine (rmulF (((Fs.nil _).cons o4).cons o9) Bl (by repeat (first | exact List.mem_cons_self .. | apply List.mem_cons_of_mem)) (by repeat (first | exact List.mem_cons_self .. | apply List.mem_cons_of_mem)) (by omega)).mono ?_); rintro e' wn ⟨vn, rfl, ⟨b21, A21, n21, c21, rfl, o21, f21⟩, hbn⟩; have hlt21 : ∀ k ∈ addrBlock A21, k < _ := (fun k hk => (f21 k hk).2); have hge21 : ∀ k ∈ addrBlock A21, w.heap.size ≤ k := (fun k hk => Nat.le_trans hb.size (f21 k hk).1); have hne21 : ∀ k ∈ addrBlock A21, k ≠ g8 := (fun k hk e => by (have h1 := (f21 k hk).1; have h2 := B8.lt; omega)); have hne21_6 : ∀ k ∈ addrBlock A21, k ≠ g6 := (fun k hk e => by (have h1 := (f21 k hk).1; have h2 := B6.lt; omega)); clear f21 o9; replace B3 := B3.below hbn; replace B6 := B6.below hbn; replace B8 := B8.below hbn; replace o4 := o4.below hbn; replace hb := bthen hb hbn; clear hbn)
          | ((with_reducible refine g_store 8 ?_); go_must (refine ev_store rfl rfl B8 (news := [.bool b21, .slice A21 n21 c21]) (by rfl) infoNum (by simp) (by simp [Value.oneCell']) ?_); intro wn hon Bn; simp only [List.take_zero, List.nil_append, List.length_cons, List.length_nil, List.drop_succ_cons, List.drop_zero, List.append_nil, List.cons_append] at Bn; replace B3 := B3.only hon (Ne.symm hneb8_3); replace B6 := B6.only hon (Ne.symm hneb8_6); replace B8 := Bn; clear Bn; replace o4 := o4.only hon hne48.out; replace o21 := o21.only hon hne21; replace hlt21 : ∀ k ∈ addrBlock A21, k < _ := (fun k hk => Nat.lt_of_lt_of_eq (hlt21 k hk) hon.size.symm); replace hb := hb.trans (hon.below hg8); clear hon; have C3 := B3.cells; have C8 := B8.cells)
          | (go_at_call 60; (with_reducible refine (rbitsN HY.out ((Fs.nil _).cons o21) (by repeat (first | exact List.mem_cons_self .. | apply List.mem_cons_of_mem))).mono ?_); rintro e' wn ⟨vn, rfl, rfl, hbn⟩; clear C3 C8; replace B3 := B3.below hbn; replace B6 := B6.below hbn; replace B8 := B8.below hbn; replace o4 := o4.below hbn; have o9 := (o21.below hbn).tight HL.out (fun h => ⟨rfl, h⟩) (K := 626); clear o21; replace hlt21 : ∀ k ∈ addrBlock A21, k < _ := (fun k hk => Nat.lt_of_lt_of_le (hlt21 k hk) hbn.size); have C3 := B3.cells; have C8 := B8.cells; replace hb := bthen hb hbn; clear hbn))
        go_roundw
        case rel => exact ⟨k + 1, b21, A21, n21, c21, by go_num, by omega, fun _ => by rw [Int.pow_succ, ← HY.out]; exact HYB.out, hb, B3, B6, B8, o4, by rw [Int.pow_succ]; exact o9, ⟨fun k hk => ⟨hge21 k hk, hlt21 k hk, hne21_6 k hk, hne21 k hk⟩⟩, hne48⟩
        case measure => (simp [intOf]; try omega)
      · have y1 : decide ((Y : Int) > B) = true := by simp; omega
        have y2 : decide (B < (Y : Int)) = true := by simp; omega
        have hl9 : True := True.intro
        have HL := As.mk hl9
        obtain ⟨rfl, rfl⟩ : q = 0 ∧ ok = false := by
          rcases HP.out with ⟨h8, h9, h10⟩ | ⟨_, _, ⟨h8, _⟩ | ⟨_, h9, h10⟩⟩
          · exact ⟨h9, h10⟩
          · rw [Int.toNat_natCast] at h8
            have := HG.out
            omega
          · exact ⟨h9, h10⟩
        clear hl9 hYB
        go_wp2_with (first
          | ((with_reducible refine g_dst 58 ?_); go_must (refine ev_lit (v := fun g => .slice (some ⟨g, 0, none⟩) 2 2) 58 rfl (cs := [.bool b9, .slice A9 n9 c9, .bool s, .slice A4 n4 c4]) (t := 26) (by go_simp; try rfl) ?_); intro gl wn hbl Bl hgl; clear C3 C8; replace B3 := B3.below hbl; replace B6 := B6.below hbl; replace B8 := B8.below hbl; replace o4 := o4.below hbl; replace o9 := o9.below hbl; replace hb := bthen hb hbl)
          | (go_at_call 36; (with_reducible refine (rmulF (((Fs.nil _).cons o4).cons o9) Bl (by repeat (first | exact List.mem_cons_self .. | apply List.mem_cons_of_mem)) (by repeat (first | exact List.mem_cons_self .. | apply List.mem_cons_of_mem)) (by omega)).mono ?_); rintro e' wn ⟨vn, rfl, ⟨b21, A21, n21, c21, rfl, o21, f21⟩, hbn⟩; have hlt21 : ∀ k ∈ addrBlock A21, k < _ := (fun k hk => (f21 k hk).2); have hge21 : ∀ k ∈ addrBlock A21, w.heap.size ≤ k := (fun k hk => Nat.le_trans hb.size (f21 k hk).1); have hne21 : ∀ k ∈ addrBlock A21, k ≠ g8 := (fun k hk e => by (have h1 := (f21 k hk).1; have h2 := B8.lt; omega)); have hne21_6 : ∀ k ∈ addrBlock A21, k ≠ g6 := (fun k hk e => by (have h1 := (f21 k hk).1; have h2 := B6.lt; omega)); clear f21 o9; replace B3 := B3.below hbn; replace B6 := B6.below hbn; replace B8 := B8.below hbn; replace o4 := o4.below hbn; replace hb := bthen hb hbn; clear hbn)
          | ((with_reducible refine g_store 8 ?_); go_must (refine ev_store rfl rfl B8 (news := [.bool b21, .slice A21 n21 c21]) (by rfl) infoNum (by simp) (by simp [Value.oneCell']) ?_); intro wn hon Bn; simp only [List.take_zero, List.nil_append, List.length_cons, List.length_nil, List.drop_succ_cons, List.drop_zero, List.append_nil, List.cons_append] at Bn; replace B3 := B3.only hon (Ne.symm hneb8_3); replace B6 := B6.only hon (Ne.symm hneb8_6); replace B8 := Bn; clear Bn; replace o4 := o4.only hon hne48.out; replace o21 := o21.only hon hne21; replace hlt21 : ∀ k ∈ addrBlock A21, k < _ := (fun k hk => Nat.lt_of_lt_of_eq (hlt21 k hk) hon.size.symm); replace hb := hb.trans (hon.below hg8); clear hon; have C3 := B3.cells; have C8 := B8.cells)
          | (go_at_call 60; (with_reducible refine (rbitsN HY.out ((Fs.nil _).cons o21) (by repeat (first | exact List.mem_cons_self .. | apply List.mem_cons_of_mem))).mono ?_); rintro e' wn ⟨vn, rfl, rfl, hbn⟩; clear C3 C8; replace B3 := B3.below hbn; replace B6 := B6.below hbn; replace B8 := B8.below hbn; replace o4 := o4.below hbn; replace o21 := o21.below hbn; replace hlt21 : ∀ k ∈ addrBlock A21, k < _ := (fun k hk => Nat.lt_of_lt_of_le (hlt21 k hk) hbn.size); have C3 := B3.cells; have C8 := B8.cells; replace hb := bthen hb hbn; clear hbn)
          | ((with_reducible refine g_store 6 ?_); go_must (refine ev_store rfl rfl B6 (news := [.bool false, .slice none 0 0]) (by first | rfl | (go_simp; try rfl)) infoNum (by simp) (by simp [Value.oneCell']) ?_); intro wn hon Bn; simp only [List.take_zero, List.nil_append, List.length_cons, List.length_nil, List.drop_succ_cons, List.drop_zero, List.append_nil, List.cons_append] at Bn; replace B6 := Bn; clear Bn; replace hb := hb.trans (hon.below hg6); clear hon))
        refine bodyPost_ret (results_ct rfl _ _ g6 26 #[.bool false, .slice none 0 0] (0, 0) _ rfl B6.h Tryd.underlying26 rfl (by kernel_rfl)) rfl ?_
        exact ⟨_, rfl, ⟨_, rfl, NumRes.nil _ _ _⟩, hb⟩
    · obtain rfl : k = N := by omega
      rcases HP.out with ⟨h8, h9, h10⟩ | ⟨_, _, ⟨h8, rfl, rfl⟩ | ⟨h8, rfl, rfl⟩⟩
      · exact absurd h8 (by omega)
      · rw [Int.toNat_natCast] at h8
        have HB := As.mk h8
        clear hk hkB h8 hkN
        have hne96 : ∀ k ∈ addrBlock A9, k ≠ g6 := fun k hk => (f9.out k hk).2.2.1
        have hge9 : ∀ k ∈ addrBlock A9, w.heap.size ≤ k := fun k hk => (f9.out k hk).1
        have hlt9 : ∀ k ∈ addrBlock A9, k < _ := fun k hk => (f9.out k hk).2.1
        go_wp2_with (first
          | (go_at_call 61; (with_reducible refine (rfitsYF ((Fs.nil _).cons o9) (by repeat (first | exact List.mem_cons_self .. | apply List.mem_cons_of_mem)) HB.out).mono ?_); rintro e' wn ⟨vn, rfl, rfl, hbn⟩; replace B6 := B6.below hbn; replace o9 := o9.below hbn; replace hlt9 : ∀ k ∈ addrBlock A9, k < _ := (fun k hk => Nat.lt_of_lt_of_le (hlt9 k hk) hbn.size); replace hb := bthen hb hbn; clear hbn)
          | ((with_reducible refine g_store 6 ?_); go_must (refine ev_store rfl rfl B6 (news := [.bool b9, .slice A9 n9 c9]) (by rfl) infoNum (by simp) (by simp [Value.oneCell']) ?_); intro wn hon Bn; simp only [List.take_zero, List.nil_append, List.length_cons, List.length_nil, List.drop_succ_cons, List.drop_zero, List.append_nil, List.cons_append] at Bn; replace B6 := Bn; clear Bn; replace o9 := o9.only hon hne96; replace hlt9 : ∀ k ∈ addrBlock A9, k < _ := (fun k hk => Nat.lt_of_lt_of_eq (hlt9 k hk) hon.size.symm); replace hb := hb.trans (hon.below hg6); clear hon))
        refine bodyPost_ret (results_ct rfl _ _ g6 26 #[.bool b9, .slice A9 n9 c9] (0, 0) _ rfl B6.h Tryd.underlying26 rfl (by kernel_rfl)) rfl ?_
        exact ⟨_, rfl, ⟨_, rfl, by rw [Int.toNat_natCast]; exact ⟨_, _, _, _, rfl, o9, fun k hk => ⟨hge9 k hk, hlt9 k hk⟩⟩⟩, hb⟩
      · rw [Int.toNat_natCast] at h8
        have HB := As.mk h8
        clear hk hkB h8 hkN
        go_wp2_with (first
          | (go_at_call 61; (with_reducible refine (rfitsNF ((Fs.nil _).cons o9) (by repeat (first | exact List.mem_cons_self .. | apply List.mem_cons_of_mem)) HB.out).mono ?_); rintro e' wn ⟨vn, rfl, rfl, hbn⟩; replace B6 := B6.below hbn; replace hb := bthen hb hbn; clear hbn)
          | ((with_reducible refine g_store 6 ?_); go_must (refine ev_store rfl rfl B6 (news := [.bool false, .slice none 0 0]) (by first | rfl | (go_simp; try rfl)) infoNum (by simp) (by simp [Value.oneCell']) ?_); intro wn hon Bn; simp only [List.take_zero, List.nil_append, List.length_cons, List.length_nil, List.drop_succ_cons, List.drop_zero, List.append_nil, List.cons_append] at Bn; replace B6 := Bn; clear Bn; replace hb := hb.trans (hon.below hg6); clear hon))
        refine bodyPost_ret (results_ct rfl _ _ g6 26 #[.bool false, .slice none 0 0] (0, 0) _ rfl B6.h Tryd.underlying26 rfl (by kernel_rfl)) rfl ?_
        exact ⟨_, rfl, ⟨_, rfl, NumRes.nil _ _ _⟩, hb⟩
theorem rpowF {e B : Int} (F : Fs w L) (h : (⟨b, A, n, c, z, K, can⟩ : NR) ∈ L) (hP : PW z e B q ok) (hB2 : B ≤ 20000) (hK : K ≤ 1073000000) :
    Calls Tryd.prog 38 #[.agg #[.bool b, .slice A n c], .int .i64 e, .int .i64 B] w (Gives w fun v w' => ∃ qv, v = .tuple #[qv, .bool ok] ∧ NumRes w (q) 626 true qv w') := by
  have F0 : Fs w [⟨b, A, n, c, z, K, can⟩] := (Fs.nil w).cons (F.out _ h)
  by_cases hn : e < 0 ∨ B < 0
  · rcases hP with ⟨_, rfl, rfl⟩ | ⟨h3, h4, _⟩
    · exact rpowN_go F0 hK hn
    · omega
  obtain ⟨M, rfl⟩ : ∃ M : Nat, e = (M : Int) := ⟨e.toNat, by omega⟩
  have hP' : (((bitN (z ^ M).natAbs : Nat) : Int) ≤ B ∧ q = z ^ M ∧ ok = true) ∨ (B < ((bitN (z ^ M).natAbs : Nat) : Int) ∧ q = 0 ∧ ok = false) := by
    rcases hP with ⟨h3, _⟩ | ⟨_, _, h3⟩
    · exact absurd h3 hn
    · simpa using h3
  rcases Nat.lt_or_ge 1 z.natAbs with h1z | h1z
  · by_cases hlt : (M : Int) ≤ B
    · exact rpowL_go F0 hK rfl (by omega) hB2 h1z hlt hP
    · have := pow_bits h1z M
      rcases hP' with ⟨h3, _⟩ | ⟨_, rfl, rfl⟩
      · omega
      · exact rpowT_go F0 hK (by omega) (by omega) h1z (by omega)
  · have hcase : (z = 0 ∧ 0 < M ∧ z ^ M = 0) ∨ (z = 0 ∧ M = 0 ∧ z ^ M = 1) ∨ (z = 1 ∧ z ^ M = 1) ∨ (z = -1 ∧ M % 2 = 1 ∧ z ^ M = -1) ∨ (z = -1 ∧ M % 2 = 0 ∧ z ^ M = 1) := by
      rcases (show z = 0 ∨ z = 1 ∨ z = -1 by omega) with rfl | rfl | rfl
      · rcases Nat.eq_zero_or_pos M with rfl | hM
        · exact .inr (.inl ⟨rfl, rfl, rfl⟩)
        · exact .inl ⟨rfl, hM, Int.zero_pow (by omega)⟩
      · exact .inr (.inr (.inl ⟨rfl, Int.one_pow⟩))
      · rcases Nat.mod_two_eq_zero_or_one M with h2 | h2
        · refine .inr (.inr (.inr (.inr ⟨rfl, h2, ?_⟩)))
          rcases Nat.lt_or_ge 2 M with h3 | h3
          · rw [pow_round (by decide) M h3, h2]; rfl
          · rcases (show M = 0 ∨ M = 2 by omega) with rfl | rfl <;> rfl
        · refine .inr (.inr (.inr (.inl ⟨rfl, h2, ?_⟩)))
          rcases Nat.lt_or_ge 2 M with h3 | h3
          · rw [pow_round (by decide) M h3, h2]; rfl
          · obtain rfl : M = 1 := by omega
            rfl
    rcases hcase with ⟨hz, hM, hv⟩ | ⟨hz, hM, hv⟩ | ⟨hz, hv⟩ | ⟨hz, hM, hv⟩ | ⟨hz, hM, hv⟩ <;> rw [hv] at hP' <;> rcases hP' with ⟨h3, rfl, rfl⟩ | ⟨h3, rfl, rfl⟩
    · exact rpowSZY_go F0 hK (by omega) hz (by omega) (by omega) h3 hB2
    · rw [show ((0 : Int).natAbs) = 0 from rfl, bitN_zero] at h3; omega
    · exact rpowS0Y_go F0 hK (by omega) hz (by omega) (by omega) h3 hB2
    · exact rpowS0N_go F0 hK (by omega) hz (by omega) (by omega) h3
    · exact rpowS1Y_go F0 hK (by omega) hz (by omega) h3 hB2
    · exact rpowS1N_go F0 hK (by omega) hz (by omega) h3
    · exact rpowSOY_go F0 hK (by omega) hz (by omega) (by omega) h3 hB2
    · exact rpowSON_go F0 hK (by omega) hz (by omega) (by omega) h3
    · exact rpowSEY_go F0 hK (by omega) hz (by omega) (by omega) h3 hB2
    · exact rpowSEN_go F0 hK (by omega) hz (by omega) (by omega) h3
end
end Go.Proofs.YtigoofeodbbbhaaDoor
