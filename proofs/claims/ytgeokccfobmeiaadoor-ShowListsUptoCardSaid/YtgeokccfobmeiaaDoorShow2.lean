/- tandemref06.two; a character as it is written, both ways. -/
import Derived.Test.YtgeokccfobmeiaaDoorShow1
namespace Go.Proofs.YtgeokccfobmeiaaDoor
open Go.RowKit Go.Proofs.YtgeokccfobmeiaaDoorL Go.Proofs.YtgeokccfobmeiaaDoorM
set_option linter.unusedVariables false
set_option linter.unusedSimpArgs false
set_option maxRecDepth 8000 in
set_option maxHeartbeats 400000 in
theorem two_any (n : Int) (w : World) (h1 : -9223372036854775808 ≤ n) (h2 : n ≤ 9223372036854775807) :
    Calls Tryd.prog 33 #[.int .i64 n] w (Gives w fun v w' => v = .string ⟨(hex2 n).toArray⟩) := by
  obtain ⟨m, hm⟩ : ∃ m : Nat, m = (n % 256).toNat := ⟨_, rfl⟩
  obtain ⟨a, ha⟩ : ∃ a : Nat, a = m / 16 := ⟨_, rfl⟩
  obtain ⟨b, hb⟩ : ∃ b : Nat, b = m % 16 := ⟨_, rfl⟩
  have ha' : a < 16 := by omega
  have hb' : b < 16 := by omega
  have hh : As (hex2 n = [dig16 a, dig16 b]) := ⟨by rw [hex2, show (n / 16 % 16).toNat = a by omega, show (n % 16).toNat = b by omega]⟩
  obtain ⟨t, ht⟩ : ∃ t : Int, t = n.tmod 256 := ⟨_, rfl⟩
  have htm : t = (m : Int) ∨ (t < 0 ∧ t + 256 = (m : Int)) := by
    rw [ht, Int.tmod_eq_emod]
    split <;> omega
  have e1 : ((m : Int).tdiv 16) = (a : Int) := by rw [Int.tdiv_eq_ediv_of_nonneg (by omega)]; omega
  have e2 : ((m : Int).tmod 16) = (b : Int) := by rw [Int.tmod_eq_emod_of_nonneg (by omega)]; omega
  have e1' : ((m : Int) / 16) = (a : Int) := by omega
  have e2' : ((m : Int) % 16) = (b : Int) := by omega
  have e3 : IntKind.i64.wrap (a : Int) = (a : Int) := IntWalk.i64_in _ (by omega)
  have e4 : IntKind.i64.wrap (b : Int) = (b : Int) := IntWalk.i64_in _ (by omega)
  have e5 : IntKind.i64.wrap ((a : Int) + 1) = (a : Int) + 1 := IntWalk.i64_in _ (by omega)
  have e6 : IntKind.i64.wrap ((b : Int) + 1) = (b : Int) + 1 := IntWalk.i64_in _ (by omega)
  have sa := hexS2 a ha'
  have sb := hexS2 b hb'
  obtain ⟨x, hx⟩ : ∃ x, x = [dig16 a] := ⟨_, rfl⟩
  obtain ⟨y, hy⟩ : ∃ y, y = [dig16 b] := ⟨_, rfl⟩
  simp only [← hx] at sa
  simp only [← hy] at sb
  have hf : As (x ++ y = hex2 n) := ⟨by rw [hh.out, hx, hy]; rfl⟩
  have hadd : ∀ w : World, (Op.stringOp .add ⟨x.toArray⟩ ⟨y.toArray⟩).run Tryd.prog w = .ok (.string ⟨(x ++ y).toArray⟩) w := fun w => run_add_lists w x y (by rw [hx, hy]; simp)
  have hm2 : m < 256 := by omega
  have Ht := As.mk ht
  have et : n.tmod 256 = t := ht.symm
  have ew : IntKind.i64.wrap t = t := IntWalk.i64_in _ (by omega)
  clear hx hy ha hb hm ht
  rcases htm with rfl | ⟨htn, hts⟩
  · go_enter Tryd.func33, Tryd.ntmps33
    go_wp2
    go_still_tail 13, (by kernel_rfl)
    change wpList _ _ _ _ _ w.drew
    have hbd := (Below.refl w.heap.size w).drew
    generalize w.drew = w2 at hbd ⊢
    go_wp2
    go_ret
    exact ⟨_, rfl, by rw [← hf.out]; rfl, hbd⟩
  · have ew2 : IntKind.i64.wrap (t + 256) = (m : Int) := by rw [hts]; exact IntWalk.i64_in _ (by omega)
    go_enter Tryd.func33, Tryd.ntmps33
    go_wp2
    go_still_tail 13, (by kernel_rfl)
    change wpList _ _ _ _ _ w.drew
    have hbd := (Below.refl w.heap.size w).drew
    generalize w.drew = w2 at hbd ⊢
    go_wp2
    go_ret
    exact ⟨_, rfl, by rw [← hf.out]; rfl, hbd⟩
/-- a character as it is written -/
def charL (n : Int) : List UInt8 :=
  if n = 32 then [35, 92, 115, 112, 97, 99, 101] else if n = 10 then [35, 92, 110, 101, 119, 108, 105, 110, 101] else if n = 9 then [35, 92, 116, 97, 98] else if n = 0 then [35, 92, 110, 117, 108]
  else if 33 ≤ n ∧ n ≤ 126 then [35, 92] ++ [UInt8.ofNat n.toNat] else [35, 92, 120] ++ hex2 n
theorem conv_one {w : World} {g k : Nat} (hk : k < 256) (B : Blk w g [valB8 k] 5) : (convert 38 9 (.slice (some ⟨g, 0, none⟩) 1 1)).run Tryd.prog w = .ok (.string ⟨[UInt8.ofNat k].toArray⟩) w := by
  have := conv_bytes (P := Tryd.prog) (src := 38) (dst := 9) (w := w) (cap := 1) Tryd.underlying38 Tryd.underlying5 Tryd.underlying9 (B.rdm (l := [k]) encB_one)
  simpa [sB, strOfNums] using this
set_option maxHeartbeats 400000 in
theorem char_any (n : Int) (w : World) (h1 : -9223372036854775808 ≤ n) (h2 : n ≤ 9223372036854775807) :
    Calls Tryd.prog 17 #[.int .i64 n] w (Gives w fun v w' => v = .string ⟨(charL n).toArray⟩) := by
  by_cases c1 : n = 32
  · subst c1
    go_enter Tryd.func17, Tryd.ntmps17
    go_wp2
    go_ret
    exact ⟨_, rfl, rfl, Below.refl _ _⟩
  by_cases c2 : n = 10
  · subst c2
    go_enter Tryd.func17, Tryd.ntmps17
    go_wp2
    go_ret
    exact ⟨_, rfl, rfl, Below.refl _ _⟩
  by_cases c3 : n = 9
  · subst c3
    go_enter Tryd.func17, Tryd.ntmps17
    go_wp2
    go_ret
    exact ⟨_, rfl, rfl, Below.refl _ _⟩
  by_cases c4 : n = 0
  · subst c4
    go_enter Tryd.func17, Tryd.ntmps17
    go_wp2
    go_ret
    exact ⟨_, rfl, rfl, Below.refl _ _⟩
  by_cases c5 : 33 ≤ n ∧ n ≤ 126
  · obtain ⟨k, rfl⟩ : ∃ k : Nat, n = k := ⟨n.toNat, by omega⟩
    have hc : As (charL (k : Int) = [35, 92] ++ [UInt8.ofNat k]) := ⟨by rw [charL, if_neg c1, if_neg c2, if_neg c3, if_neg c4, if_pos c5]; rfl⟩
    obtain ⟨y, hy⟩ : ∃ y, y = [UInt8.ofNat k] := ⟨_, rfl⟩
    rw [← hy] at hc
    have Hy := As.mk hy
    have hyl : y.length = 1 := by rw [hy]; rfl
    have hk1 : 33 ≤ k := by omega
    have hk2 : k ≤ 126 := by omega
    have b1 : ((k : Int) == 32) = false := by simp; omega
    have b2 : ((k : Int) == 10) = false := by simp; omega
    have b3 : ((k : Int) == 9) = false := by simp; omega
    have b4 : ((k : Int) == 0) = false := by simp; omega
    clear hy c1 c2 c3 c4
    go_enter Tryd.func17, Tryd.ntmps17
    go_wp2_with (first
      | ((with_reducible refine g_dst 24 ?_); go_must (refine ev_lit (v := fun g => .slice (some ⟨g, 0, none⟩) 1 1) 24 rfl (cs := [valB8 k]) (t := 5) (by go_simp; rfl) ?_); intro g2 w2 hb2 B2 hg2; have hcv := conv_one (by omega) B2; rw [← Hy.out] at hcv)
      | ((with_reducible refine g_dst 26 ?_); go_must (refine ev_lit (v := fun g => .slice (some ⟨g, 0, none⟩) 2 2) 26 rfl (cs := [valT [35, 92], valT y]) (t := 9) (by go_simp; rfl) ?_); intro g3 w3 hb3 B3 hg3; replace hb3 := bthen hb2 hb3)
      | (go_at_call 20; (with_reducible refine (pieces2 [35, 92] y _ _ _ (B3.rdm (l := [[35, 92], y]) encT_one) (by omega) (by simp; omega)).mono ?_); rintro e w5 ⟨v5, rfl, rfl, hb5⟩))
    go_ret
    exact ⟨_, rfl, by rw [hc.out]; simp, bthen hb3 hb5⟩
  · have b1 : ((n : Int) == 32) = false := by simpa using c1
    have b2 : ((n : Int) == 10) = false := by simpa using c2
    have b3 : ((n : Int) == 9) = false := by simpa using c3
    have b4 : ((n : Int) == 0) = false := by simpa using c4
    have hc : As (charL n = [35, 92, 120] ++ hex2 n) := ⟨by rw [charL, if_neg c1, if_neg c2, if_neg c3, if_neg c4, if_neg c5]⟩
    obtain ⟨y, hy⟩ : ∃ y, y = hex2 n := ⟨_, rfl⟩
    rw [← hy] at hc
    have Hy := As.mk hy
    have hyl : y.length = 2 := by rw [hy]; rfl
    by_cases c6 : n < 33
    · have hlo : decide ((33 : Int) ≤ n) = false := by simp; omega
      clear hy c1 c2 c3 c4 c5
      go_enter Tryd.func17, Tryd.ntmps17
      go_wp2_with (first
        | (go_at_call 29; (with_reducible refine (hex_any n _).mono ?_); rintro e w2 ⟨v2, rfl, hv2, hb2⟩; rw [← Hy.out] at hv2; subst hv2)
        | ((with_reducible refine g_dst 30 ?_); go_must (refine ev_lit (v := fun g => .slice (some ⟨g, 0, none⟩) 2 2) 30 rfl (cs := [valT [35, 92, 120], valT y]) (t := 9) (by go_simp; rfl) ?_); intro g3 w3 hb3 B3 hg3; replace hb3 := bthen hb2 hb3)
        | (go_at_call 20; (with_reducible refine (pieces2 [35, 92, 120] y _ _ _ (B3.rdm (l := [[35, 92, 120], y]) encT_one) (by omega) (by simp; omega)).mono ?_); rintro e w5 ⟨v5, rfl, rfl, hb5⟩))
      go_ret
      exact ⟨_, rfl, by rw [hc.out]; simp, bthen hb3 hb5⟩
    · have hlo : (33 : Int) ≤ n := by omega
      have hhi : decide (n ≤ (126 : Int)) = false := by simp; omega
      clear hy c1 c2 c3 c4 c5
      go_enter Tryd.func17, Tryd.ntmps17
      go_wp2_with (first
        | (go_at_call 29; (with_reducible refine (hex_any n _).mono ?_); rintro e w2 ⟨v2, rfl, hv2, hb2⟩; rw [← Hy.out] at hv2; subst hv2)
        | ((with_reducible refine g_dst 30 ?_); go_must (refine ev_lit (v := fun g => .slice (some ⟨g, 0, none⟩) 2 2) 30 rfl (cs := [valT [35, 92, 120], valT y]) (t := 9) (by go_simp; rfl) ?_); intro g3 w3 hb3 B3 hg3; replace hb3 := bthen hb2 hb3)
        | (go_at_call 20; (with_reducible refine (pieces2 [35, 92, 120] y _ _ _ (B3.rdm (l := [[35, 92, 120], y]) encT_one) (by omega) (by simp; omega)).mono ?_); rintro e w5 ⟨v5, rfl, rfl, hb5⟩))
      go_ret
      exact ⟨_, rfl, by rw [hc.out]; simp, bthen hb3 hb5⟩
set_option maxHeartbeats 400000 in
theorem rchar_any (n : Int) (w : World) (h1 : -9223372036854775808 ≤ n) (h2 : n ≤ 9223372036854775807) :
    Calls Tryd.prog 23 #[.int .i64 n] w (Gives w fun v w' => v = .string ⟨(charL n).toArray⟩) := by
  by_cases c1 : n = 32
  · subst c1
    go_enter Tryd.func23, Tryd.ntmps23
    go_wp2
    go_ret
    exact ⟨_, rfl, rfl, Below.refl _ _⟩
  by_cases c2 : n = 10
  · subst c2
    go_enter Tryd.func23, Tryd.ntmps23
    go_wp2
    go_ret
    exact ⟨_, rfl, rfl, Below.refl _ _⟩
  by_cases c3 : n = 9
  · subst c3
    go_enter Tryd.func23, Tryd.ntmps23
    go_wp2
    go_ret
    exact ⟨_, rfl, rfl, Below.refl _ _⟩
  by_cases c4 : n = 0
  · subst c4
    go_enter Tryd.func23, Tryd.ntmps23
    go_wp2
    go_ret
    exact ⟨_, rfl, rfl, Below.refl _ _⟩
  by_cases c5 : 33 ≤ n ∧ n ≤ 126
  · obtain ⟨k, rfl⟩ : ∃ k : Nat, n = k := ⟨n.toNat, by omega⟩
    have hc : As (charL (k : Int) = [35, 92] ++ [UInt8.ofNat k]) := ⟨by rw [charL, if_neg c1, if_neg c2, if_neg c3, if_neg c4, if_pos c5]; rfl⟩
    obtain ⟨y, hy⟩ : ∃ y, y = [UInt8.ofNat k] := ⟨_, rfl⟩
    rw [← hy] at hc
    have Hy := As.mk hy
    have hyl : y.length = 1 := by rw [hy]; rfl
    have hk1 : 33 ≤ k := by omega
    have hk2 : k ≤ 126 := by omega
    have b1 : ((k : Int) == 32) = false := by simp; omega
    have b2 : ((k : Int) == 10) = false := by simp; omega
    have b3 : ((k : Int) == 9) = false := by simp; omega
    have b4 : ((k : Int) == 0) = false := by simp; omega
    have hadd : ∀ w : World, (Op.stringOp .add ⟨#[35, 92]⟩ ⟨y.toArray⟩).run Tryd.prog w = .ok (.string ⟨([35, 92] ++ y).toArray⟩) w := fun w => run_add_lists w [35, 92] y (by simp; omega)
    clear hy c1 c2 c3 c4
    go_enter Tryd.func23, Tryd.ntmps23
    go_wp2_with ((with_reducible refine g_dst 20 ?_); go_must (refine ev_lit (v := fun g => .slice (some ⟨g, 0, none⟩) 1 1) 20 rfl (cs := [valB8 k]) (t := 5) (by go_simp; rfl) ?_); intro g2 w2 hb2 B2 hg2; have hcv := conv_one (by omega) B2; rw [← Hy.out] at hcv)
    go_ret
    exact ⟨_, rfl, by rw [hc.out]; simp, hb2⟩
  · have b1 : ((n : Int) == 32) = false := by simpa using c1
    have b2 : ((n : Int) == 10) = false := by simpa using c2
    have b3 : ((n : Int) == 9) = false := by simpa using c3
    have b4 : ((n : Int) == 0) = false := by simpa using c4
    have hc : As (charL n = [35, 92, 120] ++ hex2 n) := ⟨by rw [charL, if_neg c1, if_neg c2, if_neg c3, if_neg c4, if_neg c5]⟩
    obtain ⟨y, hy⟩ : ∃ y, y = hex2 n := ⟨_, rfl⟩
    rw [← hy] at hc
    have Hy := As.mk hy
    have hyl : y.length = 2 := by rw [hy]; rfl
    have hadd : ∀ w : World, (Op.stringOp .add ⟨#[35, 92, 120]⟩ ⟨y.toArray⟩).run Tryd.prog w = .ok (.string ⟨([35, 92, 120] ++ y).toArray⟩) w := fun w => run_add_lists w [35, 92, 120] y (by simp; omega)
    by_cases c6 : n < 33
    · have hlo : decide ((33 : Int) ≤ n) = false := by simp; omega
      clear hy c1 c2 c3 c4 c5
      go_enter Tryd.func23, Tryd.ntmps23
      go_wp2_with (go_at_call 33; (with_reducible refine (two_any n _ h1 h2).mono ?_); rintro e w2 ⟨v2, rfl, hv2, hb2⟩; rw [← Hy.out] at hv2; subst hv2)
      go_ret
      exact ⟨_, rfl, by rw [hc.out]; simp, hb2⟩
    · have hlo : (33 : Int) ≤ n := by omega
      have hhi : decide (n ≤ (126 : Int)) = false := by simp; omega
      clear hy c1 c2 c3 c4 c5
      go_enter Tryd.func23, Tryd.ntmps23
      go_wp2_with (go_at_call 33; (with_reducible refine (two_any n _ h1 h2).mono ?_); rintro e w2 ⟨v2, rfl, hv2, hb2⟩; rw [← Hy.out] at hv2; subst hv2)
      go_ret
      exact ⟨_, rfl, by rw [hc.out]; simp, hb2⟩
end Go.Proofs.YtgeokccfobmeiaaDoor
