/- Math14 Num26 Num27, in one text. -/
import Derived.Test.YtigoofeodbbbhaaDoorMath9
import Derived.Test.YtigoofeodbbbhaaDoorMath7
import Derived.Test.YtigoofeodbbbhaaDoorNumK
import Derived.Test.YtigoofeodbbbhaaDoorLib5
import Derived.Deep.DeepCutAuto
/- Powers, as plain mathematics. -/
namespace Go.Proofs.YtigoofeodbbbhaaDoorM
set_option linter.unusedVariables false
set_option linter.unusedSimpArgs false
theorem bitN_mono {a b : Nat} (h : a ≤ b) : bitN a ≤ bitN b := by
  rcases Nat.eq_zero_or_pos a with rfl | ha
  · rw [bitN_zero]; omega
  · rcases Nat.lt_or_ge (bitN b) (bitN a) with h1 | h1
    · have h2 := bitN_lt b
      have h3 := bitN_ge a ha
      have h4 : 2 ^ bitN b ≤ 2 ^ (bitN a - 1) := Nat.pow_le_pow_right (by omega) (by omega)
      omega
    · exact h1
theorem bitN_le_iff (v k : Nat) : bitN v ≤ k ↔ v < 2 ^ k := by
  constructor
  · intro h
    exact Nat.lt_of_lt_of_le (bitN_lt v) (Nat.pow_le_pow_right (by omega) h)
  · intro h
    exact digB_len_lt 2 (by omega) k v h
theorem bitN_one : bitN 1 = 1 := bitN_unique 1 0 (by omega) (by omega)
theorem bitN_le_one (v : Nat) : bitN v ≤ 1 ↔ v ≤ 1 := by rw [bitN_le_iff]; omega
/-- what a power comes to, up to so many binary digits -/
def PW (z : Int) (n bits : Int) (q : Int) (ok : Bool) : Prop :=
  ((n < 0 ∨ bits < 0) ∧ q = 0 ∧ ok = false) ∨ (0 ≤ n ∧ 0 ≤ bits ∧ ((((bitN (z ^ n.toNat).natAbs : Nat) : Int) ≤ bits ∧ q = z ^ n.toNat ∧ ok = true) ∨ (bits < ((bitN (z ^ n.toNat).natAbs : Nat) : Int) ∧ q = 0 ∧ ok = false)))
theorem pw_ex (z n bits : Int) : ∃ q ok, PW z n bits q ok := by
  by_cases h : n < 0 ∨ bits < 0
  · exact ⟨0, false, .inl ⟨h, rfl, rfl⟩⟩
  · by_cases h2 : ((bitN (z ^ n.toNat).natAbs : Nat) : Int) ≤ bits
    · exact ⟨_, true, .inr ⟨by omega, by omega, .inl ⟨h2, rfl, rfl⟩⟩⟩
    · exact ⟨0, false, .inr ⟨by omega, by omega, .inr ⟨by omega, rfl, rfl⟩⟩⟩
theorem pw_fun {z n bits q q' : Int} {ok ok' : Bool} (h : PW z n bits q ok) (h' : PW z n bits q' ok') : q = q' ∧ ok = ok' := by
  rcases h with ⟨h1, rfl, rfl⟩ | ⟨h1, h2, ⟨h3, rfl, rfl⟩ | ⟨h3, rfl, rfl⟩⟩ <;> rcases h' with ⟨k1, rfl, rfl⟩ | ⟨k1, k2, ⟨k3, rfl, rfl⟩ | ⟨k3, rfl, rfl⟩⟩ <;> first | exact ⟨rfl, rfl⟩ | (exfalso; omega)
theorem abs_pow (z : Int) (k : Nat) : (z ^ k).natAbs = z.natAbs ^ k := Int.natAbs_pow z k
theorem pow_grows {z : Int} (hz : z ≠ 0) {k n : Nat} (h : k ≤ n) : (z ^ k).natAbs ≤ (z ^ n).natAbs := by
  rw [abs_pow, abs_pow]
  exact Nat.pow_le_pow_right (by omega) h
theorem pow_bits {z : Int} (hz : 1 < z.natAbs) (n : Nat) : n < bitN (z ^ n).natAbs := by
  rcases Nat.lt_or_ge n (bitN (z ^ n).natAbs) with h | h
  · exact h
  · have h1 := (bitN_le_iff _ _).1 h
    rw [abs_pow] at h1
    have h2 : 2 ^ n ≤ z.natAbs ^ n := Nat.pow_le_pow_left hz n
    omega
/-- 1 and -1 go round -/
theorem pow_round {z : Int} (hz : z.natAbs ≤ 1) (n : Nat) (hn : 2 < n) : z ^ n = z ^ (2 - n % 2) := by
  have hk : ∀ k, z ^ (k + 2) = z ^ k * (z * z) := fun k => by rw [Int.pow_succ, Int.pow_succ, Int.mul_assoc]
  rcases (show z = 0 ∨ z = 1 ∨ z = -1 by omega) with rfl | rfl | rfl
  · rw [Int.zero_pow (by omega), Int.zero_pow (by omega)]
  · rw [Int.one_pow, Int.one_pow]
  · have hp : ∀ m, (-1 : Int) ^ (2 * m) = 1 := fun m => by
      induction m with
      | zero => rfl
      | succ m ih => rw [show 2 * (m + 1) = 2 * m + 2 by omega, hk, ih]; rfl
    rcases Nat.mod_two_eq_zero_or_one n with h | h
    · rw [h, show n = 2 * (n / 2) by omega, hp]; rfl
    · rw [h, show n = 2 * (n / 2) + 1 by omega, Int.pow_succ, hp]; rfl
theorem pow_half (z : Int) (k : Nat) : z ^ k * z ^ k = z ^ (2 * k) := by
  rw [← Int.pow_add, show k + k = 2 * k by omega]
theorem pow_abs_one {z : Int} (hz : z.natAbs ≤ 1) (n : Nat) : (z ^ n).natAbs ≤ 1 := by
  rw [abs_pow]
  calc z.natAbs ^ n ≤ 1 ^ n := Nat.pow_le_pow_left hz n
    _ = 1 := Nat.one_pow n
end Go.Proofs.YtigoofeodbbbhaaDoorM
/- num.Power, told of numbers that are held. -/
namespace Go.Proofs.YtigoofeodbbbhaaDoor
open Go.RowKit Go.Proofs.YtigoofeodbbbhaaDoorL Go.Proofs.YtigoofeodbbbhaaDoorM
set_option linter.unusedVariables false
set_option linter.unusedSimpArgs false
section
variable {w : World} {L : List NR} {b b2 : Bool} {A A2 : Option Addr} {n c n2 c2 : Nat} {z z2 q r : Int} {K K2 : Nat} {can can2 ok : Bool}
theorem NumRes.nil (w w' : World) (K : Nat) : NumRes w 0 K true (.agg #[.bool false, .slice none 0 0]) w' :=
  ⟨false, none, 0, 0, rfl, ⟨⟨[], rfl, lim_nil w', rfl, fun _ => ⟨rfl, by rw [show (0 : Int).natAbs = 0 from rfl, digB_zero]⟩⟩, Nat.zero_le _⟩, fun k hk => (nomatch hk)⟩
theorem szeroF (F : Fs w L) (h : (⟨b, A, n, c, z, K, can⟩ : NR) ∈ L) (s : Bool) (hs : decide (z = 0) = s) :
    Calls Tryd.prog 55 #[.agg #[.slice A n c]] w (Gives w fun v _ => v = .bool s) := by
  obtain ⟨⟨l, h1, h2, h3, h4⟩, h5⟩ := F.out _ h
  simp only at h1 h2 h3 h4 h5
  subst h1
  have e : decide (valB 4294967296 l = 0) = s := by rw [← hs, ← h3]; simp [sval_zero]
  have := szero_any l A c w h2
  rw [e] at this
  exact this
theorem sbitsF (F : Fs w L) (h : (⟨b, A, n, c, z, K, can⟩ : NR) ∈ L) :
    Calls Tryd.prog 56 #[.agg #[.slice A n c]] w (Gives w fun v _ => v = .int .i64 ((bitN z.natAbs : Nat) : Int)) := by
  obtain ⟨⟨l, h1, h2, h3, h4⟩, h5⟩ := F.out _ h
  simp only at h1 h2 h3 h4 h5
  subst h1
  have e : valB 4294967296 l = z.natAbs := by rw [← h3, sval_abs]
  have := sbits_any l A c w h2
  rw [e] at this
  exact this
/-- a number that is worked at, as an answer: in memory that is new -/
def WorkRes (w : World) (z : Int) (K : Nat) (v : Value) (w' : World) : Prop := ∃ b A n c, v = .agg #[.slice A n c, .bool b] ∧ NR.Ok w' ⟨b, A, n, c, z, K, false⟩ ∧ (∀ k ∈ addrBlock A, w.heap.size ≤ k ∧ k < w'.heap.size) ∧ As (n = (digB 4294967296 z.natAbs).length)
theorem sbitsN {N : Nat} (hN : N = bitN z.natAbs) (F : Fs w L) (h : (⟨b, A, n, c, z, K, can⟩ : NR) ∈ L) :
    Calls Tryd.prog 56 #[.agg #[.slice A n c]] w (Gives w fun v _ => v = .int .i64 (N : Int)) := by
  subst hN
  exact sbitsF F h
theorem wmulF (F : Fs w L) (h : (⟨b, A, n, c, z, K, can⟩ : NR) ∈ L) (h' : (⟨b2, A2, n2, c2, z2, K2, can2⟩ : NR) ∈ L) (hK : K + K2 ≤ 274877906940) :
    Calls Tryd.prog 58 #[.agg #[.slice A n c, .bool b], .agg #[.slice A2 n2 c2, .bool b2]] w (Gives w (WorkRes w (z * z2) (K + K2))) := by
  have ho := F.out _ h
  have hs := ho.sm
  obtain ⟨⟨l, h1, h2, h3, h4⟩, h5⟩ := ho
  have ho2 := F.out _ h'
  have hs2 := ho2.sm
  obtain ⟨⟨m, k1, k2, k3, k4⟩, k5⟩ := ho2
  simp only at h1 h2 h3 h4 h5 hs k1 k2 k3 k4 k5 hs2
  subst h1 k1
  have := numMul_any l m b b2 A A2 c c2 w h2 k2 (by omega)
  rw [h3, k3] at this
  refine this.mono ?_
  rintro e w' ⟨v, rfl, ⟨m', nb, N, rfl, ho, hz⟩, hb⟩
  have hN : N < 4294967296 ^ (K + K2) := by
    have h9 := hs.mul hs2
    unfold Sm at h9
    rw [← hz, sval_abs] at h9
    exact h9
  have hl := digB_len_lt 4294967296 (by omega) (K + K2) N hN
  obtain ⟨A9, c9, rfl, g1, g2⟩ := ho.form
  refine ⟨_, rfl, ⟨nb, A9, _, c9, rfl, ⟨⟨_, rfl, ⟨ho.rd lenU, digB_lt _ (by omega) _, g1, ho.none, by omega⟩, by rw [digB_val _ (by omega)]; exact hz, fun h => (nomatch h)⟩, hl⟩, fun k hk => ⟨own_block_ge ho k hk, own_block_lt ho k hk⟩, ⟨by rw [← hz, sval_abs]⟩⟩, hb⟩
theorem toldF (F : Fs w L) (h : (⟨b, A, n, c, z, K, can⟩ : NR) ∈ L) (hK : K ≤ 274877906940) :
    Calls Tryd.prog 48 #[.agg #[.slice A n c, .bool b]] w (Gives w (NumRes w z K true)) := by
  have ho := F.out _ h
  have hs := ho.sm
  obtain ⟨⟨l, h1, h2, h3, h4⟩, h5⟩ := ho
  simp only at h1 h2 h3 h4 h5 hs
  subst h1
  have := told_any l b A c w h2
  rw [h3] at this
  refine this.mono ?_
  rintro e w' ⟨v, rfl, ht, hb⟩
  exact ⟨_, rfl, NumRes.of ht hs (by omega), hb⟩
set_option maxRecDepth 8000 in
set_option maxHeartbeats 4000000 in
theorem powN_go {e B : Int} (F0 : Fs w [⟨b, A, n, c, z, K, can⟩]) (h : e < 0) :
    Calls Tryd.prog 37 #[.agg #[.bool b, .slice A n c], .int .i64 e, .int .i64 B] w (Gives w fun v w' => ∃ qv, v = .tuple #[qv, .bool false] ∧ NumRes w (0) 626 true qv w') := by
  have HZ := As.mk (rfl : decide (z = 0) = decide (z = 0))
  have h1 : decide (e < 0) = true := by simpa using h
  have h2 : decide (0 ≤ e) = false := by simp; omega
  have h3 : decide (e ≥ 0) = false := by simp; omega
  go_enter Tryd.func37, Tryd.ntmps37
  go_wp2_with (first
    | ((with_reducible refine g_dst 3 ?_); go_must (refine ev_box 3 rfl (cs := [.bool b, .slice A n c]) (by rfl) ?_); intro g3 wn hb3 B3 hg3; have C3 := B3.cells; have hb := hb3)
    | ((with_reducible refine g_dst 6 ?_); go_must (refine ev_alloc 6 rfl infoNum (cs := [.bool false, .slice none 0 0]) rfl ?_); intro g6 wn hb6 B6 hgn; have hg6 := Nat.le_trans hb.size hgn; replace B3 := B3.below hb6; replace C3 := B3.cells; replace hb := bthen hb hb6)
    | (go_at_call 47; (with_reducible refine (numOf_any b A n c _).mono ?_); rintro e wn ⟨vn, rfl, rfl, hbn⟩; clear C3 B3 hb3 hb6 hg3; replace B6 := B6.below hbn; replace hb := bthen hb hbn; clear hbn)
    | ((with_reducible refine g_dst 8 ?_); go_must (refine ev_alloc 8 rfl infoNm (cs := [.slice none 0 0, .bool false]) rfl ?_); intro g8 wn hb8 B8 hgn; have hneb8_6 : g8 ≠ g6 := (fun e => by (have h1 := B6.lt; omega)); have hg8 := Nat.le_trans hb.size hgn; replace B6 := B6.below hb8; replace hb := bthen hb hb8)
    | ((with_reducible refine g_store 8 ?_); go_must (refine ev_store rfl rfl B8 (news := [.slice A n c, .bool b]) (by rfl) infoNm (by simp) (by simp [Value.oneCell']) ?_); intro wn hon Bn; simp only [List.take_zero, List.nil_append, List.length_cons, List.length_nil, List.drop_succ_cons, List.drop_zero, List.append_nil, List.cons_append] at Bn; replace B6 := B6.only hon (Ne.symm hneb8_6); replace B8 := Bn; clear Bn; replace hb := hb.trans (hon.below hg8); clear hon; have C8 := B8.cells)
    | (go_at_call 55; (with_reducible refine (szeroF (F0.below hb) (by repeat (first | exact List.mem_cons_self .. | apply List.mem_cons_of_mem)) (decide (z = 0)) HZ.out).mono ?_); rintro e wn ⟨vn, rfl, rfl, hbn⟩; clear C8; replace B6 := B6.below hbn; replace B8 := B8.below hbn; have C8 := B8.cells; replace hb := bthen hb hbn; clear hbn)
    | ((with_reducible refine g_store 6 ?_); go_must (refine ev_store rfl rfl B6 (news := [.bool false, .slice none 0 0]) (by first | rfl | (go_simp; try rfl)) infoNum (by simp) (by simp [Value.oneCell']) ?_); intro wn hon Bn; simp only [List.take_zero, List.nil_append, List.length_cons, List.length_nil, List.drop_succ_cons, List.drop_zero, List.append_nil, List.cons_append] at Bn; replace B6 := Bn; clear Bn; replace hb := hb.trans (hon.below hg6); clear hon))
  refine bodyPost_ret (results_ct rfl _ _ g6 26 #[.bool false, .slice none 0 0] (0, 0) _ rfl B6.h Tryd.underlying26 rfl (by kernel_rfl)) rfl ?_
  exact ⟨_, rfl, ⟨_, rfl, NumRes.nil _ _ _⟩, hb⟩
set_option maxRecDepth 8000 in
set_option maxHeartbeats 4000000 in
theorem powB_go {e B : Int} (F0 : Fs w [⟨b, A, n, c, z, K, can⟩]) (h : 0 ≤ e) (hB : B < 0) :
    Calls Tryd.prog 37 #[.agg #[.bool b, .slice A n c], .int .i64 e, .int .i64 B] w (Gives w fun v w' => ∃ qv, v = .tuple #[qv, .bool false] ∧ NumRes w (0) 626 true qv w') := by
  have HZ := As.mk (rfl : decide (z = 0) = decide (z = 0))
  have h1 : decide (e < 0) = false := by simp; omega
  have h2 : decide (B < 0) = true := by simpa using hB
  have h3 : decide (0 ≤ B) = false := by simp; omega
  have h4 : decide (B ≥ 0) = false := by simp; omega
  go_enter Tryd.func37, Tryd.ntmps37
  go_wp2_with (first
    | ((with_reducible refine g_dst 3 ?_); go_must (refine ev_box 3 rfl (cs := [.bool b, .slice A n c]) (by rfl) ?_); intro g3 wn hb3 B3 hg3; have C3 := B3.cells; have hb := hb3)
    | ((with_reducible refine g_dst 6 ?_); go_must (refine ev_alloc 6 rfl infoNum (cs := [.bool false, .slice none 0 0]) rfl ?_); intro g6 wn hb6 B6 hgn; have hg6 := Nat.le_trans hb.size hgn; replace B3 := B3.below hb6; replace C3 := B3.cells; replace hb := bthen hb hb6)
    | (go_at_call 47; (with_reducible refine (numOf_any b A n c _).mono ?_); rintro e wn ⟨vn, rfl, rfl, hbn⟩; clear C3 B3 hb3 hb6 hg3; replace B6 := B6.below hbn; replace hb := bthen hb hbn; clear hbn)
    | ((with_reducible refine g_dst 8 ?_); go_must (refine ev_alloc 8 rfl infoNm (cs := [.slice none 0 0, .bool false]) rfl ?_); intro g8 wn hb8 B8 hgn; have hneb8_6 : g8 ≠ g6 := (fun e => by (have h1 := B6.lt; omega)); have hg8 := Nat.le_trans hb.size hgn; replace B6 := B6.below hb8; replace hb := bthen hb hb8)
    | ((with_reducible refine g_store 8 ?_); go_must (refine ev_store rfl rfl B8 (news := [.slice A n c, .bool b]) (by rfl) infoNm (by simp) (by simp [Value.oneCell']) ?_); intro wn hon Bn; simp only [List.take_zero, List.nil_append, List.length_cons, List.length_nil, List.drop_succ_cons, List.drop_zero, List.append_nil, List.cons_append] at Bn; replace B6 := B6.only hon (Ne.symm hneb8_6); replace B8 := Bn; clear Bn; replace hb := hb.trans (hon.below hg8); clear hon; have C8 := B8.cells)
    | (go_at_call 55; (with_reducible refine (szeroF (F0.below hb) (by repeat (first | exact List.mem_cons_self .. | apply List.mem_cons_of_mem)) (decide (z = 0)) HZ.out).mono ?_); rintro e wn ⟨vn, rfl, rfl, hbn⟩; clear C8; replace B6 := B6.below hbn; replace B8 := B8.below hbn; have C8 := B8.cells; replace hb := bthen hb hbn; clear hbn)
    | ((with_reducible refine g_store 6 ?_); go_must (refine ev_store rfl rfl B6 (news := [.bool false, .slice none 0 0]) (by first | rfl | (go_simp; try rfl)) infoNum (by simp) (by simp [Value.oneCell']) ?_); intro wn hon Bn; simp only [List.take_zero, List.nil_append, List.length_cons, List.length_nil, List.drop_succ_cons, List.drop_zero, List.append_nil, List.cons_append] at Bn; replace B6 := Bn; clear Bn; replace hb := hb.trans (hon.below hg6); clear hon))
  refine bodyPost_ret (results_ct rfl _ _ g6 26 #[.bool false, .slice none 0 0] (0, 0) _ rfl B6.h Tryd.underlying26 rfl (by kernel_rfl)) rfl ?_
  exact ⟨_, rfl, ⟨_, rfl, NumRes.nil _ _ _⟩, hb⟩
set_option maxRecDepth 8000 in
set_option maxHeartbeats 4000000 in
theorem powZ_go {e B : Int} (F0 : Fs w [⟨b, A, n, c, z, K, can⟩]) (h : 0 < e) (hB : 0 ≤ B) (hz : z = 0) :
    Calls Tryd.prog 37 #[.agg #[.bool b, .slice A n c], .int .i64 e, .int .i64 B] w (Gives w fun v w' => ∃ qv, v = .tuple #[qv, .bool true] ∧ NumRes w (0) 626 true qv w') := by
  have HZ : As (decide (z = 0) = true) := ⟨by simpa using hz⟩
  have h1 : decide (e < 0) = false := by simp; omega
  have h2 : decide (B < 0) = false := by simp; omega
  have h3 : decide (0 < e) = true := by simpa using h
  have h4 : decide (e > 0) = true := by simpa using h
  clear hz
  go_enter Tryd.func37, Tryd.ntmps37
  go_wp2_with (first
    | ((with_reducible refine g_dst 3 ?_); go_must (refine ev_box 3 rfl (cs := [.bool b, .slice A n c]) (by rfl) ?_); intro g3 wn hb3 B3 hg3; have C3 := B3.cells; have hb := hb3)
    | ((with_reducible refine g_dst 6 ?_); go_must (refine ev_alloc 6 rfl infoNum (cs := [.bool false, .slice none 0 0]) rfl ?_); intro g6 wn hb6 B6 hgn; have hg6 := Nat.le_trans hb.size hgn; replace B3 := B3.below hb6; replace C3 := B3.cells; replace hb := bthen hb hb6)
    | (go_at_call 47; (with_reducible refine (numOf_any b A n c _).mono ?_); rintro e wn ⟨vn, rfl, rfl, hbn⟩; clear C3 B3 hb3 hb6 hg3; replace B6 := B6.below hbn; replace hb := bthen hb hbn; clear hbn)
    | ((with_reducible refine g_dst 8 ?_); go_must (refine ev_alloc 8 rfl infoNm (cs := [.slice none 0 0, .bool false]) rfl ?_); intro g8 wn hb8 B8 hgn; have hneb8_6 : g8 ≠ g6 := (fun e => by (have h1 := B6.lt; omega)); have hg8 := Nat.le_trans hb.size hgn; replace B6 := B6.below hb8; replace hb := bthen hb hb8)
    | ((with_reducible refine g_store 8 ?_); go_must (refine ev_store rfl rfl B8 (news := [.slice A n c, .bool b]) (by rfl) infoNm (by simp) (by simp [Value.oneCell']) ?_); intro wn hon Bn; simp only [List.take_zero, List.nil_append, List.length_cons, List.length_nil, List.drop_succ_cons, List.drop_zero, List.append_nil, List.cons_append] at Bn; replace B6 := B6.only hon (Ne.symm hneb8_6); replace B8 := Bn; clear Bn; replace hb := hb.trans (hon.below hg8); clear hon; have C8 := B8.cells)
    | (go_at_call 55; (with_reducible refine (szeroF (F0.below hb) (by repeat (first | exact List.mem_cons_self .. | apply List.mem_cons_of_mem)) true HZ.out).mono ?_); rintro e wn ⟨vn, rfl, rfl, hbn⟩; clear C8; replace B6 := B6.below hbn; replace B8 := B8.below hbn; have C8 := B8.cells; replace hb := bthen hb hbn; clear hbn)
    | ((with_reducible refine g_store 6 ?_); go_must (refine ev_store rfl rfl B6 (news := [.bool false, .slice none 0 0]) (by first | rfl | (go_simp; try rfl)) infoNum (by simp) (by simp [Value.oneCell']) ?_); intro wn hon Bn; simp only [List.take_zero, List.nil_append, List.length_cons, List.length_nil, List.drop_succ_cons, List.drop_zero, List.append_nil, List.cons_append] at Bn; replace B6 := Bn; clear Bn; replace hb := hb.trans (hon.below hg6); clear hon))
  refine bodyPost_ret (results_ct rfl _ _ g6 26 #[.bool false, .slice none 0 0] (0, 0) _ rfl B6.h Tryd.underlying26 rfl (by kernel_rfl)) rfl ?_
  exact ⟨_, rfl, ⟨_, rfl, NumRes.nil _ _ _⟩, hb⟩
set_option maxRecDepth 8000 in
set_option maxHeartbeats 4000000 in
theorem powT_go {e B : Int} (F0 : Fs w [⟨b, A, n, c, z, K, can⟩]) (h : 0 ≤ e) (hB : 0 ≤ B) (hz : 1 < z.natAbs) (hle : B ≤ e) :
    Calls Tryd.prog 37 #[.agg #[.bool b, .slice A n c], .int .i64 e, .int .i64 B] w (Gives w fun v w' => ∃ qv, v = .tuple #[qv, .bool false] ∧ NumRes w (0) 626 true qv w') := by
  have HZ : As (decide (z = 0) = false) := ⟨by simp; omega⟩
  have HB : As (1 < bitN z.natAbs) := ⟨by
    have := bitN_le_one z.natAbs
    omega⟩
  obtain ⟨N, hN⟩ : ∃ N, N = bitN z.natAbs := ⟨_, rfl⟩
  rw [← hN] at HB
  have HN := As.mk hN
  clear hN
  have h1 : decide (e < 0) = false := by simp; omega
  have h2 : decide (B < 0) = false := by simp; omega
  have h5 : decide ((N : Int) ≤ 1) = false := by have := HB.out; simp; omega
  have h6 : decide ((N : Int) > 1) = true := by have := HB.out; simp; omega
  have h7 : decide ((1 : Int) < N) = true := by have := HB.out; simp; omega
  have h8 : decide (B ≤ e) = true := by simpa using hle
  have h9 : decide (e ≥ B) = true := by simpa using hle
  clear hz
  go_enter Tryd.func37, Tryd.ntmps37
  go_wp2_with (first
    | ((with_reducible refine g_dst 3 ?_); go_must (refine ev_box 3 rfl (cs := [.bool b, .slice A n c]) (by rfl) ?_); intro g3 wn hb3 B3 hg3; have C3 := B3.cells; have hb := hb3)
    | ((with_reducible refine g_dst 6 ?_); go_must (refine ev_alloc 6 rfl infoNum (cs := [.bool false, .slice none 0 0]) rfl ?_); intro g6 wn hb6 B6 hgn; have hg6 := Nat.le_trans hb.size hgn; replace B3 := B3.below hb6; replace C3 := B3.cells; replace hb := bthen hb hb6)
    | (go_at_call 47; (with_reducible refine (numOf_any b A n c _).mono ?_); rintro e wn ⟨vn, rfl, rfl, hbn⟩; clear C3 B3 hb3 hb6 hg3; replace B6 := B6.below hbn; replace hb := bthen hb hbn; clear hbn)
    | ((with_reducible refine g_dst 8 ?_); go_must (refine ev_alloc 8 rfl infoNm (cs := [.slice none 0 0, .bool false]) rfl ?_); intro g8 wn hb8 B8 hgn; have hneb8_6 : g8 ≠ g6 := (fun e => by (have h1 := B6.lt; omega)); have hg8 := Nat.le_trans hb.size hgn; replace B6 := B6.below hb8; replace hb := bthen hb hb8)
    | ((with_reducible refine g_store 8 ?_); go_must (refine ev_store rfl rfl B8 (news := [.slice A n c, .bool b]) (by rfl) infoNm (by simp) (by simp [Value.oneCell']) ?_); intro wn hon Bn; simp only [List.take_zero, List.nil_append, List.length_cons, List.length_nil, List.drop_succ_cons, List.drop_zero, List.append_nil, List.cons_append] at Bn; replace B6 := B6.only hon (Ne.symm hneb8_6); replace B8 := Bn; clear Bn; replace hb := hb.trans (hon.below hg8); clear hon; have C8 := B8.cells)
    | (go_at_call 55; (with_reducible refine (szeroF (F0.below hb) (by repeat (first | exact List.mem_cons_self .. | apply List.mem_cons_of_mem)) false HZ.out).mono ?_); rintro e wn ⟨vn, rfl, rfl, hbn⟩; clear C8; replace B6 := B6.below hbn; replace B8 := B8.below hbn; have C8 := B8.cells; replace hb := bthen hb hbn; clear hbn)
    | (go_at_call 56; (with_reducible refine (sbitsN HN.out (F0.below hb) (by repeat (first | exact List.mem_cons_self .. | apply List.mem_cons_of_mem))).mono ?_); rintro e' wn ⟨vn, rfl, rfl, hbn⟩; clear C8; replace B6 := B6.below hbn; replace B8 := B8.below hbn; have C8 := B8.cells; replace hb := bthen hb hbn; clear hbn)
    | ((with_reducible refine g_store 6 ?_); go_must (refine ev_store rfl rfl B6 (news := [.bool false, .slice none 0 0]) (by first | rfl | (go_simp; try rfl)) infoNum (by simp) (by simp [Value.oneCell']) ?_); intro wn hon Bn; simp only [List.take_zero, List.nil_append, List.length_cons, List.length_nil, List.drop_succ_cons, List.drop_zero, List.append_nil, List.cons_append] at Bn; replace B6 := Bn; clear Bn; replace hb := hb.trans (hon.below hg6); clear hon))
  refine bodyPost_ret (results_ct rfl _ _ g6 26 #[.bool false, .slice none 0 0] (0, 0) _ rfl B6.h Tryd.underlying26 rfl (by kernel_rfl)) rfl ?_
  exact ⟨_, rfl, ⟨_, rfl, NumRes.nil _ _ _⟩, hb⟩
end
end Go.Proofs.YtigoofeodbbbhaaDoor
/- num.Power: its loop. -/
namespace Go.Proofs.YtigoofeodbbbhaaDoor
open Go.RowKit Go.Proofs.YtigoofeodbbbhaaDoorL Go.Proofs.YtigoofeodbbbhaaDoorM
set_option linter.unusedVariables false
set_option linter.unusedSimpArgs false
theorem len_of_bits (v k : Nat) (h : bitN v ≤ 32 * k) : (digB 4294967296 v).length ≤ k := by
  refine digB_len_lt _ (by omega) k v ?_
  have h1 := (bitN_le_iff _ _).1 h
  rw [Nat.pow_mul] at h1
  exact h1
theorem and_one_i64 (D : Nat) (h : D < 9223372036854775808) : bits BinOp.and IntKind.i64 (D : Int) 1 = ((D % 2 : Nat) : Int) := by
  have h1 : (BitVec.ofInt 64 1).toNat = 2 ^ 1 - 1 := by decide
  have key : (BitVec.ofInt 64 (D : Int) &&& BitVec.ofInt 64 1).toNat = (((D : Int)) % ((2 ^ 64 : Nat) : Int)).toNat % 2 ^ 1 := by
    rw [BitVec.toNat_and, BitVec.toNat_ofInt, h1, Nat.and_two_pow_sub_one_eq_mod]
  show IntKind.i64.wrap ((BitVec.ofInt 64 (D : Int) &&& BitVec.ofInt 64 1).toNat : Nat) = ((D % 2 : Nat) : Int)
  rw [key, IntKind.wrap_i64]
  omega
theorem NR.Ok.loose {w : World} {r : NR} (h : r.Ok w) {z' : Int} {K' : Nat} (hz : r.z = z') (hK : r.n ≤ K') : NR.Ok w ⟨r.b, r.A, r.n, r.c, z', K', false⟩ := by
  obtain ⟨l, h1, h2, h3, h4⟩ := h.ex
  exact ⟨⟨l, h1, h2, h3.trans hz, fun h => (nomatch h)⟩, hK⟩
section
variable {w : World} {L : List NR} {b b2 : Bool} {A A2 : Option Addr} {n c n2 c2 : Nat} {z z2 q r : Int} {K K2 : Nat} {can can2 ok : Bool}
set_option maxRecDepth 8000 in
set_option maxHeartbeats 4000000 in
theorem powD_go {e B : Int} {N : Nat} (F0 : Fs w [⟨b, A, n, c, z, K, can⟩]) (he : e = (N : Int)) (hz : 1 < z.natAbs) (hlt : (N : Int) < B) (hK : K ≤ 274877900000) (hB : 0 ≤ B) (hB2 : B ≤ 20000) (HN63 : As (N < 9223372036854775808)) (HMON : As (∀ k, k ≤ N → bitN (z ^ k).natAbs ≤ bitN (z ^ N).natAbs)) (HRES : As ((((bitN (z ^ N).natAbs : Nat) : Int) ≤ B → (∀ v w', NumRes w (z ^ N) 626 true v w' → NumRes w q 626 true v w') ∧ ok = true) ∧ (B < ((bitN (z ^ N).natAbs : Nat) : Int) → q = 0 ∧ ok = false))) :
    Calls Tryd.prog 37 #[.agg #[.bool b, .slice A n c], .int .i64 e, .int .i64 B] w (Gives w fun v w' => ∃ qv, v = .tuple #[qv, .bool ok] ∧ NumRes w (q) 626 true qv w') := by
  subst he
  have HZ : As (decide (z = 0) = false) := ⟨by simp; omega⟩
  have HB : As (1 < bitN z.natAbs) := ⟨by
    have := bitN_le_one z.natAbs
    omega⟩
  obtain ⟨Z, hZ⟩ : ∃ Z, Z = bitN z.natAbs := ⟨_, rfl⟩
  rw [← hZ] at HB
  have HN := As.mk hZ
  clear hZ
  have h2 : decide (B < 0) = false := by simp; omega
  have h1 : decide ((N : Int) < 0) = false := by simp
  have h5 : decide ((Z : Int) ≤ 1) = false := by have := HB.out; simp; omega
  have h6 : decide ((Z : Int) > 1) = true := by have := HB.out; simp; omega
  have h7 : decide ((1 : Int) < Z) = true := by have := HB.out; simp; omega
  have h8 : decide (B ≤ (N : Int)) = false := by simp; omega
  have h9 : decide ((N : Int) ≥ B) = false := by simp; omega
  clear hz hlt
  go_enter Tryd.func37, Tryd.ntmps37
  go_wp2_with (first
    | ((with_reducible refine g_dst 3 ?_); go_must (refine ev_box 3 rfl (cs := [.bool b, .slice A n c]) (by rfl) ?_); intro g3 wn hb3 B3 hg3; have C3 := B3.cells; have hb := hb3)
    | ((with_reducible refine g_dst 6 ?_); go_must (refine ev_alloc 6 rfl infoNum (cs := [.bool false, .slice none 0 0]) rfl ?_); intro g6 wn hb6 B6 hgn; have hg6 := Nat.le_trans hb.size hgn; replace B3 := B3.below hb6; replace C3 := B3.cells; replace hb := bthen hb hb6)
    | (go_at_call 47; (with_reducible refine (numOf_any b A n c _).mono ?_); rintro e wn ⟨vn, rfl, rfl, hbn⟩; clear C3 B3 hb3 hb6 hg3; replace B6 := B6.below hbn; replace hb := bthen hb hbn; clear hbn)
    | ((with_reducible refine g_dst 8 ?_); go_must (refine ev_alloc 8 rfl infoNm (cs := [.slice none 0 0, .bool false]) rfl ?_); intro g8 wn hb8 B8 hgn; have hneb8_6 : g8 ≠ g6 := (fun e => by (have h1 := B6.lt; omega)); have hg8 := Nat.le_trans hb.size hgn; replace B6 := B6.below hb8; replace hb := bthen hb hb8)
    | ((with_reducible refine g_store 8 ?_); go_must (refine ev_store rfl rfl B8 (news := [.slice A n c, .bool b]) (by rfl) infoNm (by simp) (by simp [Value.oneCell']) ?_); intro wn hon Bn; simp only [List.take_zero, List.nil_append, List.length_cons, List.length_nil, List.drop_succ_cons, List.drop_zero, List.append_nil, List.cons_append] at Bn; replace B6 := B6.only hon (Ne.symm hneb8_6); replace B8 := Bn; clear Bn; replace hb := hb.trans (hon.below hg8); clear hon; have C8 := B8.cells)
    | (go_at_call 55; (with_reducible refine (szeroF (F0.below hb) (by repeat (first | exact List.mem_cons_self .. | apply List.mem_cons_of_mem)) false HZ.out).mono ?_); rintro e wn ⟨vn, rfl, rfl, hbn⟩; clear C8; replace B6 := B6.below hbn; replace B8 := B8.below hbn; have C8 := B8.cells; replace hb := bthen hb hbn; clear hbn)
    | (go_at_call 56; (with_reducible refine (sbitsN HN.out (F0.below hb) (by repeat (first | exact List.mem_cons_self .. | apply List.mem_cons_of_mem))).mono ?_); rintro e' wn ⟨vn, rfl, rfl, hbn⟩; clear C8; replace B6 := B6.below hbn; replace B8 := B8.below hbn; have C8 := B8.cells; replace hb := bthen hb hbn; clear hbn)
    | (go_at_call 27; (with_reducible refine (ofF 1 (by omega) (by omega)).mono ?_); rintro e' wn ⟨vn, rfl, ⟨b9, A9, n9, c9, rfl, o9, f9⟩, hbn⟩; replace f9 := (fun k hk => (f9 k hk).2); clear C8; replace B6 := B6.below hbn; replace B8 := B8.below hbn; replace hb := bthen hb hbn; clear hbn)
    | (go_at_call 47; (with_reducible refine (numOf_any b9 A9 n9 c9 _).mono ?_); rintro e' wn ⟨vn, rfl, rfl, hbn⟩; replace f9 := (fun k hk => Nat.lt_of_lt_of_le (f9 k hk) hbn.size); replace B6 := B6.below hbn; replace B8 := B8.below hbn; replace o9 := o9.below hbn; replace hb := bthen hb hbn; clear hbn)
    | ((with_reducible refine g_dst 9 ?_); go_must (refine ev_alloc 9 rfl infoNm (cs := [.slice none 0 0, .bool false]) rfl ?_); intro g9 wn hb9 B9 hgn; have hneb9_6 : g9 ≠ g6 := (fun e => by (have h1 := B6.lt; omega)); have hneb9_8 : g9 ≠ g8 := (fun e => by (have h1 := B8.lt; omega)); have hne9 : ∀ k ∈ addrBlock A9, k ≠ g9 := (fun k hk e => by (have h1 := f9 k hk; omega)); clear f9; have hg9 := Nat.le_trans hb.size hgn; replace B6 := B6.below hb9; replace B8 := B8.below hb9; replace o9 := o9.below hb9; replace hb := bthen hb hb9)
    | ((with_reducible refine g_store 9 ?_); go_must (refine ev_store rfl rfl B9 (news := [.slice A9 n9 c9, .bool b9]) (by rfl) infoNm (by simp) (by simp [Value.oneCell']) ?_); intro wn hon Bn; simp only [List.take_zero, List.nil_append, List.length_cons, List.length_nil, List.drop_succ_cons, List.drop_zero, List.append_nil, List.cons_append] at Bn; replace B6 := B6.only hon (Ne.symm hneb9_6); replace B8 := B8.only hon (Ne.symm hneb9_8); replace B9 := Bn; clear Bn; replace o9 := o9.only hon hne9; replace hb := hb.trans (hon.below hg9); clear hon; have C8 := B8.cells))
  obtain ⟨KP, hKP⟩ : ∃ KP, KP = K + 1300 := ⟨_, rfl⟩
  go_loopw [10] (fun i wr => ∃ (j k : Nat) (v : Int) (b9 : Bool) (A9 : Option Addr) (n9 c9 : Nat), i = .int .i64 v ∧ v = (j : Int) - 1 ∧ j ≤ 63 ∧ k ≤ N ∧ As (((bitN (z ^ k).natAbs : Nat) : Int) ≤ B → k = N / 2 ^ j) ∧ Below w.heap.size w wr ∧ Blk wr g6 [.bool false, .slice none 0 0] 26 ∧ Blk wr g8 [.slice A n c, .bool b] 52 ∧ Blk wr g9 [.slice A9 n9 c9, .bool b9] 52 ∧ NR.Ok wr ⟨b9, A9, n9, c9, z ^ k, KP, false⟩ ∧ As (n9 = (digB 4294967296 (z ^ k).natAbs).length)) (fun i _ => (intOf i + 1).toNat)
  case atStart => exact ⟨63, 0, 62, b9, A9, n9, c9, rfl, by omega, by omega, Nat.zero_le _, ⟨fun _ => (Nat.div_eq_of_lt HN63.out).symm⟩, hb, B6, B8, B9, o9.loose (by simp) (by have := o9.le; simp only at this ⊢; omega), ⟨by
    obtain ⟨l, h1, _, _, h4⟩ := o9.ex
    have := (h4 rfl).2
    simp only at h1 this
    rw [← h1, this]; simp⟩⟩
  case round =>
    clear B6 B8 B9 hb o9 C8
    obtain ⟨j, k, v, b9, A9, n9, c9, rfl, hv, hj, hk, hkj, hb, B6, B8, B9, o9, hn9⟩ := hrel
    obtain ⟨X, hX⟩ : ∃ X, X = bitN (z ^ k).natAbs := ⟨_, rfl⟩
    rw [← hX] at hkj
    have HX := As.mk hX
    clear hX
    have C9 := B9.cells
    have C8 := B8.cells
    by_cases hxb : (X : Int) ≤ B
    · obtain rfl := hkj.out hxb
      have x1 : decide ((X : Int) ≤ B) = true := by simpa using hxb
      have x2 : decide (B < (X : Int)) = false := by simp; omega
      have x3 : decide ((X : Int) > B) = false := by simp; omega
      have hl9 : n9 ≤ 626 := by rw [hn9.out]; exact len_of_bits _ _ (by rw [← HX.out]; omega)
      rcases j with _ | m
      · obtain rfl : v = -1 := by omega
        have HP : As (z ^ (N / 2 ^ 0) = z ^ N) := ⟨by rw [Nat.pow_zero, Nat.div_one]⟩
        rw [HP.out] at o9
        have hXe := HX.out
        rw [HP.out] at hXe
        have HX2 := As.mk hXe
        clear hv hj hk hkj hxb hXe HP hn9 HX
        obtain ⟨HR1, rfl⟩ := HRES.out.1 (by rw [← HX2.out]; simpa using x1)
        have HR := As.mk HR1
        clear HR1
        go_wp2_with (first
          | (go_at_call 56; (with_reducible refine (sbitsN HX2.out ((Fs.nil _).cons o9) (by repeat (first | exact List.mem_cons_self .. | apply List.mem_cons_of_mem))).mono ?_); rintro e' wn ⟨vn, rfl, rfl, hbn⟩; clear C9 C8; replace B6 := B6.below hbn; replace B8 := B8.below hbn; replace B9 := B9.below hbn; replace o9 := o9.below hbn; have C9 := B9.cells; have C8 := B8.cells; replace hb := bthen hb hbn; clear hbn)
          | (go_at_call 48; (with_reducible refine (toldF ((Fs.nil _).cons (o9.loose (z' := z ^ N) (K' := 626) rfl hl9)) (by repeat (first | exact List.mem_cons_self .. | apply List.mem_cons_of_mem)) (by omega)).mono ?_); rintro e' wn ⟨vn, rfl, ⟨b20, A20, n20, c20, rfl, o20, f20⟩, hbn⟩; clear C9; have hne20 : ∀ k ∈ addrBlock A20, k ≠ g6 := (fun k hk e => by (have h1 := (f20 k hk).1; have h2 := B6.lt; omega)); have hge20 : ∀ k ∈ addrBlock A20, w.heap.size ≤ k := (fun k hk => Nat.le_trans hb.size (f20 k hk).1); replace B6 := B6.below hbn; replace hb := bthen hb hbn; clear hbn)
          | ((with_reducible refine g_store 6 ?_); go_must (refine ev_store rfl rfl B6 (news := [.bool b20, .slice A20 n20 c20]) (by rfl) infoNum (by simp) (by simp [Value.oneCell']) ?_); intro wn hon Bn; simp only [List.take_zero, List.nil_append, List.length_cons, List.length_nil, List.drop_succ_cons, List.drop_zero, List.append_nil, List.cons_append] at Bn; replace B6 := Bn; clear Bn; replace o20 := o20.only hon hne20; have hlt20 : ∀ k ∈ addrBlock A20, k < _ := (fun k hk => Nat.lt_of_lt_of_eq (f20 k hk).2 hon.size.symm); replace hb := hb.trans (hon.below hg6); clear hon))
        refine bodyPost_ret (results_ct rfl _ _ g6 26 #[.bool b20, .slice A20 n20 c20] (0, 0) _ rfl B6.h Tryd.underlying26 rfl (by kernel_rfl)) rfl ?_
        exact ⟨_, rfl, ⟨_, rfl, HR.out _ _ ⟨_, _, _, _, rfl, o20, fun k hk => ⟨hge20 k hk, hlt20 k hk⟩⟩⟩, hb⟩
      · obtain rfl : v = (m : Int) := by omega
        obtain ⟨D, hD⟩ : ∃ D, D = N / 2 ^ m := ⟨_, rfl⟩
        obtain ⟨k, hk'⟩ : ∃ k, k = N / 2 ^ (m + 1) := ⟨_, rfl⟩
        have hkD : k = D / 2 := by rw [hk', hD, Nat.pow_succ, Nat.div_div_eq_div_mul]
        rw [← hk'] at hk HX hn9 o9
        have hDN : D ≤ N := by rw [hD]; exact Nat.div_le_self _ _
        have hD63 : D < 9223372036854775808 := Nat.lt_of_le_of_lt hDN HN63.out
        have hsh : (N : Int) / 2 ^ min m 64 = (D : Int) := by rw [Nat.min_eq_left (by omega), hD]; simp
        have hmt : ((m : Int)).toNat = m := by simp
        obtain ⟨X2, hX2⟩ : ∃ X2, X2 = bitN (z ^ k * z ^ k).natAbs := ⟨_, rfl⟩
        have HX2 := As.mk hX2
        have HD := As.mk hD
        have HkD := As.mk hkD
        have Hk := As.mk hk'
        clear hX2 hD hkD hk' hv hxb hkj
        have hbits : bits BinOp.and IntKind.i64 ((N : Int) / 2 ^ m) 1 = ((D % 2 : Nat) : Int) := by
          rw [show (N : Int) / 2 ^ m = (D : Int) by rw [HD.out]; simp]
          exact and_one_i64 D (by omega)
        have hBl : ¬ B < 0 := by omega
        rcases Nat.mod_two_eq_zero_or_one D with hd2 | hd2
        · rw [hd2] at hbits
          have hkk : As (2 * k = D) := ⟨by have := HkD.out; omega⟩
          clear hsh hmt HX2 hD63 hd2
          go_wp2_with (first
          | (go_at_call 56; (with_reducible refine (sbitsN HX.out ((Fs.nil _).cons o9) (by repeat (first | exact List.mem_cons_self .. | apply List.mem_cons_of_mem))).mono ?_); rintro e' wn ⟨vn, rfl, rfl, hbn⟩; clear C9 C8; replace B6 := B6.below hbn; replace B8 := B8.below hbn; replace B9 := B9.below hbn; replace o9 := o9.below hbn; have C9 := B9.cells; have C8 := B8.cells; replace hb := bthen hb hbn; clear hbn)
          | (go_at_call 58; (with_reducible refine (wmulF ((Fs.nil _).cons (o9.loose (z' := z ^ k) (K' := 626) rfl hl9)) (by repeat (first | exact List.mem_cons_self .. | apply List.mem_cons_of_mem)) (by repeat (first | exact List.mem_cons_self .. | apply List.mem_cons_of_mem)) (by omega)).mono ?_); have hfirst : True := True.intro; rintro e' wn ⟨vn, rfl, ⟨b21, A21, n21, c21, rfl, o21, f21, hn21⟩, hbn⟩; clear C9 C8; have hne21 : ∀ k ∈ addrBlock A21, k ≠ g9 := (fun k hk e => by (have h1 := (f21 k hk).1; have h2 := B9.lt; omega)); clear f21; replace B6 := B6.below hbn; replace B8 := B8.below hbn; replace B9 := B9.below hbn; replace hb := bthen hb hbn; clear hbn; have hph := True.intro)
          | ((clear hph); (with_reducible refine g_store 9 ?_); go_must (refine ev_store rfl rfl B9 (news := [.slice A21 n21 c21, .bool b21]) (by rfl) infoNm (by simp) (by simp [Value.oneCell']) ?_); intro wn hon Bn; simp only [List.take_zero, List.nil_append, List.length_cons, List.length_nil, List.drop_succ_cons, List.drop_zero, List.append_nil, List.cons_append] at Bn; replace B6 := B6.only hon (Ne.symm hneb9_6); replace B8 := B8.only hon (Ne.symm hneb9_8); replace B9 := Bn; clear Bn; replace o21 := o21.only hon hne21; clear o9; have o9 := o21; clear o21; replace hb := hb.trans (hon.below hg9); clear hon; have C9 := B9.cells; have C8 := B8.cells; have HS2 := True.intro))
          go_roundw
          case rel => exact ⟨m, 2 * k, (m : Int) - 1, b21, A21, n21, c21, rfl, rfl, by omega, by rw [hkk.out]; exact hDN, ⟨fun _ => by rw [hkk.out]; exact HD.out⟩, hb, B6, B8, B9, o9.loose (pow_half z k) (by have := o9.le; simp only at this ⊢; omega), ⟨by rw [← pow_half]; exact hn21.out⟩⟩
          case measure => (simp [intOf]; try omega)
        · rw [hd2] at hbits
          have hkk : As (2 * k + 1 = D) := ⟨by have := HkD.out; omega⟩
          clear hsh hmt hD63 hd2
          by_cases hx2 : (X2 : Int) ≤ B
          · have y1 : decide ((X2 : Int) ≤ B) = true := by simpa using hx2
            have y2 : decide (B < (X2 : Int)) = false := by simp; omega
            have HLE : As ((digB 4294967296 (z ^ k * z ^ k).natAbs).length ≤ 626) := ⟨len_of_bits _ _ (by rw [← HX2.out]; omega)⟩
            clear hx2
            go_wp2_with (first
          | (go_at_call 56; (with_reducible refine (sbitsN HX.out ((Fs.nil _).cons o9) (by repeat (first | exact List.mem_cons_self .. | apply List.mem_cons_of_mem))).mono ?_); rintro e' wn ⟨vn, rfl, rfl, hbn⟩; clear C9 C8; replace B6 := B6.below hbn; replace B8 := B8.below hbn; replace B9 := B9.below hbn; replace o9 := o9.below hbn; have C9 := B9.cells; have C8 := B8.cells; replace hb := bthen hb hbn; clear hbn)
          | (go_at_call 56; (with_reducible refine (sbitsN HX2.out ((Fs.nil _).cons o9) (by repeat (first | exact List.mem_cons_self .. | apply List.mem_cons_of_mem))).mono ?_); rintro e' wn ⟨vn, rfl, rfl, hbn⟩; clear C9 C8; replace B6 := B6.below hbn; replace B8 := B8.below hbn; replace B9 := B9.below hbn; replace o9 := o9.below hbn; have C9 := B9.cells; have C8 := B8.cells; replace hb := bthen hb hbn; clear hbn)
          | (go_at_call 58; (with_reducible refine (wmulF ((Fs.nil _).cons (o9.loose (z' := z ^ k) (K' := 626) rfl hl9)) (by repeat (first | exact List.mem_cons_self .. | apply List.mem_cons_of_mem)) (by repeat (first | exact List.mem_cons_self .. | apply List.mem_cons_of_mem)) (by omega)).mono ?_); have hfirst : True := True.intro; rintro e' wn ⟨vn, rfl, ⟨b21, A21, n21, c21, rfl, o21, f21, hn21⟩, hbn⟩; clear C9 C8; have hne21 : ∀ k ∈ addrBlock A21, k ≠ g9 := (fun k hk e => by (have h1 := (f21 k hk).1; have h2 := B9.lt; omega)); clear f21; replace B6 := B6.below hbn; replace B8 := B8.below hbn; replace B9 := B9.below hbn; replace hb := bthen hb hbn; clear hbn; have hph := True.intro)
          | ((clear hph); (with_reducible refine g_store 9 ?_); go_must (refine ev_store rfl rfl B9 (news := [.slice A21 n21 c21, .bool b21]) (by rfl) infoNm (by simp) (by simp [Value.oneCell']) ?_); intro wn hon Bn; simp only [List.take_zero, List.nil_append, List.length_cons, List.length_nil, List.drop_succ_cons, List.drop_zero, List.append_nil, List.cons_append] at Bn; replace B6 := B6.only hon (Ne.symm hneb9_6); replace B8 := B8.only hon (Ne.symm hneb9_8); replace B9 := Bn; clear Bn; replace o21 := o21.only hon hne21; clear o9; have o9 := o21; clear o21; replace hb := hb.trans (hon.below hg9); clear hon; have C9 := B9.cells; have C8 := B8.cells; have HS2 := True.intro)
          | (go_at_call 58; (with_reducible refine (wmulF (((Fs.nil _).cons (F0.out _ (List.mem_cons_self ..) |>.below hb)).cons (o9.loose (z' := z ^ k * z ^ k) (K' := 626) rfl (by rw [hn21.out]; exact HLE.out))) (by repeat (first | exact List.mem_cons_self .. | apply List.mem_cons_of_mem)) (show (⟨b, A, n, c, _, _, _⟩ : NR) ∈ _ from (by repeat (first | exact List.mem_cons_self .. | apply List.mem_cons_of_mem))) (by omega)).mono ?_); clear HS2; rintro e' wn ⟨vn, rfl, ⟨b22, A22, n22, c22, rfl, o22, f22, hn22⟩, hbn⟩; clear C9 C8; have hne22 : ∀ k ∈ addrBlock A22, k ≠ g9 := (fun k hk e => by (have h1 := (f22 k hk).1; have h2 := B9.lt; omega)); clear f22; replace B6 := B6.below hbn; replace B8 := B8.below hbn; replace B9 := B9.below hbn; replace hb := bthen hb hbn; clear hbn)
          | ((with_reducible refine g_store 9 ?_); go_must (refine ev_store rfl rfl B9 (news := [.slice A22 n22 c22, .bool b22]) (by rfl) infoNm (by simp) (by simp [Value.oneCell']) ?_); intro wn hon Bn; simp only [List.take_zero, List.nil_append, List.length_cons, List.length_nil, List.drop_succ_cons, List.drop_zero, List.append_nil, List.cons_append] at Bn; replace B6 := B6.only hon (Ne.symm hneb9_6); replace B8 := B8.only hon (Ne.symm hneb9_8); replace B9 := Bn; clear Bn; replace o22 := o22.only hon hne22; clear o9; have o9 := o22; clear o22; replace hb := hb.trans (hon.below hg9); clear hon; have C9 := B9.cells; have C8 := B8.cells))
            go_roundw
            case rel => exact ⟨m, 2 * k + 1, (m : Int) - 1, b22, A22, n22, c22, rfl, rfl, by omega, by rw [hkk.out]; exact hDN, ⟨fun _ => by rw [hkk.out]; exact HD.out⟩, hb, B6, B8, B9, o9.loose (by rw [Int.pow_succ, ← pow_half]) (by have := o9.le; simp only at this ⊢; omega), ⟨by rw [Int.pow_succ, ← pow_half]; exact hn22.out⟩⟩
            case measure => (simp [intOf]; try omega)
          · have y1 : decide ((X2 : Int) ≤ B) = false := by simpa using hx2
            have y2 : decide (B < (X2 : Int)) = true := by simp; omega
            have hlt2 : As (B < (X2 : Int)) := ⟨by omega⟩
            clear hx2
            go_wp2_with (first
          | (go_at_call 56; (with_reducible refine (sbitsN HX.out ((Fs.nil _).cons o9) (by repeat (first | exact List.mem_cons_self .. | apply List.mem_cons_of_mem))).mono ?_); rintro e' wn ⟨vn, rfl, rfl, hbn⟩; clear C9 C8; replace B6 := B6.below hbn; replace B8 := B8.below hbn; replace B9 := B9.below hbn; replace o9 := o9.below hbn; have C9 := B9.cells; have C8 := B8.cells; replace hb := bthen hb hbn; clear hbn)
          | (go_at_call 56; (with_reducible refine (sbitsN HX2.out ((Fs.nil _).cons o9) (by repeat (first | exact List.mem_cons_self .. | apply List.mem_cons_of_mem))).mono ?_); rintro e' wn ⟨vn, rfl, rfl, hbn⟩; clear C9 C8; replace B6 := B6.below hbn; replace B8 := B8.below hbn; replace B9 := B9.below hbn; replace o9 := o9.below hbn; have C9 := B9.cells; have C8 := B8.cells; replace hb := bthen hb hbn; clear hbn)
          | (go_at_call 58; (with_reducible refine (wmulF ((Fs.nil _).cons (o9.loose (z' := z ^ k) (K' := 626) rfl hl9)) (by repeat (first | exact List.mem_cons_self .. | apply List.mem_cons_of_mem)) (by repeat (first | exact List.mem_cons_self .. | apply List.mem_cons_of_mem)) (by omega)).mono ?_); have hfirst : True := True.intro; rintro e' wn ⟨vn, rfl, ⟨b21, A21, n21, c21, rfl, o21, f21, hn21⟩, hbn⟩; clear C9 C8; have hne21 : ∀ k ∈ addrBlock A21, k ≠ g9 := (fun k hk e => by (have h1 := (f21 k hk).1; have h2 := B9.lt; omega)); clear f21; replace B6 := B6.below hbn; replace B8 := B8.below hbn; replace B9 := B9.below hbn; replace hb := bthen hb hbn; clear hbn; have hph := True.intro)
          | ((clear hph); (with_reducible refine g_store 9 ?_); go_must (refine ev_store rfl rfl B9 (news := [.slice A21 n21 c21, .bool b21]) (by rfl) infoNm (by simp) (by simp [Value.oneCell']) ?_); intro wn hon Bn; simp only [List.take_zero, List.nil_append, List.length_cons, List.length_nil, List.drop_succ_cons, List.drop_zero, List.append_nil, List.cons_append] at Bn; replace B6 := B6.only hon (Ne.symm hneb9_6); replace B8 := B8.only hon (Ne.symm hneb9_8); replace B9 := Bn; clear Bn; replace o21 := o21.only hon hne21; clear o9; have o9 := o21; clear o21; replace hb := hb.trans (hon.below hg9); clear hon; have C9 := B9.cells; have C8 := B8.cells; have HS2 := True.intro))
            go_roundw
            case rel => exact ⟨m, 2 * k, (m : Int) - 1, b21, A21, n21, c21, rfl, rfl, by omega, by have := hkk.out; omega, ⟨fun hle => by rw [← pow_half, ← HX2.out] at hle; have := hlt2.out; omega⟩, hb, B6, B8, B9, o9.loose (pow_half z k) (by have := o9.le; simp only at this ⊢; omega), ⟨by rw [← pow_half]; exact hn21.out⟩⟩
            case measure => (simp [intOf]; try omega)
    · have x1 : decide ((X : Int) ≤ B) = false := by simpa using hxb
      have x2 : decide (B < (X : Int)) = true := by simp; omega
      have x3 : decide ((X : Int) > B) = true := by simp; omega
      have hgr := HMON.out k hk
      rw [← HX.out] at hgr
      obtain ⟨rfl, rfl⟩ := HRES.out.2 (by omega)
      clear hgr hxb hkj hn9
      rcases j with _ | m
      · obtain rfl : v = -1 := by omega
        clear hv hj hk
        go_wp2_with (first
          | (go_at_call 56; (with_reducible refine (sbitsN HX.out ((Fs.nil _).cons o9) (by repeat (first | exact List.mem_cons_self .. | apply List.mem_cons_of_mem))).mono ?_); rintro e' wn ⟨vn, rfl, rfl, hbn⟩; clear C9 C8; replace B6 := B6.below hbn; replace B8 := B8.below hbn; replace B9 := B9.below hbn; replace o9 := o9.below hbn; have C9 := B9.cells; have C8 := B8.cells; replace hb := bthen hb hbn; clear hbn)
          | ((with_reducible refine g_store 6 ?_); go_must (refine ev_store rfl rfl B6 (news := [.bool false, .slice none 0 0]) (by first | rfl | (go_simp; try rfl)) infoNum (by simp) (by simp [Value.oneCell']) ?_); intro wn hon Bn; simp only [List.take_zero, List.nil_append, List.length_cons, List.length_nil, List.drop_succ_cons, List.drop_zero, List.append_nil, List.cons_append] at Bn; replace B6 := Bn; clear Bn; replace hb := hb.trans (hon.below hg6); clear hon))
        refine bodyPost_ret (results_ct rfl _ _ g6 26 #[.bool false, .slice none 0 0] (0, 0) _ rfl B6.h Tryd.underlying26 rfl (by kernel_rfl)) rfl ?_
        exact ⟨_, rfl, ⟨_, rfl, NumRes.nil _ _ _⟩, hb⟩
      · obtain rfl : v = (m : Int) := by omega
        clear hv hj hk
        go_wp2_with (first
          | (go_at_call 56; (with_reducible refine (sbitsN HX.out ((Fs.nil _).cons o9) (by repeat (first | exact List.mem_cons_self .. | apply List.mem_cons_of_mem))).mono ?_); rintro e' wn ⟨vn, rfl, rfl, hbn⟩; clear C9 C8; replace B6 := B6.below hbn; replace B8 := B8.below hbn; replace B9 := B9.below hbn; replace o9 := o9.below hbn; have C9 := B9.cells; have C8 := B8.cells; replace hb := bthen hb hbn; clear hbn)
          | ((with_reducible refine g_store 6 ?_); go_must (refine ev_store rfl rfl B6 (news := [.bool false, .slice none 0 0]) (by first | rfl | (go_simp; try rfl)) infoNum (by simp) (by simp [Value.oneCell']) ?_); intro wn hon Bn; simp only [List.take_zero, List.nil_append, List.length_cons, List.length_nil, List.drop_succ_cons, List.drop_zero, List.append_nil, List.cons_append] at Bn; replace B6 := Bn; clear Bn; replace hb := hb.trans (hon.below hg6); clear hon))
        refine bodyPost_ret (results_ct rfl _ _ g6 26 #[.bool false, .slice none 0 0] (0, 0) _ rfl B6.h Tryd.underlying26 rfl (by kernel_rfl)) rfl ?_
        exact ⟨_, rfl, ⟨_, rfl, NumRes.nil _ _ _⟩, hb⟩
set_option maxRecDepth 8000 in
set_option maxHeartbeats 4000000 in
theorem powC_go {e B : Int} {N : Nat} (F0 : Fs w [⟨b, A, n, c, z, K, can⟩]) (he : e = (N : Int)) (hz0 : z ≠ 0) (hz1 : z.natAbs ≤ 1) (hlt : N ≤ 2) (hK : K ≤ 274877900000) (hB : 0 ≤ B) (hB2 : B ≤ 20000) (HN63 : As (N < 9223372036854775808)) (HMON : As (∀ k, k ≤ N → bitN (z ^ k).natAbs ≤ bitN (z ^ N).natAbs)) (HRES : As ((((bitN (z ^ N).natAbs : Nat) : Int) ≤ B → (∀ v w', NumRes w (z ^ N) 626 true v w' → NumRes w q 626 true v w') ∧ ok = true) ∧ (B < ((bitN (z ^ N).natAbs : Nat) : Int) → q = 0 ∧ ok = false))) :
    Calls Tryd.prog 37 #[.agg #[.bool b, .slice A n c], .int .i64 e, .int .i64 B] w (Gives w fun v w' => ∃ qv, v = .tuple #[qv, .bool ok] ∧ NumRes w (q) 626 true qv w') := by
  subst he
  have HZ : As (decide (z = 0) = false) := ⟨by simpa using hz0⟩
  have HB : As (bitN z.natAbs ≤ 1) := ⟨(bitN_le_one z.natAbs).2 hz1⟩
  obtain ⟨Z, hZ⟩ : ∃ Z, Z = bitN z.natAbs := ⟨_, rfl⟩
  rw [← hZ] at HB
  have HN := As.mk hZ
  clear hZ
  have h2 : decide (B < 0) = false := by simp; omega
  have h5 : decide ((Z : Int) ≤ 1) = true := by have := HB.out; simp; omega
  have h6 : decide ((Z : Int) > 1) = false := by have := HB.out; simp; omega
  have h7 : decide ((1 : Int) < Z) = false := by have := HB.out; simp; omega
  have h1 : decide ((N : Int) < 0) = false := by simp
  have h8 : decide ((2 : Int) < (N : Int)) = false := by simp; omega
  have h9 : decide ((N : Int) > 2) = false := by simp; omega
  clear hz0 hz1 hlt
  go_enter Tryd.func37, Tryd.ntmps37
  go_wp2_with (first
    | ((with_reducible refine g_dst 3 ?_); go_must (refine ev_box 3 rfl (cs := [.bool b, .slice A n c]) (by rfl) ?_); intro g3 wn hb3 B3 hg3; have C3 := B3.cells; have hb := hb3)
    | ((with_reducible refine g_dst 6 ?_); go_must (refine ev_alloc 6 rfl infoNum (cs := [.bool false, .slice none 0 0]) rfl ?_); intro g6 wn hb6 B6 hgn; have hg6 := Nat.le_trans hb.size hgn; replace B3 := B3.below hb6; replace C3 := B3.cells; replace hb := bthen hb hb6)
    | (go_at_call 47; (with_reducible refine (numOf_any b A n c _).mono ?_); rintro e wn ⟨vn, rfl, rfl, hbn⟩; clear C3 B3 hb3 hb6 hg3; replace B6 := B6.below hbn; replace hb := bthen hb hbn; clear hbn)
    | ((with_reducible refine g_dst 8 ?_); go_must (refine ev_alloc 8 rfl infoNm (cs := [.slice none 0 0, .bool false]) rfl ?_); intro g8 wn hb8 B8 hgn; have hneb8_6 : g8 ≠ g6 := (fun e => by (have h1 := B6.lt; omega)); have hg8 := Nat.le_trans hb.size hgn; replace B6 := B6.below hb8; replace hb := bthen hb hb8)
    | ((with_reducible refine g_store 8 ?_); go_must (refine ev_store rfl rfl B8 (news := [.slice A n c, .bool b]) (by rfl) infoNm (by simp) (by simp [Value.oneCell']) ?_); intro wn hon Bn; simp only [List.take_zero, List.nil_append, List.length_cons, List.length_nil, List.drop_succ_cons, List.drop_zero, List.append_nil, List.cons_append] at Bn; replace B6 := B6.only hon (Ne.symm hneb8_6); replace B8 := Bn; clear Bn; replace hb := hb.trans (hon.below hg8); clear hon; have C8 := B8.cells)
    | (go_at_call 55; (with_reducible refine (szeroF (F0.below hb) (by repeat (first | exact List.mem_cons_self .. | apply List.mem_cons_of_mem)) false HZ.out).mono ?_); rintro e wn ⟨vn, rfl, rfl, hbn⟩; clear C8; replace B6 := B6.below hbn; replace B8 := B8.below hbn; have C8 := B8.cells; replace hb := bthen hb hbn; clear hbn)
    | (go_at_call 56; (with_reducible refine (sbitsN HN.out (F0.below hb) (by repeat (first | exact List.mem_cons_self .. | apply List.mem_cons_of_mem))).mono ?_); rintro e' wn ⟨vn, rfl, rfl, hbn⟩; clear C8; replace B6 := B6.below hbn; replace B8 := B8.below hbn; have C8 := B8.cells; replace hb := bthen hb hbn; clear hbn)
    | (go_at_call 27; (with_reducible refine (ofF 1 (by omega) (by omega)).mono ?_); rintro e' wn ⟨vn, rfl, ⟨b9, A9, n9, c9, rfl, o9, f9⟩, hbn⟩; replace f9 := (fun k hk => (f9 k hk).2); clear C8; replace B6 := B6.below hbn; replace B8 := B8.below hbn; replace hb := bthen hb hbn; clear hbn)
    | (go_at_call 47; (with_reducible refine (numOf_any b9 A9 n9 c9 _).mono ?_); rintro e' wn ⟨vn, rfl, rfl, hbn⟩; replace f9 := (fun k hk => Nat.lt_of_lt_of_le (f9 k hk) hbn.size); replace B6 := B6.below hbn; replace B8 := B8.below hbn; replace o9 := o9.below hbn; replace hb := bthen hb hbn; clear hbn)
    | ((with_reducible refine g_dst 9 ?_); go_must (refine ev_alloc 9 rfl infoNm (cs := [.slice none 0 0, .bool false]) rfl ?_); intro g9 wn hb9 B9 hgn; have hneb9_6 : g9 ≠ g6 := (fun e => by (have h1 := B6.lt; omega)); have hneb9_8 : g9 ≠ g8 := (fun e => by (have h1 := B8.lt; omega)); have hne9 : ∀ k ∈ addrBlock A9, k ≠ g9 := (fun k hk e => by (have h1 := f9 k hk; omega)); clear f9; have hg9 := Nat.le_trans hb.size hgn; replace B6 := B6.below hb9; replace B8 := B8.below hb9; replace o9 := o9.below hb9; replace hb := bthen hb hb9)
    | ((with_reducible refine g_store 9 ?_); go_must (refine ev_store rfl rfl B9 (news := [.slice A9 n9 c9, .bool b9]) (by rfl) infoNm (by simp) (by simp [Value.oneCell']) ?_); intro wn hon Bn; simp only [List.take_zero, List.nil_append, List.length_cons, List.length_nil, List.drop_succ_cons, List.drop_zero, List.append_nil, List.cons_append] at Bn; replace B6 := B6.only hon (Ne.symm hneb9_6); replace B8 := B8.only hon (Ne.symm hneb9_8); replace B9 := Bn; clear Bn; replace o9 := o9.only hon hne9; replace hb := hb.trans (hon.below hg9); clear hon; have C8 := B8.cells))
  obtain ⟨KP, hKP⟩ : ∃ KP, KP = K + 1300 := ⟨_, rfl⟩
  go_loopw [10] (fun i wr => ∃ (j k : Nat) (v : Int) (b9 : Bool) (A9 : Option Addr) (n9 c9 : Nat), i = .int .i64 v ∧ v = (j : Int) - 1 ∧ j ≤ 63 ∧ k ≤ N ∧ As (((bitN (z ^ k).natAbs : Nat) : Int) ≤ B → k = N / 2 ^ j) ∧ Below w.heap.size w wr ∧ Blk wr g6 [.bool false, .slice none 0 0] 26 ∧ Blk wr g8 [.slice A n c, .bool b] 52 ∧ Blk wr g9 [.slice A9 n9 c9, .bool b9] 52 ∧ NR.Ok wr ⟨b9, A9, n9, c9, z ^ k, KP, false⟩ ∧ As (n9 = (digB 4294967296 (z ^ k).natAbs).length)) (fun i _ => (intOf i + 1).toNat)
  case atStart => exact ⟨63, 0, 62, b9, A9, n9, c9, rfl, by omega, by omega, Nat.zero_le _, ⟨fun _ => (Nat.div_eq_of_lt HN63.out).symm⟩, hb, B6, B8, B9, o9.loose (by simp) (by have := o9.le; simp only at this ⊢; omega), ⟨by
    obtain ⟨l, h1, _, _, h4⟩ := o9.ex
    have := (h4 rfl).2
    simp only at h1 this
    rw [← h1, this]; simp⟩⟩
  case round =>
    clear B6 B8 B9 hb o9 C8
    obtain ⟨j, k, v, b9, A9, n9, c9, rfl, hv, hj, hk, hkj, hb, B6, B8, B9, o9, hn9⟩ := hrel
    obtain ⟨X, hX⟩ : ∃ X, X = bitN (z ^ k).natAbs := ⟨_, rfl⟩
    rw [← hX] at hkj
    have HX := As.mk hX
    clear hX
    have C9 := B9.cells
    have C8 := B8.cells
    by_cases hxb : (X : Int) ≤ B
    · obtain rfl := hkj.out hxb
      have x1 : decide ((X : Int) ≤ B) = true := by simpa using hxb
      have x2 : decide (B < (X : Int)) = false := by simp; omega
      have x3 : decide ((X : Int) > B) = false := by simp; omega
      have hl9 : n9 ≤ 626 := by rw [hn9.out]; exact len_of_bits _ _ (by rw [← HX.out]; omega)
      rcases j with _ | m
      · obtain rfl : v = -1 := by omega
        have HP : As (z ^ (N / 2 ^ 0) = z ^ N) := ⟨by rw [Nat.pow_zero, Nat.div_one]⟩
        rw [HP.out] at o9
        have hXe := HX.out
        rw [HP.out] at hXe
        have HX2 := As.mk hXe
        clear hv hj hk hkj hxb hXe HP hn9 HX
        obtain ⟨HR1, rfl⟩ := HRES.out.1 (by rw [← HX2.out]; simpa using x1)
        have HR := As.mk HR1
        clear HR1
        go_wp2_with (first
          | (go_at_call 56; (with_reducible refine (sbitsN HX2.out ((Fs.nil _).cons o9) (by repeat (first | exact List.mem_cons_self .. | apply List.mem_cons_of_mem))).mono ?_); rintro e' wn ⟨vn, rfl, rfl, hbn⟩; clear C9 C8; replace B6 := B6.below hbn; replace B8 := B8.below hbn; replace B9 := B9.below hbn; replace o9 := o9.below hbn; have C9 := B9.cells; have C8 := B8.cells; replace hb := bthen hb hbn; clear hbn)
          | (go_at_call 48; (with_reducible refine (toldF ((Fs.nil _).cons (o9.loose (z' := z ^ N) (K' := 626) rfl hl9)) (by repeat (first | exact List.mem_cons_self .. | apply List.mem_cons_of_mem)) (by omega)).mono ?_); rintro e' wn ⟨vn, rfl, ⟨b20, A20, n20, c20, rfl, o20, f20⟩, hbn⟩; clear C9; have hne20 : ∀ k ∈ addrBlock A20, k ≠ g6 := (fun k hk e => by (have h1 := (f20 k hk).1; have h2 := B6.lt; omega)); have hge20 : ∀ k ∈ addrBlock A20, w.heap.size ≤ k := (fun k hk => Nat.le_trans hb.size (f20 k hk).1); replace B6 := B6.below hbn; replace hb := bthen hb hbn; clear hbn)
          | ((with_reducible refine g_store 6 ?_); go_must (refine ev_store rfl rfl B6 (news := [.bool b20, .slice A20 n20 c20]) (by rfl) infoNum (by simp) (by simp [Value.oneCell']) ?_); intro wn hon Bn; simp only [List.take_zero, List.nil_append, List.length_cons, List.length_nil, List.drop_succ_cons, List.drop_zero, List.append_nil, List.cons_append] at Bn; replace B6 := Bn; clear Bn; replace o20 := o20.only hon hne20; have hlt20 : ∀ k ∈ addrBlock A20, k < _ := (fun k hk => Nat.lt_of_lt_of_eq (f20 k hk).2 hon.size.symm); replace hb := hb.trans (hon.below hg6); clear hon))
        refine bodyPost_ret (results_ct rfl _ _ g6 26 #[.bool b20, .slice A20 n20 c20] (0, 0) _ rfl B6.h Tryd.underlying26 rfl (by kernel_rfl)) rfl ?_
        exact ⟨_, rfl, ⟨_, rfl, HR.out _ _ ⟨_, _, _, _, rfl, o20, fun k hk => ⟨hge20 k hk, hlt20 k hk⟩⟩⟩, hb⟩
      · obtain rfl : v = (m : Int) := by omega
        obtain ⟨D, hD⟩ : ∃ D, D = N / 2 ^ m := ⟨_, rfl⟩
        obtain ⟨k, hk'⟩ : ∃ k, k = N / 2 ^ (m + 1) := ⟨_, rfl⟩
        have hkD : k = D / 2 := by rw [hk', hD, Nat.pow_succ, Nat.div_div_eq_div_mul]
        rw [← hk'] at hk HX hn9 o9
        have hDN : D ≤ N := by rw [hD]; exact Nat.div_le_self _ _
        have hD63 : D < 9223372036854775808 := Nat.lt_of_le_of_lt hDN HN63.out
        have hsh : (N : Int) / 2 ^ min m 64 = (D : Int) := by rw [Nat.min_eq_left (by omega), hD]; simp
        have hmt : ((m : Int)).toNat = m := by simp
        obtain ⟨X2, hX2⟩ : ∃ X2, X2 = bitN (z ^ k * z ^ k).natAbs := ⟨_, rfl⟩
        have HX2 := As.mk hX2
        have HD := As.mk hD
        have HkD := As.mk hkD
        have Hk := As.mk hk'
        clear hX2 hD hkD hk' hv hxb hkj
        have hbits : bits BinOp.and IntKind.i64 ((N : Int) / 2 ^ m) 1 = ((D % 2 : Nat) : Int) := by
          rw [show (N : Int) / 2 ^ m = (D : Int) by rw [HD.out]; simp]
          exact and_one_i64 D (by omega)
        have hBl : ¬ B < 0 := by omega
        rcases Nat.mod_two_eq_zero_or_one D with hd2 | hd2
        · rw [hd2] at hbits
          have hkk : As (2 * k = D) := ⟨by have := HkD.out; omega⟩
          clear hsh hmt HX2 hD63 hd2
          go_wp2_with (first
          | (go_at_call 56; (with_reducible refine (sbitsN HX.out ((Fs.nil _).cons o9) (by repeat (first | exact List.mem_cons_self .. | apply List.mem_cons_of_mem))).mono ?_); rintro e' wn ⟨vn, rfl, rfl, hbn⟩; clear C9 C8; replace B6 := B6.below hbn; replace B8 := B8.below hbn; replace B9 := B9.below hbn; replace o9 := o9.below hbn; have C9 := B9.cells; have C8 := B8.cells; replace hb := bthen hb hbn; clear hbn)
          | (go_at_call 58; (with_reducible refine (wmulF ((Fs.nil _).cons (o9.loose (z' := z ^ k) (K' := 626) rfl hl9)) (by repeat (first | exact List.mem_cons_self .. | apply List.mem_cons_of_mem)) (by repeat (first | exact List.mem_cons_self .. | apply List.mem_cons_of_mem)) (by omega)).mono ?_); have hfirst : True := True.intro; rintro e' wn ⟨vn, rfl, ⟨b21, A21, n21, c21, rfl, o21, f21, hn21⟩, hbn⟩; clear C9 C8; have hne21 : ∀ k ∈ addrBlock A21, k ≠ g9 := (fun k hk e => by (have h1 := (f21 k hk).1; have h2 := B9.lt; omega)); clear f21; replace B6 := B6.below hbn; replace B8 := B8.below hbn; replace B9 := B9.below hbn; replace hb := bthen hb hbn; clear hbn; have hph := True.intro)
          | ((clear hph); (with_reducible refine g_store 9 ?_); go_must (refine ev_store rfl rfl B9 (news := [.slice A21 n21 c21, .bool b21]) (by rfl) infoNm (by simp) (by simp [Value.oneCell']) ?_); intro wn hon Bn; simp only [List.take_zero, List.nil_append, List.length_cons, List.length_nil, List.drop_succ_cons, List.drop_zero, List.append_nil, List.cons_append] at Bn; replace B6 := B6.only hon (Ne.symm hneb9_6); replace B8 := B8.only hon (Ne.symm hneb9_8); replace B9 := Bn; clear Bn; replace o21 := o21.only hon hne21; clear o9; have o9 := o21; clear o21; replace hb := hb.trans (hon.below hg9); clear hon; have C9 := B9.cells; have C8 := B8.cells; have HS2 := True.intro))
          go_roundw
          case rel => exact ⟨m, 2 * k, (m : Int) - 1, b21, A21, n21, c21, rfl, rfl, by omega, by rw [hkk.out]; exact hDN, ⟨fun _ => by rw [hkk.out]; exact HD.out⟩, hb, B6, B8, B9, o9.loose (pow_half z k) (by have := o9.le; simp only at this ⊢; omega), ⟨by rw [← pow_half]; exact hn21.out⟩⟩
          case measure => (simp [intOf]; try omega)
        · rw [hd2] at hbits
          have hkk : As (2 * k + 1 = D) := ⟨by have := HkD.out; omega⟩
          clear hsh hmt hD63 hd2
          by_cases hx2 : (X2 : Int) ≤ B
          · have y1 : decide ((X2 : Int) ≤ B) = true := by simpa using hx2
            have y2 : decide (B < (X2 : Int)) = false := by simp; omega
            have HLE : As ((digB 4294967296 (z ^ k * z ^ k).natAbs).length ≤ 626) := ⟨len_of_bits _ _ (by rw [← HX2.out]; omega)⟩
            clear hx2
            go_wp2_with (first
          | (go_at_call 56; (with_reducible refine (sbitsN HX.out ((Fs.nil _).cons o9) (by repeat (first | exact List.mem_cons_self .. | apply List.mem_cons_of_mem))).mono ?_); rintro e' wn ⟨vn, rfl, rfl, hbn⟩; clear C9 C8; replace B6 := B6.below hbn; replace B8 := B8.below hbn; replace B9 := B9.below hbn; replace o9 := o9.below hbn; have C9 := B9.cells; have C8 := B8.cells; replace hb := bthen hb hbn; clear hbn)
          | (go_at_call 56; (with_reducible refine (sbitsN HX2.out ((Fs.nil _).cons o9) (by repeat (first | exact List.mem_cons_self .. | apply List.mem_cons_of_mem))).mono ?_); rintro e' wn ⟨vn, rfl, rfl, hbn⟩; clear C9 C8; replace B6 := B6.below hbn; replace B8 := B8.below hbn; replace B9 := B9.below hbn; replace o9 := o9.below hbn; have C9 := B9.cells; have C8 := B8.cells; replace hb := bthen hb hbn; clear hbn)
          | (go_at_call 58; (with_reducible refine (wmulF ((Fs.nil _).cons (o9.loose (z' := z ^ k) (K' := 626) rfl hl9)) (by repeat (first | exact List.mem_cons_self .. | apply List.mem_cons_of_mem)) (by repeat (first | exact List.mem_cons_self .. | apply List.mem_cons_of_mem)) (by omega)).mono ?_); have hfirst : True := True.intro; rintro e' wn ⟨vn, rfl, ⟨b21, A21, n21, c21, rfl, o21, f21, hn21⟩, hbn⟩; clear C9 C8; have hne21 : ∀ k ∈ addrBlock A21, k ≠ g9 := (fun k hk e => by (have h1 := (f21 k hk).1; have h2 := B9.lt; omega)); clear f21; replace B6 := B6.below hbn; replace B8 := B8.below hbn; replace B9 := B9.below hbn; replace hb := bthen hb hbn; clear hbn; have hph := True.intro)
          | ((clear hph); (with_reducible refine g_store 9 ?_); go_must (refine ev_store rfl rfl B9 (news := [.slice A21 n21 c21, .bool b21]) (by rfl) infoNm (by simp) (by simp [Value.oneCell']) ?_); intro wn hon Bn; simp only [List.take_zero, List.nil_append, List.length_cons, List.length_nil, List.drop_succ_cons, List.drop_zero, List.append_nil, List.cons_append] at Bn; replace B6 := B6.only hon (Ne.symm hneb9_6); replace B8 := B8.only hon (Ne.symm hneb9_8); replace B9 := Bn; clear Bn; replace o21 := o21.only hon hne21; clear o9; have o9 := o21; clear o21; replace hb := hb.trans (hon.below hg9); clear hon; have C9 := B9.cells; have C8 := B8.cells; have HS2 := True.intro)
          | (go_at_call 58; (with_reducible refine (wmulF (((Fs.nil _).cons (F0.out _ (List.mem_cons_self ..) |>.below hb)).cons (o9.loose (z' := z ^ k * z ^ k) (K' := 626) rfl (by rw [hn21.out]; exact HLE.out))) (by repeat (first | exact List.mem_cons_self .. | apply List.mem_cons_of_mem)) (show (⟨b, A, n, c, _, _, _⟩ : NR) ∈ _ from (by repeat (first | exact List.mem_cons_self .. | apply List.mem_cons_of_mem))) (by omega)).mono ?_); clear HS2; rintro e' wn ⟨vn, rfl, ⟨b22, A22, n22, c22, rfl, o22, f22, hn22⟩, hbn⟩; clear C9 C8; have hne22 : ∀ k ∈ addrBlock A22, k ≠ g9 := (fun k hk e => by (have h1 := (f22 k hk).1; have h2 := B9.lt; omega)); clear f22; replace B6 := B6.below hbn; replace B8 := B8.below hbn; replace B9 := B9.below hbn; replace hb := bthen hb hbn; clear hbn)
          | ((with_reducible refine g_store 9 ?_); go_must (refine ev_store rfl rfl B9 (news := [.slice A22 n22 c22, .bool b22]) (by rfl) infoNm (by simp) (by simp [Value.oneCell']) ?_); intro wn hon Bn; simp only [List.take_zero, List.nil_append, List.length_cons, List.length_nil, List.drop_succ_cons, List.drop_zero, List.append_nil, List.cons_append] at Bn; replace B6 := B6.only hon (Ne.symm hneb9_6); replace B8 := B8.only hon (Ne.symm hneb9_8); replace B9 := Bn; clear Bn; replace o22 := o22.only hon hne22; clear o9; have o9 := o22; clear o22; replace hb := hb.trans (hon.below hg9); clear hon; have C9 := B9.cells; have C8 := B8.cells))
            go_roundw
            case rel => exact ⟨m, 2 * k + 1, (m : Int) - 1, b22, A22, n22, c22, rfl, rfl, by omega, by rw [hkk.out]; exact hDN, ⟨fun _ => by rw [hkk.out]; exact HD.out⟩, hb, B6, B8, B9, o9.loose (by rw [Int.pow_succ, ← pow_half]) (by have := o9.le; simp only at this ⊢; omega), ⟨by rw [Int.pow_succ, ← pow_half]; exact hn22.out⟩⟩
            case measure => (simp [intOf]; try omega)
          · have y1 : decide ((X2 : Int) ≤ B) = false := by simpa using hx2
            have y2 : decide (B < (X2 : Int)) = true := by simp; omega
            have hlt2 : As (B < (X2 : Int)) := ⟨by omega⟩
            clear hx2
            go_wp2_with (first
          | (go_at_call 56; (with_reducible refine (sbitsN HX.out ((Fs.nil _).cons o9) (by repeat (first | exact List.mem_cons_self .. | apply List.mem_cons_of_mem))).mono ?_); rintro e' wn ⟨vn, rfl, rfl, hbn⟩; clear C9 C8; replace B6 := B6.below hbn; replace B8 := B8.below hbn; replace B9 := B9.below hbn; replace o9 := o9.below hbn; have C9 := B9.cells; have C8 := B8.cells; replace hb := bthen hb hbn; clear hbn)
          | (go_at_call 56; (with_reducible refine (sbitsN HX2.out ((Fs.nil _).cons o9) (by repeat (first | exact List.mem_cons_self .. | apply List.mem_cons_of_mem))).mono ?_); rintro e' wn ⟨vn, rfl, rfl, hbn⟩; clear C9 C8; replace B6 := B6.below hbn; replace B8 := B8.below hbn; replace B9 := B9.below hbn; replace o9 := o9.below hbn; have C9 := B9.cells; have C8 := B8.cells; replace hb := bthen hb hbn; clear hbn)
          | (go_at_call 58; (with_reducible refine (wmulF ((Fs.nil _).cons (o9.loose (z' := z ^ k) (K' := 626) rfl hl9)) (by repeat (first | exact List.mem_cons_self .. | apply List.mem_cons_of_mem)) (by repeat (first | exact List.mem_cons_self .. | apply List.mem_cons_of_mem)) (by omega)).mono ?_); have hfirst : True := True.intro; rintro e' wn ⟨vn, rfl, ⟨b21, A21, n21, c21, rfl, o21, f21, hn21⟩, hbn⟩; clear C9 C8; have hne21 : ∀ k ∈ addrBlock A21, k ≠ g9 := (fun k hk e => by (have h1 := (f21 k hk).1; have h2 := B9.lt; omega)); clear f21; replace B6 := B6.below hbn; replace B8 := B8.below hbn; replace B9 := B9.below hbn; replace hb := bthen hb hbn; clear hbn; have hph := True.intro)
          | ((clear hph); (with_reducible refine g_store 9 ?_); go_must (refine ev_store rfl rfl B9 (news := [.slice A21 n21 c21, .bool b21]) (by rfl) infoNm (by simp) (by simp [Value.oneCell']) ?_); intro wn hon Bn; simp only [List.take_zero, List.nil_append, List.length_cons, List.length_nil, List.drop_succ_cons, List.drop_zero, List.append_nil, List.cons_append] at Bn; replace B6 := B6.only hon (Ne.symm hneb9_6); replace B8 := B8.only hon (Ne.symm hneb9_8); replace B9 := Bn; clear Bn; replace o21 := o21.only hon hne21; clear o9; have o9 := o21; clear o21; replace hb := hb.trans (hon.below hg9); clear hon; have C9 := B9.cells; have C8 := B8.cells; have HS2 := True.intro))
            go_roundw
            case rel => exact ⟨m, 2 * k, (m : Int) - 1, b21, A21, n21, c21, rfl, rfl, by omega, by have := hkk.out; omega, ⟨fun hle => by rw [← pow_half, ← HX2.out] at hle; have := hlt2.out; omega⟩, hb, B6, B8, B9, o9.loose (pow_half z k) (by have := o9.le; simp only at this ⊢; omega), ⟨by rw [← pow_half]; exact hn21.out⟩⟩
            case measure => (simp [intOf]; try omega)
    · have x1 : decide ((X : Int) ≤ B) = false := by simpa using hxb
      have x2 : decide (B < (X : Int)) = true := by simp; omega
      have x3 : decide ((X : Int) > B) = true := by simp; omega
      have hgr := HMON.out k hk
      rw [← HX.out] at hgr
      obtain ⟨rfl, rfl⟩ := HRES.out.2 (by omega)
      clear hgr hxb hkj hn9
      rcases j with _ | m
      · obtain rfl : v = -1 := by omega
        clear hv hj hk
        go_wp2_with (first
          | (go_at_call 56; (with_reducible refine (sbitsN HX.out ((Fs.nil _).cons o9) (by repeat (first | exact List.mem_cons_self .. | apply List.mem_cons_of_mem))).mono ?_); rintro e' wn ⟨vn, rfl, rfl, hbn⟩; clear C9 C8; replace B6 := B6.below hbn; replace B8 := B8.below hbn; replace B9 := B9.below hbn; replace o9 := o9.below hbn; have C9 := B9.cells; have C8 := B8.cells; replace hb := bthen hb hbn; clear hbn)
          | ((with_reducible refine g_store 6 ?_); go_must (refine ev_store rfl rfl B6 (news := [.bool false, .slice none 0 0]) (by first | rfl | (go_simp; try rfl)) infoNum (by simp) (by simp [Value.oneCell']) ?_); intro wn hon Bn; simp only [List.take_zero, List.nil_append, List.length_cons, List.length_nil, List.drop_succ_cons, List.drop_zero, List.append_nil, List.cons_append] at Bn; replace B6 := Bn; clear Bn; replace hb := hb.trans (hon.below hg6); clear hon))
        refine bodyPost_ret (results_ct rfl _ _ g6 26 #[.bool false, .slice none 0 0] (0, 0) _ rfl B6.h Tryd.underlying26 rfl (by kernel_rfl)) rfl ?_
        exact ⟨_, rfl, ⟨_, rfl, NumRes.nil _ _ _⟩, hb⟩
      · obtain rfl : v = (m : Int) := by omega
        clear hv hj hk
        go_wp2_with (first
          | (go_at_call 56; (with_reducible refine (sbitsN HX.out ((Fs.nil _).cons o9) (by repeat (first | exact List.mem_cons_self .. | apply List.mem_cons_of_mem))).mono ?_); rintro e' wn ⟨vn, rfl, rfl, hbn⟩; clear C9 C8; replace B6 := B6.below hbn; replace B8 := B8.below hbn; replace B9 := B9.below hbn; replace o9 := o9.below hbn; have C9 := B9.cells; have C8 := B8.cells; replace hb := bthen hb hbn; clear hbn)
          | ((with_reducible refine g_store 6 ?_); go_must (refine ev_store rfl rfl B6 (news := [.bool false, .slice none 0 0]) (by first | rfl | (go_simp; try rfl)) infoNum (by simp) (by simp [Value.oneCell']) ?_); intro wn hon Bn; simp only [List.take_zero, List.nil_append, List.length_cons, List.length_nil, List.drop_succ_cons, List.drop_zero, List.append_nil, List.cons_append] at Bn; replace B6 := Bn; clear Bn; replace hb := hb.trans (hon.below hg6); clear hon))
        refine bodyPost_ret (results_ct rfl _ _ g6 26 #[.bool false, .slice none 0 0] (0, 0) _ rfl B6.h Tryd.underlying26 rfl (by kernel_rfl)) rfl ?_
        exact ⟨_, rfl, ⟨_, rfl, NumRes.nil _ _ _⟩, hb⟩
set_option maxRecDepth 8000 in
set_option maxHeartbeats 4000000 in
theorem powO_go {e B : Int} {N : Nat} (F0 : Fs w [⟨b, A, n, c, z, K, can⟩]) (he : e = (N : Int)) (hz0 : z = 0) (hz1 : z.natAbs ≤ 1) (hlt : N = 0) (hK : K ≤ 274877900000) (hB : 0 ≤ B) (hB2 : B ≤ 20000) (HN63 : As (N < 9223372036854775808)) (HMON : As (∀ k, k ≤ N → bitN (z ^ k).natAbs ≤ bitN (z ^ N).natAbs)) (HRES : As ((((bitN (z ^ N).natAbs : Nat) : Int) ≤ B → (∀ v w', NumRes w (z ^ N) 626 true v w' → NumRes w q 626 true v w') ∧ ok = true) ∧ (B < ((bitN (z ^ N).natAbs : Nat) : Int) → q = 0 ∧ ok = false))) :
    Calls Tryd.prog 37 #[.agg #[.bool b, .slice A n c], .int .i64 e, .int .i64 B] w (Gives w fun v w' => ∃ qv, v = .tuple #[qv, .bool ok] ∧ NumRes w (q) 626 true qv w') := by
  subst he
  have HZ : As (decide (z = 0) = true) := ⟨by simpa using hz0⟩
  have HB : As (bitN z.natAbs ≤ 1) := ⟨(bitN_le_one z.natAbs).2 hz1⟩
  obtain ⟨Z, hZ⟩ : ∃ Z, Z = bitN z.natAbs := ⟨_, rfl⟩
  rw [← hZ] at HB
  have HN := As.mk hZ
  clear hZ
  have h2 : decide (B < 0) = false := by simp; omega
  have h5 : decide ((Z : Int) ≤ 1) = true := by have := HB.out; simp; omega
  have h6 : decide ((Z : Int) > 1) = false := by have := HB.out; simp; omega
  have h7 : decide ((1 : Int) < Z) = false := by have := HB.out; simp; omega
  have h1 : decide ((N : Int) < 0) = false := by simp
  have h8 : decide ((2 : Int) < (N : Int)) = false := by simp; omega
  have h9 : decide ((N : Int) > 2) = false := by simp; omega
  have h10 : decide ((0 : Int) < (N : Int)) = false := by simp; omega
  have h11 : decide ((N : Int) > 0) = false := by simp; omega
  have h12 : decide (0 < N) = false := by simp; omega
  clear hz0 hz1 hlt
  go_enter Tryd.func37, Tryd.ntmps37
  go_wp2_with (first
    | ((with_reducible refine g_dst 3 ?_); go_must (refine ev_box 3 rfl (cs := [.bool b, .slice A n c]) (by rfl) ?_); intro g3 wn hb3 B3 hg3; have C3 := B3.cells; have hb := hb3)
    | ((with_reducible refine g_dst 6 ?_); go_must (refine ev_alloc 6 rfl infoNum (cs := [.bool false, .slice none 0 0]) rfl ?_); intro g6 wn hb6 B6 hgn; have hg6 := Nat.le_trans hb.size hgn; replace B3 := B3.below hb6; replace C3 := B3.cells; replace hb := bthen hb hb6)
    | (go_at_call 47; (with_reducible refine (numOf_any b A n c _).mono ?_); rintro e wn ⟨vn, rfl, rfl, hbn⟩; clear C3 B3 hb3 hb6 hg3; replace B6 := B6.below hbn; replace hb := bthen hb hbn; clear hbn)
    | ((with_reducible refine g_dst 8 ?_); go_must (refine ev_alloc 8 rfl infoNm (cs := [.slice none 0 0, .bool false]) rfl ?_); intro g8 wn hb8 B8 hgn; have hneb8_6 : g8 ≠ g6 := (fun e => by (have h1 := B6.lt; omega)); have hg8 := Nat.le_trans hb.size hgn; replace B6 := B6.below hb8; replace hb := bthen hb hb8)
    | ((with_reducible refine g_store 8 ?_); go_must (refine ev_store rfl rfl B8 (news := [.slice A n c, .bool b]) (by rfl) infoNm (by simp) (by simp [Value.oneCell']) ?_); intro wn hon Bn; simp only [List.take_zero, List.nil_append, List.length_cons, List.length_nil, List.drop_succ_cons, List.drop_zero, List.append_nil, List.cons_append] at Bn; replace B6 := B6.only hon (Ne.symm hneb8_6); replace B8 := Bn; clear Bn; replace hb := hb.trans (hon.below hg8); clear hon; have C8 := B8.cells)
    | (go_at_call 55; (with_reducible refine (szeroF (F0.below hb) (by repeat (first | exact List.mem_cons_self .. | apply List.mem_cons_of_mem)) true HZ.out).mono ?_); rintro e wn ⟨vn, rfl, rfl, hbn⟩; clear C8; replace B6 := B6.below hbn; replace B8 := B8.below hbn; have C8 := B8.cells; replace hb := bthen hb hbn; clear hbn)
    | (go_at_call 56; (with_reducible refine (sbitsN HN.out (F0.below hb) (by repeat (first | exact List.mem_cons_self .. | apply List.mem_cons_of_mem))).mono ?_); rintro e' wn ⟨vn, rfl, rfl, hbn⟩; clear C8; replace B6 := B6.below hbn; replace B8 := B8.below hbn; have C8 := B8.cells; replace hb := bthen hb hbn; clear hbn)
    | (go_at_call 27; (with_reducible refine (ofF 1 (by omega) (by omega)).mono ?_); rintro e' wn ⟨vn, rfl, ⟨b9, A9, n9, c9, rfl, o9, f9⟩, hbn⟩; replace f9 := (fun k hk => (f9 k hk).2); clear C8; replace B6 := B6.below hbn; replace B8 := B8.below hbn; replace hb := bthen hb hbn; clear hbn)
    | (go_at_call 47; (with_reducible refine (numOf_any b9 A9 n9 c9 _).mono ?_); rintro e' wn ⟨vn, rfl, rfl, hbn⟩; replace f9 := (fun k hk => Nat.lt_of_lt_of_le (f9 k hk) hbn.size); replace B6 := B6.below hbn; replace B8 := B8.below hbn; replace o9 := o9.below hbn; replace hb := bthen hb hbn; clear hbn)
    | ((with_reducible refine g_dst 9 ?_); go_must (refine ev_alloc 9 rfl infoNm (cs := [.slice none 0 0, .bool false]) rfl ?_); intro g9 wn hb9 B9 hgn; have hneb9_6 : g9 ≠ g6 := (fun e => by (have h1 := B6.lt; omega)); have hneb9_8 : g9 ≠ g8 := (fun e => by (have h1 := B8.lt; omega)); have hne9 : ∀ k ∈ addrBlock A9, k ≠ g9 := (fun k hk e => by (have h1 := f9 k hk; omega)); clear f9; have hg9 := Nat.le_trans hb.size hgn; replace B6 := B6.below hb9; replace B8 := B8.below hb9; replace o9 := o9.below hb9; replace hb := bthen hb hb9)
    | ((with_reducible refine g_store 9 ?_); go_must (refine ev_store rfl rfl B9 (news := [.slice A9 n9 c9, .bool b9]) (by rfl) infoNm (by simp) (by simp [Value.oneCell']) ?_); intro wn hon Bn; simp only [List.take_zero, List.nil_append, List.length_cons, List.length_nil, List.drop_succ_cons, List.drop_zero, List.append_nil, List.cons_append] at Bn; replace B6 := B6.only hon (Ne.symm hneb9_6); replace B8 := B8.only hon (Ne.symm hneb9_8); replace B9 := Bn; clear Bn; replace o9 := o9.only hon hne9; replace hb := hb.trans (hon.below hg9); clear hon; have C8 := B8.cells))
  obtain ⟨KP, hKP⟩ : ∃ KP, KP = K + 1300 := ⟨_, rfl⟩
  go_loopw [10] (fun i wr => ∃ (j k : Nat) (v : Int) (b9 : Bool) (A9 : Option Addr) (n9 c9 : Nat), i = .int .i64 v ∧ v = (j : Int) - 1 ∧ j ≤ 63 ∧ k ≤ N ∧ As (((bitN (z ^ k).natAbs : Nat) : Int) ≤ B → k = N / 2 ^ j) ∧ Below w.heap.size w wr ∧ Blk wr g6 [.bool false, .slice none 0 0] 26 ∧ Blk wr g8 [.slice A n c, .bool b] 52 ∧ Blk wr g9 [.slice A9 n9 c9, .bool b9] 52 ∧ NR.Ok wr ⟨b9, A9, n9, c9, z ^ k, KP, false⟩ ∧ As (n9 = (digB 4294967296 (z ^ k).natAbs).length)) (fun i _ => (intOf i + 1).toNat)
  case atStart => exact ⟨63, 0, 62, b9, A9, n9, c9, rfl, by omega, by omega, Nat.zero_le _, ⟨fun _ => (Nat.div_eq_of_lt HN63.out).symm⟩, hb, B6, B8, B9, o9.loose (by simp) (by have := o9.le; simp only at this ⊢; omega), ⟨by
    obtain ⟨l, h1, _, _, h4⟩ := o9.ex
    have := (h4 rfl).2
    simp only at h1 this
    rw [← h1, this]; simp⟩⟩
  case round =>
    clear B6 B8 B9 hb o9 C8
    obtain ⟨j, k, v, b9, A9, n9, c9, rfl, hv, hj, hk, hkj, hb, B6, B8, B9, o9, hn9⟩ := hrel
    obtain ⟨X, hX⟩ : ∃ X, X = bitN (z ^ k).natAbs := ⟨_, rfl⟩
    rw [← hX] at hkj
    have HX := As.mk hX
    clear hX
    have C9 := B9.cells
    have C8 := B8.cells
    by_cases hxb : (X : Int) ≤ B
    · obtain rfl := hkj.out hxb
      have x1 : decide ((X : Int) ≤ B) = true := by simpa using hxb
      have x2 : decide (B < (X : Int)) = false := by simp; omega
      have x3 : decide ((X : Int) > B) = false := by simp; omega
      have hl9 : n9 ≤ 626 := by rw [hn9.out]; exact len_of_bits _ _ (by rw [← HX.out]; omega)
      rcases j with _ | m
      · obtain rfl : v = -1 := by omega
        have HP : As (z ^ (N / 2 ^ 0) = z ^ N) := ⟨by rw [Nat.pow_zero, Nat.div_one]⟩
        rw [HP.out] at o9
        have hXe := HX.out
        rw [HP.out] at hXe
        have HX2 := As.mk hXe
        clear hv hj hk hkj hxb hXe HP hn9 HX
        obtain ⟨HR1, rfl⟩ := HRES.out.1 (by rw [← HX2.out]; simpa using x1)
        have HR := As.mk HR1
        clear HR1
        go_wp2_with (first
          | (go_at_call 56; (with_reducible refine (sbitsN HX2.out ((Fs.nil _).cons o9) (by repeat (first | exact List.mem_cons_self .. | apply List.mem_cons_of_mem))).mono ?_); rintro e' wn ⟨vn, rfl, rfl, hbn⟩; clear C9 C8; replace B6 := B6.below hbn; replace B8 := B8.below hbn; replace B9 := B9.below hbn; replace o9 := o9.below hbn; have C9 := B9.cells; have C8 := B8.cells; replace hb := bthen hb hbn; clear hbn)
          | (go_at_call 48; (with_reducible refine (toldF ((Fs.nil _).cons (o9.loose (z' := z ^ N) (K' := 626) rfl hl9)) (by repeat (first | exact List.mem_cons_self .. | apply List.mem_cons_of_mem)) (by omega)).mono ?_); rintro e' wn ⟨vn, rfl, ⟨b20, A20, n20, c20, rfl, o20, f20⟩, hbn⟩; clear C9; have hne20 : ∀ k ∈ addrBlock A20, k ≠ g6 := (fun k hk e => by (have h1 := (f20 k hk).1; have h2 := B6.lt; omega)); have hge20 : ∀ k ∈ addrBlock A20, w.heap.size ≤ k := (fun k hk => Nat.le_trans hb.size (f20 k hk).1); replace B6 := B6.below hbn; replace hb := bthen hb hbn; clear hbn)
          | ((with_reducible refine g_store 6 ?_); go_must (refine ev_store rfl rfl B6 (news := [.bool b20, .slice A20 n20 c20]) (by rfl) infoNum (by simp) (by simp [Value.oneCell']) ?_); intro wn hon Bn; simp only [List.take_zero, List.nil_append, List.length_cons, List.length_nil, List.drop_succ_cons, List.drop_zero, List.append_nil, List.cons_append] at Bn; replace B6 := Bn; clear Bn; replace o20 := o20.only hon hne20; have hlt20 : ∀ k ∈ addrBlock A20, k < _ := (fun k hk => Nat.lt_of_lt_of_eq (f20 k hk).2 hon.size.symm); replace hb := hb.trans (hon.below hg6); clear hon))
        refine bodyPost_ret (results_ct rfl _ _ g6 26 #[.bool b20, .slice A20 n20 c20] (0, 0) _ rfl B6.h Tryd.underlying26 rfl (by kernel_rfl)) rfl ?_
        exact ⟨_, rfl, ⟨_, rfl, HR.out _ _ ⟨_, _, _, _, rfl, o20, fun k hk => ⟨hge20 k hk, hlt20 k hk⟩⟩⟩, hb⟩
      · obtain rfl : v = (m : Int) := by omega
        obtain ⟨D, hD⟩ : ∃ D, D = N / 2 ^ m := ⟨_, rfl⟩
        obtain ⟨k, hk'⟩ : ∃ k, k = N / 2 ^ (m + 1) := ⟨_, rfl⟩
        have hkD : k = D / 2 := by rw [hk', hD, Nat.pow_succ, Nat.div_div_eq_div_mul]
        rw [← hk'] at hk HX hn9 o9
        have hDN : D ≤ N := by rw [hD]; exact Nat.div_le_self _ _
        have hD63 : D < 9223372036854775808 := Nat.lt_of_le_of_lt hDN HN63.out
        have hsh : (N : Int) / 2 ^ min m 64 = (D : Int) := by rw [Nat.min_eq_left (by omega), hD]; simp
        have hmt : ((m : Int)).toNat = m := by simp
        obtain ⟨X2, hX2⟩ : ∃ X2, X2 = bitN (z ^ k * z ^ k).natAbs := ⟨_, rfl⟩
        have HX2 := As.mk hX2
        have HD := As.mk hD
        have HkD := As.mk hkD
        have Hk := As.mk hk'
        clear hX2 hD hkD hk' hv hxb hkj
        have hbits : bits BinOp.and IntKind.i64 ((N : Int) / 2 ^ m) 1 = ((D % 2 : Nat) : Int) := by
          rw [show (N : Int) / 2 ^ m = (D : Int) by rw [HD.out]; simp]
          exact and_one_i64 D (by omega)
        have hBl : ¬ B < 0 := by omega
        rcases Nat.mod_two_eq_zero_or_one D with hd2 | hd2
        · rw [hd2] at hbits
          have hkk : As (2 * k = D) := ⟨by have := HkD.out; omega⟩
          clear hsh hmt HX2 hD63 hd2
          go_wp2_with (first
          | (go_at_call 56; (with_reducible refine (sbitsN HX.out ((Fs.nil _).cons o9) (by repeat (first | exact List.mem_cons_self .. | apply List.mem_cons_of_mem))).mono ?_); rintro e' wn ⟨vn, rfl, rfl, hbn⟩; clear C9 C8; replace B6 := B6.below hbn; replace B8 := B8.below hbn; replace B9 := B9.below hbn; replace o9 := o9.below hbn; have C9 := B9.cells; have C8 := B8.cells; replace hb := bthen hb hbn; clear hbn)
          | (go_at_call 58; (with_reducible refine (wmulF ((Fs.nil _).cons (o9.loose (z' := z ^ k) (K' := 626) rfl hl9)) (by repeat (first | exact List.mem_cons_self .. | apply List.mem_cons_of_mem)) (by repeat (first | exact List.mem_cons_self .. | apply List.mem_cons_of_mem)) (by omega)).mono ?_); have hfirst : True := True.intro; rintro e' wn ⟨vn, rfl, ⟨b21, A21, n21, c21, rfl, o21, f21, hn21⟩, hbn⟩; clear C9 C8; have hne21 : ∀ k ∈ addrBlock A21, k ≠ g9 := (fun k hk e => by (have h1 := (f21 k hk).1; have h2 := B9.lt; omega)); clear f21; replace B6 := B6.below hbn; replace B8 := B8.below hbn; replace B9 := B9.below hbn; replace hb := bthen hb hbn; clear hbn; have hph := True.intro)
          | ((clear hph); (with_reducible refine g_store 9 ?_); go_must (refine ev_store rfl rfl B9 (news := [.slice A21 n21 c21, .bool b21]) (by rfl) infoNm (by simp) (by simp [Value.oneCell']) ?_); intro wn hon Bn; simp only [List.take_zero, List.nil_append, List.length_cons, List.length_nil, List.drop_succ_cons, List.drop_zero, List.append_nil, List.cons_append] at Bn; replace B6 := B6.only hon (Ne.symm hneb9_6); replace B8 := B8.only hon (Ne.symm hneb9_8); replace B9 := Bn; clear Bn; replace o21 := o21.only hon hne21; clear o9; have o9 := o21; clear o21; replace hb := hb.trans (hon.below hg9); clear hon; have C9 := B9.cells; have C8 := B8.cells; have HS2 := True.intro))
          go_roundw
          case rel => exact ⟨m, 2 * k, (m : Int) - 1, b21, A21, n21, c21, rfl, rfl, by omega, by rw [hkk.out]; exact hDN, ⟨fun _ => by rw [hkk.out]; exact HD.out⟩, hb, B6, B8, B9, o9.loose (pow_half z k) (by have := o9.le; simp only at this ⊢; omega), ⟨by rw [← pow_half]; exact hn21.out⟩⟩
          case measure => (simp [intOf]; try omega)
        · rw [hd2] at hbits
          have hkk : As (2 * k + 1 = D) := ⟨by have := HkD.out; omega⟩
          clear hsh hmt hD63 hd2
          by_cases hx2 : (X2 : Int) ≤ B
          · have y1 : decide ((X2 : Int) ≤ B) = true := by simpa using hx2
            have y2 : decide (B < (X2 : Int)) = false := by simp; omega
            have HLE : As ((digB 4294967296 (z ^ k * z ^ k).natAbs).length ≤ 626) := ⟨len_of_bits _ _ (by rw [← HX2.out]; omega)⟩
            clear hx2
            go_wp2_with (first
          | (go_at_call 56; (with_reducible refine (sbitsN HX.out ((Fs.nil _).cons o9) (by repeat (first | exact List.mem_cons_self .. | apply List.mem_cons_of_mem))).mono ?_); rintro e' wn ⟨vn, rfl, rfl, hbn⟩; clear C9 C8; replace B6 := B6.below hbn; replace B8 := B8.below hbn; replace B9 := B9.below hbn; replace o9 := o9.below hbn; have C9 := B9.cells; have C8 := B8.cells; replace hb := bthen hb hbn; clear hbn)
          | (go_at_call 56; (with_reducible refine (sbitsN HX2.out ((Fs.nil _).cons o9) (by repeat (first | exact List.mem_cons_self .. | apply List.mem_cons_of_mem))).mono ?_); rintro e' wn ⟨vn, rfl, rfl, hbn⟩; clear C9 C8; replace B6 := B6.below hbn; replace B8 := B8.below hbn; replace B9 := B9.below hbn; replace o9 := o9.below hbn; have C9 := B9.cells; have C8 := B8.cells; replace hb := bthen hb hbn; clear hbn)
          | (go_at_call 58; (with_reducible refine (wmulF ((Fs.nil _).cons (o9.loose (z' := z ^ k) (K' := 626) rfl hl9)) (by repeat (first | exact List.mem_cons_self .. | apply List.mem_cons_of_mem)) (by repeat (first | exact List.mem_cons_self .. | apply List.mem_cons_of_mem)) (by omega)).mono ?_); have hfirst : True := True.intro; rintro e' wn ⟨vn, rfl, ⟨b21, A21, n21, c21, rfl, o21, f21, hn21⟩, hbn⟩; clear C9 C8; have hne21 : ∀ k ∈ addrBlock A21, k ≠ g9 := (fun k hk e => by (have h1 := (f21 k hk).1; have h2 := B9.lt; omega)); clear f21; replace B6 := B6.below hbn; replace B8 := B8.below hbn; replace B9 := B9.below hbn; replace hb := bthen hb hbn; clear hbn; have hph := True.intro)
          | ((clear hph); (with_reducible refine g_store 9 ?_); go_must (refine ev_store rfl rfl B9 (news := [.slice A21 n21 c21, .bool b21]) (by rfl) infoNm (by simp) (by simp [Value.oneCell']) ?_); intro wn hon Bn; simp only [List.take_zero, List.nil_append, List.length_cons, List.length_nil, List.drop_succ_cons, List.drop_zero, List.append_nil, List.cons_append] at Bn; replace B6 := B6.only hon (Ne.symm hneb9_6); replace B8 := B8.only hon (Ne.symm hneb9_8); replace B9 := Bn; clear Bn; replace o21 := o21.only hon hne21; clear o9; have o9 := o21; clear o21; replace hb := hb.trans (hon.below hg9); clear hon; have C9 := B9.cells; have C8 := B8.cells; have HS2 := True.intro)
          | (go_at_call 58; (with_reducible refine (wmulF (((Fs.nil _).cons (F0.out _ (List.mem_cons_self ..) |>.below hb)).cons (o9.loose (z' := z ^ k * z ^ k) (K' := 626) rfl (by rw [hn21.out]; exact HLE.out))) (by repeat (first | exact List.mem_cons_self .. | apply List.mem_cons_of_mem)) (show (⟨b, A, n, c, _, _, _⟩ : NR) ∈ _ from (by repeat (first | exact List.mem_cons_self .. | apply List.mem_cons_of_mem))) (by omega)).mono ?_); clear HS2; rintro e' wn ⟨vn, rfl, ⟨b22, A22, n22, c22, rfl, o22, f22, hn22⟩, hbn⟩; clear C9 C8; have hne22 : ∀ k ∈ addrBlock A22, k ≠ g9 := (fun k hk e => by (have h1 := (f22 k hk).1; have h2 := B9.lt; omega)); clear f22; replace B6 := B6.below hbn; replace B8 := B8.below hbn; replace B9 := B9.below hbn; replace hb := bthen hb hbn; clear hbn)
          | ((with_reducible refine g_store 9 ?_); go_must (refine ev_store rfl rfl B9 (news := [.slice A22 n22 c22, .bool b22]) (by rfl) infoNm (by simp) (by simp [Value.oneCell']) ?_); intro wn hon Bn; simp only [List.take_zero, List.nil_append, List.length_cons, List.length_nil, List.drop_succ_cons, List.drop_zero, List.append_nil, List.cons_append] at Bn; replace B6 := B6.only hon (Ne.symm hneb9_6); replace B8 := B8.only hon (Ne.symm hneb9_8); replace B9 := Bn; clear Bn; replace o22 := o22.only hon hne22; clear o9; have o9 := o22; clear o22; replace hb := hb.trans (hon.below hg9); clear hon; have C9 := B9.cells; have C8 := B8.cells))
            go_roundw
            case rel => exact ⟨m, 2 * k + 1, (m : Int) - 1, b22, A22, n22, c22, rfl, rfl, by omega, by rw [hkk.out]; exact hDN, ⟨fun _ => by rw [hkk.out]; exact HD.out⟩, hb, B6, B8, B9, o9.loose (by rw [Int.pow_succ, ← pow_half]) (by have := o9.le; simp only at this ⊢; omega), ⟨by rw [Int.pow_succ, ← pow_half]; exact hn22.out⟩⟩
            case measure => (simp [intOf]; try omega)
          · have y1 : decide ((X2 : Int) ≤ B) = false := by simpa using hx2
            have y2 : decide (B < (X2 : Int)) = true := by simp; omega
            have hlt2 : As (B < (X2 : Int)) := ⟨by omega⟩
            clear hx2
            go_wp2_with (first
          | (go_at_call 56; (with_reducible refine (sbitsN HX.out ((Fs.nil _).cons o9) (by repeat (first | exact List.mem_cons_self .. | apply List.mem_cons_of_mem))).mono ?_); rintro e' wn ⟨vn, rfl, rfl, hbn⟩; clear C9 C8; replace B6 := B6.below hbn; replace B8 := B8.below hbn; replace B9 := B9.below hbn; replace o9 := o9.below hbn; have C9 := B9.cells; have C8 := B8.cells; replace hb := bthen hb hbn; clear hbn)
          | (go_at_call 56; (with_reducible refine (sbitsN HX2.out ((Fs.nil _).cons o9) (by repeat (first | exact List.mem_cons_self .. | apply List.mem_cons_of_mem))).mono ?_); rintro e' wn ⟨vn, rfl, rfl, hbn⟩; clear C9 C8; replace B6 := B6.below hbn; replace B8 := B8.below hbn; replace B9 := B9.below hbn; replace o9 := o9.below hbn; have C9 := B9.cells; have C8 := B8.cells; replace hb := bthen hb hbn; clear hbn)
          | (go_at_call 58; (with_reducible refine (wmulF ((Fs.nil _).cons (o9.loose (z' := z ^ k) (K' := 626) rfl hl9)) (by repeat (first | exact List.mem_cons_self .. | apply List.mem_cons_of_mem)) (by repeat (first | exact List.mem_cons_self .. | apply List.mem_cons_of_mem)) (by omega)).mono ?_); have hfirst : True := True.intro; rintro e' wn ⟨vn, rfl, ⟨b21, A21, n21, c21, rfl, o21, f21, hn21⟩, hbn⟩; clear C9 C8; have hne21 : ∀ k ∈ addrBlock A21, k ≠ g9 := (fun k hk e => by (have h1 := (f21 k hk).1; have h2 := B9.lt; omega)); clear f21; replace B6 := B6.below hbn; replace B8 := B8.below hbn; replace B9 := B9.below hbn; replace hb := bthen hb hbn; clear hbn; have hph := True.intro)
          | ((clear hph); (with_reducible refine g_store 9 ?_); go_must (refine ev_store rfl rfl B9 (news := [.slice A21 n21 c21, .bool b21]) (by rfl) infoNm (by simp) (by simp [Value.oneCell']) ?_); intro wn hon Bn; simp only [List.take_zero, List.nil_append, List.length_cons, List.length_nil, List.drop_succ_cons, List.drop_zero, List.append_nil, List.cons_append] at Bn; replace B6 := B6.only hon (Ne.symm hneb9_6); replace B8 := B8.only hon (Ne.symm hneb9_8); replace B9 := Bn; clear Bn; replace o21 := o21.only hon hne21; clear o9; have o9 := o21; clear o21; replace hb := hb.trans (hon.below hg9); clear hon; have C9 := B9.cells; have C8 := B8.cells; have HS2 := True.intro))
            go_roundw
            case rel => exact ⟨m, 2 * k, (m : Int) - 1, b21, A21, n21, c21, rfl, rfl, by omega, by have := hkk.out; omega, ⟨fun hle => by rw [← pow_half, ← HX2.out] at hle; have := hlt2.out; omega⟩, hb, B6, B8, B9, o9.loose (pow_half z k) (by have := o9.le; simp only at this ⊢; omega), ⟨by rw [← pow_half]; exact hn21.out⟩⟩
            case measure => (simp [intOf]; try omega)
    · have x1 : decide ((X : Int) ≤ B) = false := by simpa using hxb
      have x2 : decide (B < (X : Int)) = true := by simp; omega
      have x3 : decide ((X : Int) > B) = true := by simp; omega
      have hgr := HMON.out k hk
      rw [← HX.out] at hgr
      obtain ⟨rfl, rfl⟩ := HRES.out.2 (by omega)
      clear hgr hxb hkj hn9
      rcases j with _ | m
      · obtain rfl : v = -1 := by omega
        clear hv hj hk
        go_wp2_with (first
          | (go_at_call 56; (with_reducible refine (sbitsN HX.out ((Fs.nil _).cons o9) (by repeat (first | exact List.mem_cons_self .. | apply List.mem_cons_of_mem))).mono ?_); rintro e' wn ⟨vn, rfl, rfl, hbn⟩; clear C9 C8; replace B6 := B6.below hbn; replace B8 := B8.below hbn; replace B9 := B9.below hbn; replace o9 := o9.below hbn; have C9 := B9.cells; have C8 := B8.cells; replace hb := bthen hb hbn; clear hbn)
          | ((with_reducible refine g_store 6 ?_); go_must (refine ev_store rfl rfl B6 (news := [.bool false, .slice none 0 0]) (by first | rfl | (go_simp; try rfl)) infoNum (by simp) (by simp [Value.oneCell']) ?_); intro wn hon Bn; simp only [List.take_zero, List.nil_append, List.length_cons, List.length_nil, List.drop_succ_cons, List.drop_zero, List.append_nil, List.cons_append] at Bn; replace B6 := Bn; clear Bn; replace hb := hb.trans (hon.below hg6); clear hon))
        refine bodyPost_ret (results_ct rfl _ _ g6 26 #[.bool false, .slice none 0 0] (0, 0) _ rfl B6.h Tryd.underlying26 rfl (by kernel_rfl)) rfl ?_
        exact ⟨_, rfl, ⟨_, rfl, NumRes.nil _ _ _⟩, hb⟩
      · obtain rfl : v = (m : Int) := by omega
        clear hv hj hk
        go_wp2_with (first
          | (go_at_call 56; (with_reducible refine (sbitsN HX.out ((Fs.nil _).cons o9) (by repeat (first | exact List.mem_cons_self .. | apply List.mem_cons_of_mem))).mono ?_); rintro e' wn ⟨vn, rfl, rfl, hbn⟩; clear C9 C8; replace B6 := B6.below hbn; replace B8 := B8.below hbn; replace B9 := B9.below hbn; replace o9 := o9.below hbn; have C9 := B9.cells; have C8 := B8.cells; replace hb := bthen hb hbn; clear hbn)
          | ((with_reducible refine g_store 6 ?_); go_must (refine ev_store rfl rfl B6 (news := [.bool false, .slice none 0 0]) (by first | rfl | (go_simp; try rfl)) infoNum (by simp) (by simp [Value.oneCell']) ?_); intro wn hon Bn; simp only [List.take_zero, List.nil_append, List.length_cons, List.length_nil, List.drop_succ_cons, List.drop_zero, List.append_nil, List.cons_append] at Bn; replace B6 := Bn; clear Bn; replace hb := hb.trans (hon.below hg6); clear hon))
        refine bodyPost_ret (results_ct rfl _ _ g6 26 #[.bool false, .slice none 0 0] (0, 0) _ rfl B6.h Tryd.underlying26 rfl (by kernel_rfl)) rfl ?_
        exact ⟨_, rfl, ⟨_, rfl, NumRes.nil _ _ _⟩, hb⟩
set_option maxRecDepth 8000 in
set_option maxHeartbeats 4000000 in
theorem powR_go {e B : Int} {N : Nat} (F0 : Fs w [⟨b, A, n, c, z, K, can⟩]) (he : 2 < e) (he2 : e ≤ 9223372036854775807) (hN : (N : Int) = 2 - e % 2) (hz0 : z ≠ 0) (hz1 : z.natAbs ≤ 1) (hK : K ≤ 274877900000) (hB : 0 ≤ B) (hB2 : B ≤ 20000) (HN63 : As (N < 9223372036854775808)) (HMON : As (∀ k, k ≤ N → bitN (z ^ k).natAbs ≤ bitN (z ^ N).natAbs)) (HRES : As ((((bitN (z ^ N).natAbs : Nat) : Int) ≤ B → (∀ v w', NumRes w (z ^ N) 626 true v w' → NumRes w q 626 true v w') ∧ ok = true) ∧ (B < ((bitN (z ^ N).natAbs : Nat) : Int) → q = 0 ∧ ok = false))) :
    Calls Tryd.prog 37 #[.agg #[.bool b, .slice A n c], .int .i64 e, .int .i64 B] w (Gives w fun v w' => ∃ qv, v = .tuple #[qv, .bool ok] ∧ NumRes w (q) 626 true qv w') := by
  have HZ : As (decide (z = 0) = false) := ⟨by simpa using hz0⟩
  have HB : As (bitN z.natAbs ≤ 1) := ⟨(bitN_le_one z.natAbs).2 hz1⟩
  obtain ⟨Z, hZ⟩ : ∃ Z, Z = bitN z.natAbs := ⟨_, rfl⟩
  rw [← hZ] at HB
  have HN := As.mk hZ
  clear hZ
  have h2 : decide (B < 0) = false := by simp; omega
  have h5 : decide ((Z : Int) ≤ 1) = true := by have := HB.out; simp; omega
  have h6 : decide ((Z : Int) > 1) = false := by have := HB.out; simp; omega
  have h7 : decide ((1 : Int) < Z) = false := by have := HB.out; simp; omega
  have h1 : decide (e < 0) = false := by simp; omega
  have h8 : decide ((2 : Int) < e) = true := by simpa using he
  have h9 : decide (e > 2) = true := by simpa using he
  have h10 : e.tmod 2 = e % 2 := Int.tmod_eq_emod_of_nonneg (by omega)
  have h11 : IntKind.i64.wrap (2 - e % 2) = (N : Int) := by rw [← hN]; exact IntWalk.i64_in _ (by omega)
  have h12 : 2 - e % 2 = (N : Int) := hN.symm
  have h13 : e % 2 ≤ 1 := by omega
  have h14 : 0 ≤ e % 2 := by omega
  clear hz0 hz1 hN
  go_enter Tryd.func37, Tryd.ntmps37
  go_wp2_with (first
    | ((with_reducible refine g_dst 3 ?_); go_must (refine ev_box 3 rfl (cs := [.bool b, .slice A n c]) (by rfl) ?_); intro g3 wn hb3 B3 hg3; have C3 := B3.cells; have hb := hb3)
    | ((with_reducible refine g_dst 6 ?_); go_must (refine ev_alloc 6 rfl infoNum (cs := [.bool false, .slice none 0 0]) rfl ?_); intro g6 wn hb6 B6 hgn; have hg6 := Nat.le_trans hb.size hgn; replace B3 := B3.below hb6; replace C3 := B3.cells; replace hb := bthen hb hb6)
    | (go_at_call 47; (with_reducible refine (numOf_any b A n c _).mono ?_); rintro e wn ⟨vn, rfl, rfl, hbn⟩; clear C3 B3 hb3 hb6 hg3; replace B6 := B6.below hbn; replace hb := bthen hb hbn; clear hbn)
    | ((with_reducible refine g_dst 8 ?_); go_must (refine ev_alloc 8 rfl infoNm (cs := [.slice none 0 0, .bool false]) rfl ?_); intro g8 wn hb8 B8 hgn; have hneb8_6 : g8 ≠ g6 := (fun e => by (have h1 := B6.lt; omega)); have hg8 := Nat.le_trans hb.size hgn; replace B6 := B6.below hb8; replace hb := bthen hb hb8)
    | ((with_reducible refine g_store 8 ?_); go_must (refine ev_store rfl rfl B8 (news := [.slice A n c, .bool b]) (by rfl) infoNm (by simp) (by simp [Value.oneCell']) ?_); intro wn hon Bn; simp only [List.take_zero, List.nil_append, List.length_cons, List.length_nil, List.drop_succ_cons, List.drop_zero, List.append_nil, List.cons_append] at Bn; replace B6 := B6.only hon (Ne.symm hneb8_6); replace B8 := Bn; clear Bn; replace hb := hb.trans (hon.below hg8); clear hon; have C8 := B8.cells)
    | (go_at_call 55; (with_reducible refine (szeroF (F0.below hb) (by repeat (first | exact List.mem_cons_self .. | apply List.mem_cons_of_mem)) false HZ.out).mono ?_); rintro e wn ⟨vn, rfl, rfl, hbn⟩; clear C8; replace B6 := B6.below hbn; replace B8 := B8.below hbn; have C8 := B8.cells; replace hb := bthen hb hbn; clear hbn)
    | (go_at_call 56; (with_reducible refine (sbitsN HN.out (F0.below hb) (by repeat (first | exact List.mem_cons_self .. | apply List.mem_cons_of_mem))).mono ?_); rintro e' wn ⟨vn, rfl, rfl, hbn⟩; clear C8; replace B6 := B6.below hbn; replace B8 := B8.below hbn; have C8 := B8.cells; replace hb := bthen hb hbn; clear hbn)
    | (go_at_call 27; (with_reducible refine (ofF 1 (by omega) (by omega)).mono ?_); rintro e' wn ⟨vn, rfl, ⟨b9, A9, n9, c9, rfl, o9, f9⟩, hbn⟩; replace f9 := (fun k hk => (f9 k hk).2); clear C8; replace B6 := B6.below hbn; replace B8 := B8.below hbn; replace hb := bthen hb hbn; clear hbn)
    | (go_at_call 47; (with_reducible refine (numOf_any b9 A9 n9 c9 _).mono ?_); rintro e' wn ⟨vn, rfl, rfl, hbn⟩; replace f9 := (fun k hk => Nat.lt_of_lt_of_le (f9 k hk) hbn.size); replace B6 := B6.below hbn; replace B8 := B8.below hbn; replace o9 := o9.below hbn; replace hb := bthen hb hbn; clear hbn)
    | ((with_reducible refine g_dst 9 ?_); go_must (refine ev_alloc 9 rfl infoNm (cs := [.slice none 0 0, .bool false]) rfl ?_); intro g9 wn hb9 B9 hgn; have hneb9_6 : g9 ≠ g6 := (fun e => by (have h1 := B6.lt; omega)); have hneb9_8 : g9 ≠ g8 := (fun e => by (have h1 := B8.lt; omega)); have hne9 : ∀ k ∈ addrBlock A9, k ≠ g9 := (fun k hk e => by (have h1 := f9 k hk; omega)); clear f9; have hg9 := Nat.le_trans hb.size hgn; replace B6 := B6.below hb9; replace B8 := B8.below hb9; replace o9 := o9.below hb9; replace hb := bthen hb hb9)
    | ((with_reducible refine g_store 9 ?_); go_must (refine ev_store rfl rfl B9 (news := [.slice A9 n9 c9, .bool b9]) (by rfl) infoNm (by simp) (by simp [Value.oneCell']) ?_); intro wn hon Bn; simp only [List.take_zero, List.nil_append, List.length_cons, List.length_nil, List.drop_succ_cons, List.drop_zero, List.append_nil, List.cons_append] at Bn; replace B6 := B6.only hon (Ne.symm hneb9_6); replace B8 := B8.only hon (Ne.symm hneb9_8); replace B9 := Bn; clear Bn; replace o9 := o9.only hon hne9; replace hb := hb.trans (hon.below hg9); clear hon; have C8 := B8.cells))
  obtain ⟨KP, hKP⟩ : ∃ KP, KP = K + 1300 := ⟨_, rfl⟩
  go_loopw [10] (fun i wr => ∃ (j k : Nat) (v : Int) (b9 : Bool) (A9 : Option Addr) (n9 c9 : Nat), i = .int .i64 v ∧ v = (j : Int) - 1 ∧ j ≤ 63 ∧ k ≤ N ∧ As (((bitN (z ^ k).natAbs : Nat) : Int) ≤ B → k = N / 2 ^ j) ∧ Below w.heap.size w wr ∧ Blk wr g6 [.bool false, .slice none 0 0] 26 ∧ Blk wr g8 [.slice A n c, .bool b] 52 ∧ Blk wr g9 [.slice A9 n9 c9, .bool b9] 52 ∧ NR.Ok wr ⟨b9, A9, n9, c9, z ^ k, KP, false⟩ ∧ As (n9 = (digB 4294967296 (z ^ k).natAbs).length)) (fun i _ => (intOf i + 1).toNat)
  case atStart => exact ⟨63, 0, 62, b9, A9, n9, c9, rfl, by omega, by omega, Nat.zero_le _, ⟨fun _ => (Nat.div_eq_of_lt HN63.out).symm⟩, hb, B6, B8, B9, o9.loose (by simp) (by have := o9.le; simp only at this ⊢; omega), ⟨by
    obtain ⟨l, h1, _, _, h4⟩ := o9.ex
    have := (h4 rfl).2
    simp only at h1 this
    rw [← h1, this]; simp⟩⟩
  case round =>
    clear B6 B8 B9 hb o9 C8
    obtain ⟨j, k, v, b9, A9, n9, c9, rfl, hv, hj, hk, hkj, hb, B6, B8, B9, o9, hn9⟩ := hrel
    obtain ⟨X, hX⟩ : ∃ X, X = bitN (z ^ k).natAbs := ⟨_, rfl⟩
    rw [← hX] at hkj
    have HX := As.mk hX
    clear hX
    have C9 := B9.cells
    have C8 := B8.cells
    by_cases hxb : (X : Int) ≤ B
    · obtain rfl := hkj.out hxb
      have x1 : decide ((X : Int) ≤ B) = true := by simpa using hxb
      have x2 : decide (B < (X : Int)) = false := by simp; omega
      have x3 : decide ((X : Int) > B) = false := by simp; omega
      have hl9 : n9 ≤ 626 := by rw [hn9.out]; exact len_of_bits _ _ (by rw [← HX.out]; omega)
      rcases j with _ | m
      · obtain rfl : v = -1 := by omega
        have HP : As (z ^ (N / 2 ^ 0) = z ^ N) := ⟨by rw [Nat.pow_zero, Nat.div_one]⟩
        rw [HP.out] at o9
        have hXe := HX.out
        rw [HP.out] at hXe
        have HX2 := As.mk hXe
        clear hv hj hk hkj hxb hXe HP hn9 HX
        obtain ⟨HR1, rfl⟩ := HRES.out.1 (by rw [← HX2.out]; simpa using x1)
        have HR := As.mk HR1
        clear HR1
        go_wp2_with (first
          | (go_at_call 56; (with_reducible refine (sbitsN HX2.out ((Fs.nil _).cons o9) (by repeat (first | exact List.mem_cons_self .. | apply List.mem_cons_of_mem))).mono ?_); rintro e' wn ⟨vn, rfl, rfl, hbn⟩; clear C9 C8; replace B6 := B6.below hbn; replace B8 := B8.below hbn; replace B9 := B9.below hbn; replace o9 := o9.below hbn; have C9 := B9.cells; have C8 := B8.cells; replace hb := bthen hb hbn; clear hbn)
          | (go_at_call 48; (with_reducible refine (toldF ((Fs.nil _).cons (o9.loose (z' := z ^ N) (K' := 626) rfl hl9)) (by repeat (first | exact List.mem_cons_self .. | apply List.mem_cons_of_mem)) (by omega)).mono ?_); rintro e' wn ⟨vn, rfl, ⟨b20, A20, n20, c20, rfl, o20, f20⟩, hbn⟩; clear C9; have hne20 : ∀ k ∈ addrBlock A20, k ≠ g6 := (fun k hk e => by (have h1 := (f20 k hk).1; have h2 := B6.lt; omega)); have hge20 : ∀ k ∈ addrBlock A20, w.heap.size ≤ k := (fun k hk => Nat.le_trans hb.size (f20 k hk).1); replace B6 := B6.below hbn; replace hb := bthen hb hbn; clear hbn)
          | ((with_reducible refine g_store 6 ?_); go_must (refine ev_store rfl rfl B6 (news := [.bool b20, .slice A20 n20 c20]) (by rfl) infoNum (by simp) (by simp [Value.oneCell']) ?_); intro wn hon Bn; simp only [List.take_zero, List.nil_append, List.length_cons, List.length_nil, List.drop_succ_cons, List.drop_zero, List.append_nil, List.cons_append] at Bn; replace B6 := Bn; clear Bn; replace o20 := o20.only hon hne20; have hlt20 : ∀ k ∈ addrBlock A20, k < _ := (fun k hk => Nat.lt_of_lt_of_eq (f20 k hk).2 hon.size.symm); replace hb := hb.trans (hon.below hg6); clear hon))
        refine bodyPost_ret (results_ct rfl _ _ g6 26 #[.bool b20, .slice A20 n20 c20] (0, 0) _ rfl B6.h Tryd.underlying26 rfl (by kernel_rfl)) rfl ?_
        exact ⟨_, rfl, ⟨_, rfl, HR.out _ _ ⟨_, _, _, _, rfl, o20, fun k hk => ⟨hge20 k hk, hlt20 k hk⟩⟩⟩, hb⟩
      · obtain rfl : v = (m : Int) := by omega
        obtain ⟨D, hD⟩ : ∃ D, D = N / 2 ^ m := ⟨_, rfl⟩
        obtain ⟨k, hk'⟩ : ∃ k, k = N / 2 ^ (m + 1) := ⟨_, rfl⟩
        have hkD : k = D / 2 := by rw [hk', hD, Nat.pow_succ, Nat.div_div_eq_div_mul]
        rw [← hk'] at hk HX hn9 o9
        have hDN : D ≤ N := by rw [hD]; exact Nat.div_le_self _ _
        have hD63 : D < 9223372036854775808 := Nat.lt_of_le_of_lt hDN HN63.out
        have hsh : (N : Int) / 2 ^ min m 64 = (D : Int) := by rw [Nat.min_eq_left (by omega), hD]; simp
        have hmt : ((m : Int)).toNat = m := by simp
        obtain ⟨X2, hX2⟩ : ∃ X2, X2 = bitN (z ^ k * z ^ k).natAbs := ⟨_, rfl⟩
        have HX2 := As.mk hX2
        have HD := As.mk hD
        have HkD := As.mk hkD
        have Hk := As.mk hk'
        clear hX2 hD hkD hk' hv hxb hkj
        have hbits : bits BinOp.and IntKind.i64 ((N : Int) / 2 ^ m) 1 = ((D % 2 : Nat) : Int) := by
          rw [show (N : Int) / 2 ^ m = (D : Int) by rw [HD.out]; simp]
          exact and_one_i64 D (by omega)
        have hBl : ¬ B < 0 := by omega
        rcases Nat.mod_two_eq_zero_or_one D with hd2 | hd2
        · rw [hd2] at hbits
          have hkk : As (2 * k = D) := ⟨by have := HkD.out; omega⟩
          clear hsh hmt HX2 hD63 hd2
          go_wp2_with (first
          | (go_at_call 56; (with_reducible refine (sbitsN HX.out ((Fs.nil _).cons o9) (by repeat (first | exact List.mem_cons_self .. | apply List.mem_cons_of_mem))).mono ?_); rintro e' wn ⟨vn, rfl, rfl, hbn⟩; clear C9 C8; replace B6 := B6.below hbn; replace B8 := B8.below hbn; replace B9 := B9.below hbn; replace o9 := o9.below hbn; have C9 := B9.cells; have C8 := B8.cells; replace hb := bthen hb hbn; clear hbn)
          | (go_at_call 58; (with_reducible refine (wmulF ((Fs.nil _).cons (o9.loose (z' := z ^ k) (K' := 626) rfl hl9)) (by repeat (first | exact List.mem_cons_self .. | apply List.mem_cons_of_mem)) (by repeat (first | exact List.mem_cons_self .. | apply List.mem_cons_of_mem)) (by omega)).mono ?_); have hfirst : True := True.intro; rintro e' wn ⟨vn, rfl, ⟨b21, A21, n21, c21, rfl, o21, f21, hn21⟩, hbn⟩; clear C9 C8; have hne21 : ∀ k ∈ addrBlock A21, k ≠ g9 := (fun k hk e => by (have h1 := (f21 k hk).1; have h2 := B9.lt; omega)); clear f21; replace B6 := B6.below hbn; replace B8 := B8.below hbn; replace B9 := B9.below hbn; replace hb := bthen hb hbn; clear hbn; have hph := True.intro)
          | ((clear hph); (with_reducible refine g_store 9 ?_); go_must (refine ev_store rfl rfl B9 (news := [.slice A21 n21 c21, .bool b21]) (by rfl) infoNm (by simp) (by simp [Value.oneCell']) ?_); intro wn hon Bn; simp only [List.take_zero, List.nil_append, List.length_cons, List.length_nil, List.drop_succ_cons, List.drop_zero, List.append_nil, List.cons_append] at Bn; replace B6 := B6.only hon (Ne.symm hneb9_6); replace B8 := B8.only hon (Ne.symm hneb9_8); replace B9 := Bn; clear Bn; replace o21 := o21.only hon hne21; clear o9; have o9 := o21; clear o21; replace hb := hb.trans (hon.below hg9); clear hon; have C9 := B9.cells; have C8 := B8.cells; have HS2 := True.intro))
          go_roundw
          case rel => exact ⟨m, 2 * k, (m : Int) - 1, b21, A21, n21, c21, rfl, rfl, by omega, by rw [hkk.out]; exact hDN, ⟨fun _ => by rw [hkk.out]; exact HD.out⟩, hb, B6, B8, B9, o9.loose (pow_half z k) (by have := o9.le; simp only at this ⊢; omega), ⟨by rw [← pow_half]; exact hn21.out⟩⟩
          case measure => (simp [intOf]; try omega)
        · rw [hd2] at hbits
          have hkk : As (2 * k + 1 = D) := ⟨by have := HkD.out; omega⟩
          clear hsh hmt hD63 hd2
          by_cases hx2 : (X2 : Int) ≤ B
          · have y1 : decide ((X2 : Int) ≤ B) = true := by simpa using hx2
            have y2 : decide (B < (X2 : Int)) = false := by simp; omega
            have HLE : As ((digB 4294967296 (z ^ k * z ^ k).natAbs).length ≤ 626) := ⟨len_of_bits _ _ (by rw [← HX2.out]; omega)⟩
            clear hx2
            go_wp2_with (first
          | (go_at_call 56; (with_reducible refine (sbitsN HX.out ((Fs.nil _).cons o9) (by repeat (first | exact List.mem_cons_self .. | apply List.mem_cons_of_mem))).mono ?_); rintro e' wn ⟨vn, rfl, rfl, hbn⟩; clear C9 C8; replace B6 := B6.below hbn; replace B8 := B8.below hbn; replace B9 := B9.below hbn; replace o9 := o9.below hbn; have C9 := B9.cells; have C8 := B8.cells; replace hb := bthen hb hbn; clear hbn)
          | (go_at_call 56; (with_reducible refine (sbitsN HX2.out ((Fs.nil _).cons o9) (by repeat (first | exact List.mem_cons_self .. | apply List.mem_cons_of_mem))).mono ?_); rintro e' wn ⟨vn, rfl, rfl, hbn⟩; clear C9 C8; replace B6 := B6.below hbn; replace B8 := B8.below hbn; replace B9 := B9.below hbn; replace o9 := o9.below hbn; have C9 := B9.cells; have C8 := B8.cells; replace hb := bthen hb hbn; clear hbn)
          | (go_at_call 58; (with_reducible refine (wmulF ((Fs.nil _).cons (o9.loose (z' := z ^ k) (K' := 626) rfl hl9)) (by repeat (first | exact List.mem_cons_self .. | apply List.mem_cons_of_mem)) (by repeat (first | exact List.mem_cons_self .. | apply List.mem_cons_of_mem)) (by omega)).mono ?_); have hfirst : True := True.intro; rintro e' wn ⟨vn, rfl, ⟨b21, A21, n21, c21, rfl, o21, f21, hn21⟩, hbn⟩; clear C9 C8; have hne21 : ∀ k ∈ addrBlock A21, k ≠ g9 := (fun k hk e => by (have h1 := (f21 k hk).1; have h2 := B9.lt; omega)); clear f21; replace B6 := B6.below hbn; replace B8 := B8.below hbn; replace B9 := B9.below hbn; replace hb := bthen hb hbn; clear hbn; have hph := True.intro)
          | ((clear hph); (with_reducible refine g_store 9 ?_); go_must (refine ev_store rfl rfl B9 (news := [.slice A21 n21 c21, .bool b21]) (by rfl) infoNm (by simp) (by simp [Value.oneCell']) ?_); intro wn hon Bn; simp only [List.take_zero, List.nil_append, List.length_cons, List.length_nil, List.drop_succ_cons, List.drop_zero, List.append_nil, List.cons_append] at Bn; replace B6 := B6.only hon (Ne.symm hneb9_6); replace B8 := B8.only hon (Ne.symm hneb9_8); replace B9 := Bn; clear Bn; replace o21 := o21.only hon hne21; clear o9; have o9 := o21; clear o21; replace hb := hb.trans (hon.below hg9); clear hon; have C9 := B9.cells; have C8 := B8.cells; have HS2 := True.intro)
          | (go_at_call 58; (with_reducible refine (wmulF (((Fs.nil _).cons (F0.out _ (List.mem_cons_self ..) |>.below hb)).cons (o9.loose (z' := z ^ k * z ^ k) (K' := 626) rfl (by rw [hn21.out]; exact HLE.out))) (by repeat (first | exact List.mem_cons_self .. | apply List.mem_cons_of_mem)) (show (⟨b, A, n, c, _, _, _⟩ : NR) ∈ _ from (by repeat (first | exact List.mem_cons_self .. | apply List.mem_cons_of_mem))) (by omega)).mono ?_); clear HS2; rintro e' wn ⟨vn, rfl, ⟨b22, A22, n22, c22, rfl, o22, f22, hn22⟩, hbn⟩; clear C9 C8; have hne22 : ∀ k ∈ addrBlock A22, k ≠ g9 := (fun k hk e => by (have h1 := (f22 k hk).1; have h2 := B9.lt; omega)); clear f22; replace B6 := B6.below hbn; replace B8 := B8.below hbn; replace B9 := B9.below hbn; replace hb := bthen hb hbn; clear hbn)
          | ((with_reducible refine g_store 9 ?_); go_must (refine ev_store rfl rfl B9 (news := [.slice A22 n22 c22, .bool b22]) (by rfl) infoNm (by simp) (by simp [Value.oneCell']) ?_); intro wn hon Bn; simp only [List.take_zero, List.nil_append, List.length_cons, List.length_nil, List.drop_succ_cons, List.drop_zero, List.append_nil, List.cons_append] at Bn; replace B6 := B6.only hon (Ne.symm hneb9_6); replace B8 := B8.only hon (Ne.symm hneb9_8); replace B9 := Bn; clear Bn; replace o22 := o22.only hon hne22; clear o9; have o9 := o22; clear o22; replace hb := hb.trans (hon.below hg9); clear hon; have C9 := B9.cells; have C8 := B8.cells))
            go_roundw
            case rel => exact ⟨m, 2 * k + 1, (m : Int) - 1, b22, A22, n22, c22, rfl, rfl, by omega, by rw [hkk.out]; exact hDN, ⟨fun _ => by rw [hkk.out]; exact HD.out⟩, hb, B6, B8, B9, o9.loose (by rw [Int.pow_succ, ← pow_half]) (by have := o9.le; simp only at this ⊢; omega), ⟨by rw [Int.pow_succ, ← pow_half]; exact hn22.out⟩⟩
            case measure => (simp [intOf]; try omega)
          · have y1 : decide ((X2 : Int) ≤ B) = false := by simpa using hx2
            have y2 : decide (B < (X2 : Int)) = true := by simp; omega
            have hlt2 : As (B < (X2 : Int)) := ⟨by omega⟩
            clear hx2
            go_wp2_with (first
          | (go_at_call 56; (with_reducible refine (sbitsN HX.out ((Fs.nil _).cons o9) (by repeat (first | exact List.mem_cons_self .. | apply List.mem_cons_of_mem))).mono ?_); rintro e' wn ⟨vn, rfl, rfl, hbn⟩; clear C9 C8; replace B6 := B6.below hbn; replace B8 := B8.below hbn; replace B9 := B9.below hbn; replace o9 := o9.below hbn; have C9 := B9.cells; have C8 := B8.cells; replace hb := bthen hb hbn; clear hbn)
          | (go_at_call 56; (with_reducible refine (sbitsN HX2.out ((Fs.nil _).cons o9) (by repeat (first | exact List.mem_cons_self .. | apply List.mem_cons_of_mem))).mono ?_); rintro e' wn ⟨vn, rfl, rfl, hbn⟩; clear C9 C8; replace B6 := B6.below hbn; replace B8 := B8.below hbn; replace B9 := B9.below hbn; replace o9 := o9.below hbn; have C9 := B9.cells; have C8 := B8.cells; replace hb := bthen hb hbn; clear hbn)
          | (go_at_call 58; (with_reducible refine (wmulF ((Fs.nil _).cons (o9.loose (z' := z ^ k) (K' := 626) rfl hl9)) (by repeat (first | exact List.mem_cons_self .. | apply List.mem_cons_of_mem)) (by repeat (first | exact List.mem_cons_self .. | apply List.mem_cons_of_mem)) (by omega)).mono ?_); have hfirst : True := True.intro; rintro e' wn ⟨vn, rfl, ⟨b21, A21, n21, c21, rfl, o21, f21, hn21⟩, hbn⟩; clear C9 C8; have hne21 : ∀ k ∈ addrBlock A21, k ≠ g9 := (fun k hk e => by (have h1 := (f21 k hk).1; have h2 := B9.lt; omega)); clear f21; replace B6 := B6.below hbn; replace B8 := B8.below hbn; replace B9 := B9.below hbn; replace hb := bthen hb hbn; clear hbn; have hph := True.intro)
          | ((clear hph); (with_reducible refine g_store 9 ?_); go_must (refine ev_store rfl rfl B9 (news := [.slice A21 n21 c21, .bool b21]) (by rfl) infoNm (by simp) (by simp [Value.oneCell']) ?_); intro wn hon Bn; simp only [List.take_zero, List.nil_append, List.length_cons, List.length_nil, List.drop_succ_cons, List.drop_zero, List.append_nil, List.cons_append] at Bn; replace B6 := B6.only hon (Ne.symm hneb9_6); replace B8 := B8.only hon (Ne.symm hneb9_8); replace B9 := Bn; clear Bn; replace o21 := o21.only hon hne21; clear o9; have o9 := o21; clear o21; replace hb := hb.trans (hon.below hg9); clear hon; have C9 := B9.cells; have C8 := B8.cells; have HS2 := True.intro))
            go_roundw
            case rel => exact ⟨m, 2 * k, (m : Int) - 1, b21, A21, n21, c21, rfl, rfl, by omega, by have := hkk.out; omega, ⟨fun hle => by rw [← pow_half, ← HX2.out] at hle; have := hlt2.out; omega⟩, hb, B6, B8, B9, o9.loose (pow_half z k) (by have := o9.le; simp only at this ⊢; omega), ⟨by rw [← pow_half]; exact hn21.out⟩⟩
            case measure => (simp [intOf]; try omega)
    · have x1 : decide ((X : Int) ≤ B) = false := by simpa using hxb
      have x2 : decide (B < (X : Int)) = true := by simp; omega
      have x3 : decide ((X : Int) > B) = true := by simp; omega
      have hgr := HMON.out k hk
      rw [← HX.out] at hgr
      obtain ⟨rfl, rfl⟩ := HRES.out.2 (by omega)
      clear hgr hxb hkj hn9
      rcases j with _ | m
      · obtain rfl : v = -1 := by omega
        clear hv hj hk
        go_wp2_with (first
          | (go_at_call 56; (with_reducible refine (sbitsN HX.out ((Fs.nil _).cons o9) (by repeat (first | exact List.mem_cons_self .. | apply List.mem_cons_of_mem))).mono ?_); rintro e' wn ⟨vn, rfl, rfl, hbn⟩; clear C9 C8; replace B6 := B6.below hbn; replace B8 := B8.below hbn; replace B9 := B9.below hbn; replace o9 := o9.below hbn; have C9 := B9.cells; have C8 := B8.cells; replace hb := bthen hb hbn; clear hbn)
          | ((with_reducible refine g_store 6 ?_); go_must (refine ev_store rfl rfl B6 (news := [.bool false, .slice none 0 0]) (by first | rfl | (go_simp; try rfl)) infoNum (by simp) (by simp [Value.oneCell']) ?_); intro wn hon Bn; simp only [List.take_zero, List.nil_append, List.length_cons, List.length_nil, List.drop_succ_cons, List.drop_zero, List.append_nil, List.cons_append] at Bn; replace B6 := Bn; clear Bn; replace hb := hb.trans (hon.below hg6); clear hon))
        refine bodyPost_ret (results_ct rfl _ _ g6 26 #[.bool false, .slice none 0 0] (0, 0) _ rfl B6.h Tryd.underlying26 rfl (by kernel_rfl)) rfl ?_
        exact ⟨_, rfl, ⟨_, rfl, NumRes.nil _ _ _⟩, hb⟩
      · obtain rfl : v = (m : Int) := by omega
        clear hv hj hk
        go_wp2_with (first
          | (go_at_call 56; (with_reducible refine (sbitsN HX.out ((Fs.nil _).cons o9) (by repeat (first | exact List.mem_cons_self .. | apply List.mem_cons_of_mem))).mono ?_); rintro e' wn ⟨vn, rfl, rfl, hbn⟩; clear C9 C8; replace B6 := B6.below hbn; replace B8 := B8.below hbn; replace B9 := B9.below hbn; replace o9 := o9.below hbn; have C9 := B9.cells; have C8 := B8.cells; replace hb := bthen hb hbn; clear hbn)
          | ((with_reducible refine g_store 6 ?_); go_must (refine ev_store rfl rfl B6 (news := [.bool false, .slice none 0 0]) (by first | rfl | (go_simp; try rfl)) infoNum (by simp) (by simp [Value.oneCell']) ?_); intro wn hon Bn; simp only [List.take_zero, List.nil_append, List.length_cons, List.length_nil, List.drop_succ_cons, List.drop_zero, List.append_nil, List.cons_append] at Bn; replace B6 := Bn; clear Bn; replace hb := hb.trans (hon.below hg6); clear hon))
        refine bodyPost_ret (results_ct rfl _ _ g6 26 #[.bool false, .slice none 0 0] (0, 0) _ rfl B6.h Tryd.underlying26 rfl (by kernel_rfl)) rfl ?_
        exact ⟨_, rfl, ⟨_, rfl, NumRes.nil _ _ _⟩, hb⟩
theorem powF {e B : Int} (F : Fs w L) (h : (⟨b, A, n, c, z, K, can⟩ : NR) ∈ L) (hP : PW z e B q ok) (h1 : -9223372036854775808 ≤ e) (h2 : e ≤ 9223372036854775807) (hB2 : B ≤ 20000) (hK : K ≤ 274877900000) :
    Calls Tryd.prog 37 #[.agg #[.bool b, .slice A n c], .int .i64 e, .int .i64 B] w (Gives w fun v w' => ∃ qv, v = .tuple #[qv, .bool ok] ∧ NumRes w (q) 626 true qv w') := by
  have F0 : Fs w [⟨b, A, n, c, z, K, can⟩] := (Fs.nil w).cons (F.out _ h)
  rcases Int.lt_or_le e 0 with he | he
  · rcases hP with ⟨_, rfl, rfl⟩ | ⟨h3, _⟩
    · exact powN_go F0 he
    · exact absurd h3 (by omega)
  rcases Int.lt_or_le B 0 with hB | hB
  · rcases hP with ⟨_, rfl, rfl⟩ | ⟨_, h3, _⟩
    · exact powB_go F0 he hB
    · exact absurd h3 (by omega)
  obtain ⟨M, rfl⟩ : ∃ M : Nat, e = (M : Int) := ⟨e.toNat, by omega⟩
  have hP' : (((bitN (z ^ M).natAbs : Nat) : Int) ≤ B ∧ q = z ^ M ∧ ok = true) ∨ (B < ((bitN (z ^ M).natAbs : Nat) : Int) ∧ q = 0 ∧ ok = false) := by
    rcases hP with ⟨h3, _⟩ | ⟨_, _, h3⟩
    · exact absurd h3 (by omega)
    · simpa using h3
  have HRES : As ((((bitN (z ^ M).natAbs : Nat) : Int) ≤ B → (∀ v w', NumRes w (z ^ M) 626 true v w' → NumRes w q 626 true v w') ∧ ok = true) ∧ (B < ((bitN (z ^ M).natAbs : Nat) : Int) → q = 0 ∧ ok = false)) := ⟨by
    rcases hP' with ⟨h3, rfl, rfl⟩ | ⟨h3, rfl, rfl⟩
    · exact ⟨fun _ => ⟨fun v w' h => h, rfl⟩, fun h => by omega⟩
    · exact ⟨fun h => by omega, fun _ => ⟨rfl, rfl⟩⟩⟩
  by_cases hz : z = 0
  · subst hz
    rcases Nat.eq_zero_or_pos M with rfl | hM
    · exact powO_go (N := 0) F0 rfl rfl (by decide) rfl hK hB hB2 ⟨by decide⟩ ⟨fun k hk => by rw [Nat.le_zero.1 hk]; exact Nat.le_refl _⟩ HRES
    · have e0 : (0 : Int) ^ M = 0 := Int.zero_pow (by omega)
      rw [e0, show ((0 : Int).natAbs) = 0 from rfl, bitN_zero] at hP'
      rcases hP' with ⟨_, rfl, rfl⟩ | ⟨h3, _⟩
      · exact powZ_go F0 (by omega) hB rfl
      · exact absurd h3 (by omega)
  have HMON : ∀ N : Nat, As (∀ k, k ≤ N → bitN (z ^ k).natAbs ≤ bitN (z ^ N).natAbs) := fun N => ⟨fun k hk => bitN_mono (pow_grows hz hk)⟩
  rcases Nat.lt_or_ge 1 z.natAbs with h1z | h1z
  · by_cases hlt : (M : Int) < B
    · exact powD_go F0 rfl h1z hlt hK hB hB2 ⟨by omega⟩ (HMON _) HRES
    · obtain ⟨rfl, rfl⟩ := HRES.out.2 (by have := pow_bits h1z M; omega)
      exact powT_go F0 he hB h1z (by omega)
  · rcases Nat.lt_or_ge 2 M with h2M | h2M
    · rw [pow_round h1z M h2M] at HRES
      exact powR_go F0 (by omega) h2 (by omega) hz h1z hK hB hB2 ⟨by omega⟩ (HMON _) HRES
    · exact powC_go F0 rfl hz h1z h2M hK hB hB2 ⟨by omega⟩ (HMON _) HRES
end
end Go.Proofs.YtigoofeodbbbhaaDoor
