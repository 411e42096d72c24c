/- nat.Div: by 0; of a number below the divisor; by a number of one limb. -/
import Derived.Test.YtigoofeodbbbhaaDoorNat7
namespace Go.Proofs.YtigoofeodbbbhaaDoor
open Go.RowKit Go.Proofs.YtigoofeodbbbhaaDoorL Go.Proofs.YtigoofeodbbbhaaDoorM
set_option linter.unusedVariables false
set_option linter.unusedSimpArgs false
/-- what a division answers -/
def DivTo (base : Nat) (w : World) (v : Value) (V U : Nat) : Prop := ∃ q r, v = .tuple #[q, r, .bool true] ∧ Ow encU 1 62 base w q (digB 4294967296 (V / U)) ∧ Ow encU 1 62 base w r (digB 4294967296 (V % U))
theorem ownN_any (l : List Nat) (n : Nat) (hn : l.length = n) (A : Option Addr) (c : Nat) (w : World) (hr : Rd encU 1 w A l) (hc : n ≤ c) (hA : A = none → c = 0) (hm : n ≤ 4398046511104) :
    Calls Tryd.prog 75 #[.slice A n c] w (Gives w fun v w' => Ow encU 1 62 w.heap.size w' v (trimL l)) := by
  subst hn; exact own_any l A c w hr hc hA (by omega)
theorem cmpN_nonneg {a b : Nat} (h : b ≤ a) : decide (cmpN a b < 0) = false := by
  rw [decide_eq_false_iff_not]
  rcases Nat.lt_or_ge b a with h1 | h1
  · rw [cmpN_gt h1]; omega
  · rw [cmpN_eq (by omega)]; omega
set_option maxHeartbeats 1000000 in
theorem natDiv0_any (l m : List Nat) (A A2 : Option Addr) (c c2 : Nat) (w : World) (h : Lim w A c l) (h2 : Lim w A2 c2 m) (h0 : valB 4294967296 m = 0) :
    Calls Tryd.prog 50 #[.slice A l.length c, .slice A2 m.length c2] w (Gives w fun v w' => v = .tuple #[.slice none 0 0, .slice none 0 0, .bool false]) := by
  obtain ⟨L, hL⟩ : ∃ L, L = trimL l := ⟨_, rfl⟩
  have T1 := As.mk (trimN_any l L A c w hL.symm h.rd h.cap (Nat.le_trans h.max (by omega)))
  have T2 := As.mk (trimN_any m [] A2 c2 w (by rw [trimL_dig 4294967296 (by omega) m h2.lt, h0, digB_zero]) h2.rd h2.cap (Nat.le_trans h2.max (by omega)))
  clear hL h0
  go_enter Tryd.func50, Tryd.ntmps50
  go_wp2_with (first
    | (go_at_call 73; (with_reducible refine T1.out.mono ?_); rintro e w1 ⟨rfl, rfl⟩)
    | (go_at_call 73; (with_reducible refine T2.out.mono ?_); rintro e w1 ⟨rfl, rfl⟩))
  go_ret3
  exact ⟨_, rfl, rfl, Below.refl _ _⟩
set_option maxHeartbeats 1000000 in
theorem natDivLt_any (l m : List Nat) (A A2 : Option Addr) (c c2 : Nat) (w : World) (h : Lim w A c l) (h2 : Lim w A2 c2 m) (hlt : valB 4294967296 l < valB 4294967296 m) :
    Calls Tryd.prog 50 #[.slice A l.length c, .slice A2 m.length c2] w (Gives w fun v w' => DivTo w.heap.size w' v (valB 4294967296 l) (valB 4294967296 m)) := by
  obtain ⟨V, hV⟩ : ∃ V, V = valB 4294967296 l := ⟨_, rfl⟩
  obtain ⟨U, hU⟩ : ∃ U, U = valB 4294967296 m := ⟨_, rfl⟩
  rw [← hV, ← hU] at hlt ⊢
  obtain ⟨L, hL⟩ : ∃ L, L = digB 4294967296 V := ⟨_, rfl⟩
  obtain ⟨M, hM⟩ : ∃ M, M = digB 4294967296 U := ⟨_, rfl⟩
  have htl : trimL l = L := by rw [hL, hV]; exact trimL_dig 4294967296 (by omega) l h.lt
  have htm : trimL m = M := by rw [hM, hU]; exact trimL_dig 4294967296 (by omega) m h2.lt
  have hLle : L.length ≤ l.length := by rw [← htl]; exact trimL_le l
  have hMle : M.length ≤ m.length := by rw [← htm]; exact trimL_le m
  have hlm := h.max
  have hmm := h2.max
  have hlc := h.cap
  have hmc := h2.cap
  have hrL : Rd encU 1 w A L := by have := Rd.trim h.rd; rwa [htl] at this
  have hrM : Rd encU 1 w A2 M := by have := Rd.trim h2.rd; rwa [htm] at this
  have T1 := As.mk (trimN_any l L A c w htl h.rd h.cap (by omega))
  have T2 := As.mk (trimN_any m M A2 c2 w htm h2.rd h2.cap (by omega))
  have hcmp := natCmp_any L M A A2 c c2 w hrL hrM ⟨by rw [hL]; exact digB_lt _ (by omega) V, by rw [hM]; exact digB_lt _ (by omega) U⟩ (by omega) (by omega) (by omega) (by omega)
  rw [show valB 4294967296 L = V by rw [hL]; exact digB_val _ (by omega) V, show valB 4294967296 M = U by rw [hM]; exact digB_val _ (by omega) U, cmpN_lt hlt] at hcmp
  have HC := As.mk hcmp
  have HO := As.mk (fun w1 (hb : Below w.heap.size w w1) => ownN_any L L.length rfl A c w1 (hrL.below hb) (by omega) h.none (by omega))
  rw [show trimL L = digB 4294967296 V by rw [hL]; exact trimL_of_canon _ (digB_canon _ (by omega) V)] at HO
  have hM0 : ((M.length : Int) == 0) = false := by
    have : M ≠ [] := fun e => by rw [e] at hM; have := (digB_eq_nil 4294967296 U (by omega)).1 hM.symm; omega
    simp; exact this
  have Hq : As (V / U = 0 ∧ V % U = V) := ⟨Nat.div_eq_of_lt hlt, Nat.mod_eq_of_lt hlt⟩
  clear htl htm hV hU hL hM hlt hcmp
  go_enter Tryd.func50, Tryd.ntmps50
  go_wp2_with (first
    | (go_at_call 73; (with_reducible refine T1.out.mono ?_); rintro e w1 ⟨rfl, rfl⟩)
    | (go_at_call 73; (with_reducible refine T2.out.mono ?_); rintro e w1 ⟨rfl, rfl⟩)
    | (go_at_call 74; (with_reducible refine HC.out.mono ?_); rintro e w1 ⟨v1, rfl, rfl, hb1⟩)
    | (go_at_call 75; (with_reducible refine (HO.out _ hb1).mono ?_); rintro e w2 ⟨v2, rfl, ho2, hb2⟩))
  go_ret3
  exact ⟨_, rfl, ⟨.slice none 0 0, v2, rfl, by rw [Hq.out.1, digB_zero]; exact Ow.nil _ _ _ _ _, by rw [Hq.out.2]; exact ho2.lower hb1.size⟩, bthen hb1 hb2⟩
set_option maxHeartbeats 1000000 in
theorem natDiv1_any (l m : List Nat) (A A2 : Option Addr) (c c2 : Nat) (w : World) (h : Lim w A c l) (h2 : Lim w A2 c2 m) (hle : valB 4294967296 m ≤ valB 4294967296 l) (h0 : 0 < valB 4294967296 m) (h1 : valB 4294967296 m < 4294967296) :
    Calls Tryd.prog 50 #[.slice A l.length c, .slice A2 m.length c2] w (Gives w fun v w' => DivTo w.heap.size w' v (valB 4294967296 l) (valB 4294967296 m)) := by
  obtain ⟨V, hV⟩ : ∃ V, V = valB 4294967296 l := ⟨_, rfl⟩
  obtain ⟨U, hU⟩ : ∃ U, U = valB 4294967296 m := ⟨_, rfl⟩
  rw [← hU] at h0 h1
  rw [← hV, ← hU] at hle ⊢
  obtain ⟨L, hL⟩ : ∃ L, L = digB 4294967296 V := ⟨_, rfl⟩
  have hM : digB 4294967296 U = [U] := by rw [digB_pos _ _ (by omega) h0, Nat.div_eq_of_lt h1, digB_zero, Nat.mod_eq_of_lt h1]
  have htl : trimL l = L := by rw [hL, hV]; exact trimL_dig 4294967296 (by omega) l h.lt
  have htm : trimL m = [U] := by rw [← hM, hU]; exact trimL_dig 4294967296 (by omega) m h2.lt
  have hLle : L.length ≤ l.length := by rw [← htl]; exact trimL_le l
  have hMle : 1 ≤ m.length := by have := trimL_le m; rw [htm] at this; simpa using this
  have hlm := h.max
  have hmm := h2.max
  have hlc := h.cap
  have hmc := h2.cap
  have hrL : Rd encU 1 w A L := by have := Rd.trim h.rd; rwa [htl] at this
  have hrM : Rd encU 1 w A2 [U] := by have := Rd.trim h2.rd; rwa [htm] at this
  have T1 := As.mk (trimN_any l L A c w htl h.rd h.cap (by omega))
  have T2 := As.mk (trimN_any m [U] A2 c2 w htm h2.rd h2.cap (by omega))
  have hVL : valB 4294967296 L = V := by rw [hL]; exact digB_val _ (by omega) V
  have hLl : ∀ x ∈ L, x < 4294967296 := by rw [hL]; exact digB_lt _ (by omega) V
  have hcmp := natCmp_any L [U] A A2 c c2 w hrL hrM ⟨hLl, fun x hx => by simp at hx; omega⟩ (by omega) (by simp; omega) (by omega) (by simp)
  rw [hVL, show valB 4294967296 [U] = U by simp [valB]] at hcmp
  have hge := cmpN_nonneg hle
  have hcr := cmpN_range V U
  obtain ⟨cv, hcv⟩ : ∃ cv, cv = cmpN V U := ⟨_, rfl⟩
  rw [← hcv] at hcmp hge hcr
  have HC := As.mk hcmp
  have HS := As.mk (fun w1 (hb : Below w.heap.size w w1) => small_any L A c U w1 (hrL.below hb) hLl h0 h1 (by omega) (by omega))
  rw [hVL] at HS
  obtain ⟨r, hr⟩ : ∃ r, r = V % U := ⟨_, rfl⟩
  have hrb : r < 4294967296 := by have := Nat.mod_lt V h0; omega
  have HO := As.mk (fun w1 g (B : Blk w1 g [valU r] 62) => ownN_any [r] 1 rfl (some ⟨g, 0, none⟩) 1 w1 (B.rdm (l := [r]) encU_one) (Nat.le_refl _) (fun h => (nomatch h)) (by omega))
  rw [trimL_dig 4294967296 (by omega) [r] (fun x hx => by simp at hx; omega), show valB 4294967296 [r] = r by simp [valB]] at HO
  obtain ⟨b, off, rfl⟩ := h2.rd.get (ne_nil_of_lt (i := 0) (by omega))
  have hcl := fun w1 (hb : Below w.heap.size w w1) => Rd.u (hrM.below hb) 0 (by simp)
  have Hcl : As (∀ w1, Below w.heap.size w w1 → w1.cell? ⟨b, off, none⟩ = some (.int .u32 (U : Nat))) := ⟨fun w1 hb => by simpa using hcl w1 hb⟩
  have Hr := As.mk hr
  simp only [List.length_cons, List.length_nil, Nat.zero_add] at T2 HC
  have hc20 : 0 < c2 := by omega
  rw [← hr] at HS
  clear htl htm hV hU hL hM hcmp hle hcl hVL hLl hcv hr
  go_enter Tryd.func50, Tryd.ntmps50
  go_wp2_with (first
    | (go_at_call 73; (with_reducible refine T1.out.mono ?_); rintro e w1 ⟨rfl, rfl⟩)
    | (go_at_call 73; (with_reducible refine T2.out.mono ?_); rintro e w1 ⟨rfl, rfl⟩)
    | (go_at_call 74; (with_reducible refine HC.out.mono ?_); rintro e w1 ⟨v1, rfl, rfl, hb1⟩; have hcell := Hcl.out _ hb1)
    | (go_at_call 76; (with_reducible refine (HS.out _ hb1).mono ?_); rintro e w2 ⟨v2, rfl, ⟨q, rfl, ho2⟩, hb2⟩; have hb12 := bthen hb1 hb2)
    | ((with_reducible refine g_dst 42 ?_); go_must (refine ev_lit (v := fun g => .slice (some ⟨g, 0, none⟩) 1 1) 42 rfl (cs := [valU r]) (t := 62) (by go_simp; rfl) ?_); intro g3 w3 hb3 B3 hg3; have ho23 := ho2.below hb3; have hb13 := bthen hb12 hb3)
    | (go_at_call 75; (with_reducible refine (HO.out _ _ B3).mono ?_); rintro e w4 ⟨v4, rfl, ho4, hb4⟩; have ho24 := ho23.below hb4))
  go_ret3
  exact ⟨_, rfl, ⟨q, v4, rfl, ho24.lower hb1.size, by rw [← Hr.out]; exact ho4.lower hb13.size⟩, bthen hb13 hb4⟩
end Go.Proofs.YtigoofeodbbbhaaDoor
