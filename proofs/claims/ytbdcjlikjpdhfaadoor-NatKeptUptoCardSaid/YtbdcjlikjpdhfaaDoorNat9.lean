/- nat.left, nat.right: limbs moved up and down by fewer than 32 binary digits. -/
import Derived.Test.YtbdcjlikjpdhfaaDoorNat8
import Derived.Test.YtbdcjlikjpdhfaaDoorMath12
import Derived.Test.YtbdcjlikjpdhfaaDoorLib4
import Derived.StillTailTactics
namespace Go.Proofs.YtbdcjlikjpdhfaaDoor
open Go.RowKit Go.Proofs.YtbdcjlikjpdhfaaDoorL Go.Proofs.YtbdcjlikjpdhfaaDoorM
set_option linter.unusedVariables false
set_option linter.unusedSimpArgs false
theorem fill_two (S : List Nat) (t v h k m : Nat) (hS : S.length = k) : (((S ++ [t]) ++ List.replicate (m + 1) 0).set k v).set (k + 1) h = ((S ++ [v]) ++ [h]) ++ List.replicate m 0 := by
  subst hS
  rw [List.replicate_succ]
  simp [List.set_append]
/-- a list in one block that is new -/
def NewL (base : Nat) (w : World) (v : Value) (n : Nat) (l : List Nat) : Prop := ∃ g, v = .slice (some ⟨g, 0, none⟩) n n ∧ base ≤ g ∧ Blk w g (l.map valU) 36 ∧ l.length = n ∧ (∀ x ∈ l, x < 4294967296)
set_option maxRecDepth 8000 in
set_option maxHeartbeats 1000000 in
theorem left_any (l : List Nat) (A : Option Addr) (c n m : Nat) (w : World) (hr : Rd encU 1 w A l) (hl : ∀ x ∈ l, x < 4294967296) (hn : n < 32) (hln : l.length = m) (hc : m ≤ c) (hm : m ≤ 4398046511104) :
    Calls Tryd.prog 58 #[.slice A m c, .int .i64 n] w (Gives w fun v w' => ∃ L, NewL w.heap.size w' v (m + 1) L ∧ valB 4294967296 L = valB 4294967296 l * 2 ^ n) := by
  have HL := As.mk hl
  have Hln := As.mk hln
  have hrd := As.mk hr
  clear hl hln
  go_enter Tryd.func58, Tryd.ntmps58
  go_wp2_with ((with_reducible refine g_dst 11 ?_); go_must (refine ev_make 11 rfl Tryd.underlying22 infoU rfl (n := m + 1) (by go_simp; rfl) (by go_simp; rfl) (by omega) (by omega) ?_); intro g w1 hb1 B1 hg)
  go_loopw [14, 6, 7] (fun v _ _ wr => ∃ (k t : Nat) (S : List Nat), k ≤ m ∧ v = .int .i64 (k : Int) ∧ As (S.length = k) ∧ t < 2 ^ n ∧ As (∀ x ∈ S, x < 4294967296) ∧ As (valB 4294967296 (S ++ [t]) = valB 4294967296 (l.take k) * 2 ^ n) ∧ Below w.heap.size w wr ∧ Blk wr g (((S ++ [t]) ++ List.replicate (m - k) 0).map valU) 36) (fun v _ _ _ => m - (intOf v).toNat)
  case atStart => exact ⟨0, 0, [], by omega, rfl, ⟨rfl⟩, Nat.pow_pos (by omega), ⟨fun x hx => (nomatch hx)⟩, ⟨by simp [valB]⟩, hb1, by simpa [valU, List.replicate_succ] using B1⟩
  case round =>
    clear B1 hb1
    obtain ⟨k, t, S, hk, rfl, hS, ht, hSl, hV, hb, B⟩ := hrel
    by_cases h : k < m
    · have hkl : k < l.length := by rw [Hln.out]; exact h
      obtain ⟨b, off, rfl⟩ := hrd.out.get (ne_nil_of_lt hkl)
      have hcell := Rd.u (hr.below hb) k hkl
      obtain ⟨x, hx⟩ : ∃ x, x = l[k] := ⟨_, rfl⟩
      have hx4 : x < 4294967296 := by rw [hx]; exact HL.out _ (List.getElem_mem _)
      have hst := shl_step n l S k t hkl hS.out hV.out
      rw [← hx] at hcell hst
      have hcells : wr.cell? ⟨g, k, none⟩ = some (.int .u32 (t : Nat)) := by
        rw [B.cells, List.getElem?_map]
        have hS' := hS.out
        rw [List.append_assoc, List.getElem?_append_right (by omega), hS', Nat.sub_self]; rfl
      have h2n : 2 ^ n ≤ 2147483648 := Nat.le_trans (Nat.pow_le_pow_right (by omega) (show n ≤ 31 by omega)) (by decide)
      obtain ⟨y, hy⟩ : ∃ y, y = x * 2 ^ n := ⟨_, rfl⟩
      have hyb : y < 9223372036854775808 := by
        rw [hy]
        exact Nat.lt_of_le_of_lt (Nat.mul_le_mul_left x h2n) (by omega)
      have ey : (x : Int) * 2 ^ n = (y : Int) := by rw [hy, Int.natCast_mul, Int.natCast_pow]; rfl
      have hsl := shl_lt n x t (by omega) hx4 ht
      have hso := shl_or n x t (by omega) hx4 ht
      rw [← hy] at hst hsl hso
      obtain ⟨lo, hlo⟩ : ∃ lo, lo = y % 4294967296 := ⟨_, rfl⟩
      obtain ⟨hi, hhi⟩ : ∃ hi, hi = y / 4294967296 := ⟨_, rfl⟩
      rw [← hlo, ← hhi] at hst hsl
      rw [← hlo] at hso
      obtain ⟨v, hv⟩ : ∃ v, v = lo + t := ⟨_, rfl⟩
      rw [← hv] at hst hsl hso
      have hlo4 : lo < 4294967296 := by omega
      have hhi4 : hi < 4294967296 := by omega
      have e1 : IntKind.u32.wrap (y : Int) = (lo : Int) := by rw [hlo]; simp [IntKind.wrap, IntKind.bits, IntKind.signed]
      have e2 : bits .or .u32 (t : Int) (lo : Int) = (v : Int) := by rw [u32_or_nat _ _ (by omega) hlo4, Nat.or_comm, hso]
      have e4 : ((y : Int) / 4294967296) = (hi : Int) := by rw [hhi]; rfl
      have hrep : m - k = (m - (k + 1)) + 1 := by omega
      rw [hrep] at B
      have Hfill := As.mk (fill_two S t v hi k (m - (k + 1)) hS.out)
      have Hst := As.mk hst
      have Hlen := As.mk (show k < ((S ++ [t]) ++ List.replicate (m - (k + 1) + 1) 0).length by simp only [List.length_set, List.length_append, List.length_cons, List.length_nil, List.length_replicate, hS.out]; omega)
      have Hlen2 := As.mk (show k + 1 < (((S ++ [t]) ++ List.replicate (m - (k + 1) + 1) 0).set k v).length by simp only [List.length_set, List.length_append, List.length_cons, List.length_nil, List.length_replicate, hS.out]; omega)
      have HS2 : As ((S ++ [v]).length = k + 1) := ⟨by simp [hS.out]⟩
      have hv4 : v < 4294967296 := hsl.1
      have HSl : As (∀ x ∈ S ++ [v], x < 4294967296) := ⟨snoc_lt hSl.out hv4⟩
      have hhn : hi < 2 ^ n := hsl.2
      have hkm : (k : Int) < (m : Int) + 1 := by omega
      have hkm' : k < m + 1 := by omega
      clear hx hy hsl hso hlo hhi hv hrep hst hV hS hSl hkl
      go_wp2
      go_still_tail 8, (by kernel_rfl)
      change wpList _ _ _ _ _ wr.drew
      replace hb := hb.drew
      replace B := B.drew
      clear hcells hcell
      generalize wr.drew = w2 at hb B ⊢
      go_wp2_with (first
        | ((with_reducible refine g_store 27 ?_); go_must (refine ev_set rfl (by go_simp) B (u := v) (by go_simp; rfl) infoU Hlen.out (by rfl) ?_); intro w3 ho3 B3)
        | ((with_reducible refine g_store 37 ?_); go_must (refine ev_set rfl (by go_simp) B3 (u := hi) (by go_simp; rfl) infoU Hlen2.out (by rfl) ?_); intro w4 ho4 B4; rw [Hfill.out] at B4))
      go_roundw
      case rel => exact ⟨k + 1, hi, S ++ [v], by omega, by go_num, HS2, hhn, HSl, Hst, (hb.trans (ho3.below hg)).trans (ho4.below hg), B4⟩
      case measure => simp [intOf]; omega
    · obtain rfl : k = m := by omega
      rw [Nat.sub_self, List.replicate_zero, List.append_nil] at B
      have hV' := hV.out
      rw [List.take_of_length_le (by rw [Hln.out]; exact Nat.le_refl _)] at hV'
      have ht4 : t < 4294967296 := by
        have : 2 ^ n ≤ 2147483648 := Nat.le_trans (Nat.pow_le_pow_right (by omega) (show n ≤ 31 by omega)) (by decide)
        omega
      have Hend : As ((S ++ [t]).length = k + 1 ∧ (∀ x ∈ S ++ [t], x < 4294967296) ∧ valB 4294967296 (S ++ [t]) = valB 4294967296 l * 2 ^ n) := ⟨by simp [hS.out], snoc_lt hSl.out ht4, hV'⟩
      clear hV' hV hS hSl
      go_wp2
      go_ret
      exact ⟨_, rfl, ⟨S ++ [t], ⟨g, rfl, hg, B, Hend.out.1, Hend.out.2.1⟩, Hend.out.2.2⟩, hb⟩
set_option maxHeartbeats 1000000 in
theorem right_any (l : List Nat) (A : Option Addr) (c n m : Nat) (w : World) (hr : Rd encU 1 w A l) (hl : ∀ x ∈ l, x < 4294967296) (hn : n < 32) (hln : l.length = m) (hc : m ≤ c) (hm : m ≤ 4398046511104) :
    Calls Tryd.prog 60 #[.slice A m c, .int .i64 n] w (Gives w fun v w' => ∃ L, NewL w.heap.size w' v m L ∧ valB 4294967296 L = valB 4294967296 l / 2 ^ n) := by
  have HL := As.mk hl
  have Hln := As.mk hln
  have hrd := As.mk hr
  clear hl hln
  go_enter Tryd.func60, Tryd.ntmps60
  go_wp2_with ((with_reducible refine g_dst 10 ?_); go_must (refine ev_make 10 rfl Tryd.underlying22 infoU rfl (n := m) (by go_simp; rfl) (by go_simp; rfl) (by omega) (by omega) ?_); intro g w1 hb1 B1 hg)
  go_loopw [13, 6, 7] (fun v _ _ wr => ∃ (k : Nat) (S : List Nat), k ≤ m ∧ v = .int .i64 (k : Int) ∧ As (S.length = k) ∧ As (∀ x ∈ S, x < 4294967296) ∧ As (valB 4294967296 S = valB 4294967296 l / 2 ^ n % 4294967296 ^ k) ∧ Below w.heap.size w wr ∧ Blk wr g ((S ++ List.replicate (m - k) 0).map valU) 36) (fun v _ _ _ => m - (intOf v).toNat)
  case atStart => exact ⟨0, [], by omega, rfl, ⟨rfl⟩, ⟨fun x hx => (nomatch hx)⟩, ⟨by simp [valB, Nat.mod_one]⟩, hb1, by simpa [valU] using B1⟩
  case round =>
    clear B1 hb1
    obtain ⟨k, S, hk, rfl, hS, hSl, hV, hb, B⟩ := hrel
    by_cases h : k < m
    · have hkl : k < l.length := by rw [Hln.out]; exact h
      obtain ⟨b, off, rfl⟩ := hrd.out.get (ne_nil_of_lt hkl)
      have hcell := Rd.u (hr.below hb) k hkl
      obtain ⟨x, hx⟩ : ∃ x, x = l[k] := ⟨_, rfl⟩
      have hx4 : x < 4294967296 := by rw [hx]; exact HL.out _ (List.getElem_mem _)
      have hgx : l.getD k 0 = x := by rw [hx]; exact getD_of_lt hkl
      obtain ⟨y, hy⟩ : ∃ y, y = l.getD (k + 1) 0 := ⟨_, rfl⟩
      have hy4 : y < 4294967296 := by rw [hy]; exact getD_lt 4294967296 (by omega) l HL.out (k + 1)
      obtain ⟨wd, hwd⟩ : ∃ wd, wd = x + 4294967296 * y := ⟨_, rfl⟩
      have hwd4 : wd < 18446744073709551616 := by omega
      obtain ⟨q, hq⟩ : ∃ q, q = wd / 2 ^ n := ⟨_, rfl⟩
      have hq4 : q < 18446744073709551616 := by rw [hq]; exact Nat.lt_of_le_of_lt (Nat.div_le_self _ _) hwd4
      obtain ⟨d, hd⟩ : ∃ d, d = q % 4294967296 := ⟨_, rfl⟩
      have hd4 : d < 4294967296 := by omega
      have hst := shr_step n l S k d hS.out hV.out (by rw [shr_digit n l k (by omega) HL.out, hgx, ← hy, ← hwd, ← hq, hd])
      have e1 : IntKind.u32.wrap (q : Int) = (d : Int) := by rw [hd]; simp [IntKind.wrap, IntKind.bits, IntKind.signed]
      have e2 : (wd : Int) / 2 ^ n = (q : Int) := by rw [hq, Int.natCast_ediv, Int.natCast_pow]; rfl
      have e3 : bits .or .u64 (x : Int) ((y : Int) * 4294967296) = (wd : Int) := by
        have := u64_shift_or y x hy4 hx4
        rw [show ((y : Int) * 4294967296) = ((y * 4294967296 : Nat) : Int) by rw [Int.natCast_mul]; rfl, u64_or_nat _ _ (by omega) (by omega)] at this ⊢
        rw [Nat.or_comm, hwd, Nat.add_comm, Nat.mul_comm 4294967296]
        exact this
      rw [← hx] at hcell
      have hrep : m - k = (m - (k + 1)) + 1 := by omega
      rw [hrep] at B
      have Hfill := As.mk (fill_up 0 d (m - (k + 1)) S k hS.out)
      have Hst := As.mk hst
      have Hlen := As.mk (show k < (S ++ List.replicate (m - (k + 1) + 1) 0).length by simp only [List.length_set, List.length_append, List.length_cons, List.length_nil, List.length_replicate, hS.out]; omega)
      have HS2 : As ((S ++ [d]).length = k + 1) := ⟨by simp [hS.out]⟩
      have HSl : As (∀ x ∈ S ++ [d], x < 4294967296) := ⟨snoc_lt hSl.out hd4⟩
      by_cases h2 : k + 1 < m
      · have hkl2 : k + 1 < l.length := by rw [Hln.out]; exact h2
        have hcell2 := Rd.u (hr.below hb) (k + 1) hkl2
        rw [← getD_of_lt hkl2, ← hy] at hcell2
        have hk1 : (k : Int) + 1 < (m : Int) := by omega
        have hkc : (k : Int) + 1 < (c : Int) := by omega
        clear hx hgx hy hwd hq hd hst hrep hV hS hSl hkl hkl2
        go_wp2_with ((with_reducible refine g_store 41 ?_); go_must (refine ev_set rfl (by go_simp) B (u := d) (by go_simp; rfl) infoU Hlen.out (by rfl) ?_); intro w2 ho2 B2; rw [Hfill.out] at B2)
        go_roundw
        case rel => exact ⟨k + 1, S ++ [d], by omega, by go_num, HS2, HSl, Hst, hb.trans (ho2.below hg), B2⟩
        case measure => simp [intOf]; omega
      · have hy0 : y = 0 := by rw [hy]; simp [List.getD, List.getElem?_eq_none (show l.length ≤ k + 1 by rw [Hln.out]; omega)]
        have hwx : wd = x := by rw [hwd, hy0]; omega
        subst hwx
        have hk1 : ¬ (k : Int) + 1 < (m : Int) := by omega
        clear hx hgx hy hy0 hwd hq hd hst hrep hV hS hSl hkl e3
        go_wp2_with ((with_reducible refine g_store 41 ?_); go_must (refine ev_set rfl (by go_simp) B (u := d) (by go_simp; rfl) infoU Hlen.out (by rfl) ?_); intro w2 ho2 B2; rw [Hfill.out] at B2)
        go_roundw
        case rel => exact ⟨k + 1, S ++ [d], by omega, by go_num, HS2, HSl, Hst, hb.trans (ho2.below hg), B2⟩
        case measure => simp [intOf]; omega
    · obtain rfl : k = m := by omega
      rw [Nat.sub_self, List.replicate_zero, List.append_nil] at B
      have hV' := hV.out
      have hlt := valB_lt 4294967296 (by omega) l HL.out
      rw [Hln.out] at hlt
      rw [Nat.mod_eq_of_lt (Nat.lt_of_le_of_lt (Nat.div_le_self _ _) hlt)] at hV'
      have Hend : As (S.length = k ∧ (∀ x ∈ S, x < 4294967296) ∧ valB 4294967296 S = valB 4294967296 l / 2 ^ n) := ⟨hS.out, hSl.out, hV'⟩
      clear hV' hV hS hSl hlt
      go_wp2
      go_ret
      exact ⟨_, rfl, ⟨S, ⟨g, rfl, hg, B, Hend.out.1, Hend.out.2.1⟩, Hend.out.2.2⟩, hb⟩
end Go.Proofs.YtbdcjlikjpdhfaaDoor
