/- nat.Bits; what of a list of limbs is asked. -/
import Derived.Test.YtbdcjlikjpdhfaaDoorNat3
import Derived.Test.YtbdcjlikjpdhfaaDoorMath7
namespace Go.Proofs.YtbdcjlikjpdhfaaDoor
open Go.RowKit Go.Proofs.YtbdcjlikjpdhfaaDoorL Go.Proofs.YtbdcjlikjpdhfaaDoorM
set_option linter.unusedVariables false
set_option linter.unusedSimpArgs false
set_option maxHeartbeats 400000 in
theorem bits_any (l : List Nat) (n : Nat) (hn : l.length = n) (A : Option Addr) (c : Nat) (w : World) (hr : Rd encU 1 w A l) (hl : ∀ x ∈ l, x < 4294967296) (hc : n ≤ c) (hm : n ≤ 281474976710656) :
    Calls Tryd.prog 23 #[.slice A n c] w fun e w' => e = .returned (.int .i64 ((bitN (valB 4294967296 l) : Nat) : Int)) ∧ w = w' := by
  subst hn
  obtain ⟨V, hV⟩ : ∃ V, V = valB 4294967296 l := ⟨_, rfl⟩
  rw [← hV]
  obtain ⟨L, hL⟩ : ∃ L, L = digB 4294967296 V := ⟨_, rfl⟩
  have htr : As (trimL l = L) := ⟨by rw [hL, hV]; exact trimL_dig 4294967296 (by omega) l hl⟩
  have hLe : L.length ≤ l.length := by rw [← htr.out]; exact trimL_le l
  have hrL : Rd encU 1 w A L := by have := Rd.trim hr; rwa [htr.out] at this
  have htrim := trim_any l A c w hr hc (by omega)
  rw [htr.out] at htrim
  have Htrim := As.mk htrim
  by_cases h0 : L.length = 0
  · have hb0 : As (bitN V = 0) := ⟨by rw [bitN_eq_zero, ← digB_eq_nil 4294967296 V (by omega), ← hL]; exact List.eq_nil_of_length_eq_zero h0⟩
    have hz : ((L.length : Int) == 0) = true := by simp; exact List.eq_nil_of_length_eq_zero h0
    clear hL hV h0 htrim
    go_enter Tryd.func23, Tryd.ntmps23
    go_wp2_with (go_at_call 44; (with_reducible refine Htrim.out.mono ?_); rintro e w1 ⟨rfl, rfl⟩)
    go_ret
    exact ⟨by rw [hb0.out]; rfl, rfl⟩
  · have hne : L ≠ [] := fun h => h0 (by rw [h]; rfl)
    have hz : ((L.length : Int) == 0) = false := by simp; exact hne
    obtain ⟨m, hm1⟩ : ∃ m, L.length = m + 1 := ⟨L.length - 1, by omega⟩
    obtain ⟨b, off, rfl⟩ := hr.get (ne_nil_of_lt (i := m) (by omega))
    have hcell := Rd.u hrL m (by omega)
    obtain ⟨x, hx⟩ : ∃ x, x = L[m] := ⟨_, rfl⟩
    rw [← hx] at hcell
    have hx2 : x < 4294967296 := by rw [hx]; have := List.getElem_mem (show m < L.length by omega); exact (hL ▸ digB_lt 4294967296 (by omega) V) _ this
    have hbits : As (bitN V = 32 * m + bitN x) := ⟨by
      have hk := bitN_limbs 32 V (by omega) (by rw [show (2 : Nat) ^ 32 = 4294967296 from rfl, ← hL]; exact hne)
      simp only [show (2 : Nat) ^ 32 = 4294967296 from rfl, ← hL] at hk
      rw [hk, hm1, Nat.add_sub_cancel, List.getLast_eq_getElem, hx]
      simp only [hm1, Nat.add_sub_cancel]⟩
    have hlen32 := Tryd.bits_Len32 (x : Int) w (by omega) (by omega)
    rw [Int.toNat_natCast, bitLen_bitN x (by omega)] at hlen32
    have hbx : bitN x ≤ 32 := digB_len_lt 2 (by omega) 32 x (by omega)
    have Hlen := As.mk hlen32
    have Hm := As.mk hm1
    have hml : m < 281474976710656 := by omega
    have em : ((L.length : Int) - 1) = (m : Int) := by omega
    have hmL : m < L.length := by omega
    have hmc : m < c := by omega
    clear hx hL hV h0 htrim hlen32 hm1 hne
    go_enter Tryd.func23, Tryd.ntmps23
    go_wp2_with (first
      | (go_at_call 44; (with_reducible refine Htrim.out.mono ?_); rintro e w1 ⟨rfl, rfl⟩)
      | (go_at_call 53; (with_reducible refine Hlen.out.mono ?_); rintro e w1 ⟨rfl, rfl⟩))
    go_ret
    exact ⟨by rw [hbits.out]; go_num, rfl⟩
/-- what of a list is asked: it reads as l, its numbers are limbs -/
structure Lim (w : World) (A : Option Addr) (c : Nat) (l : List Nat) : Prop where
  rd : Rd encU 1 w A l
  lt : ∀ x ∈ l, x < 4294967296
  cap : l.length ≤ c
  none : A = none → c = 0
  max : l.length ≤ 274877906944
theorem Lim.below {w w1 : World} {A : Option Addr} {c : Nat} {l : List Nat} (h : Lim w A c l) (hb : Below w.heap.size w w1) : Lim w1 A c l := ⟨h.rd.below hb, h.lt, h.cap, h.none, h.max⟩
end Go.Proofs.YtbdcjlikjpdhfaaDoor
