/- tandemlaw00.Marked, Back: a list of limbs with forty marks behind it. -/
import Derived.Test.YtbdcjlikjpdhfaaDoorNat2
import Derived.Test.YtbdcjlikjpdhfaaDoorLib3
import Derived.BigQuiet
namespace Go.Proofs.YtbdcjlikjpdhfaaDoor
open Go.RowKit Go.Proofs.YtbdcjlikjpdhfaaDoorL Go.Proofs.YtbdcjlikjpdhfaaDoorM
set_option linter.unusedVariables false
set_option linter.unusedSimpArgs false
def marks (k : Nat) : List Nat := (List.range k).map (1001 + ·)
theorem marks_succ (k : Nat) : marks (k + 1) = marks k ++ [1001 + k] := by simp [marks, List.range_succ]
theorem marks_len (k : Nat) : (marks k).length = k := by simp [marks]
theorem marks_get (k i : Nat) (h : i < (marks k).length) : (marks k)[i] = 1001 + i := by simp [marks]
theorem belowN {B : Nat} {w w1 : World} (h : Below B w w1) (n : Nat) : Below B w (w1.drewN n) := ⟨h.os, h.tape, h.output, h.size, h.block⟩
set_option maxRecDepth 8000 in
set_option maxHeartbeats 1000000 in
theorem marked_any (l : List Nat) (A : Option Addr) (c : Nat) (w : World) (hr : Rd encU 1 w A l) (hA : A = none → c = 0) (hm : l.length ≤ 1073741824) :
    Calls Tryd.prog 34 #[.slice A l.length c] w (Gives w fun v w' => ∃ A2 n2 c2, v = .tuple #[.slice A2 l.length c2, .slice A2 n2 c2] ∧ Ow encU 1 36 w.heap.size w' (.slice A2 n2 c2) (l ++ marks 40)) := by
  have HC := As.mk (copy_any l A c w hr hA (by omega))
  obtain ⟨n, hn⟩ : ∃ n, n = l.length := ⟨_, rfl⟩
  rw [← hn] at HC hm ⊢
  have Hn := As.mk hn
  clear hr hA hn
  go_enter Tryd.func34, Tryd.ntmps34
  go_wp2_with (go_at_call 36; (with_reducible refine HC.out.mono ?_); rintro e w1 ⟨v1, rfl, ho, hb⟩)
  go_loopw [4, 5] (fun v u wr => ∃ k : Nat, k ≤ 40 ∧ u = .int .i64 (k : Int) ∧ Ow encU 1 36 w.heap.size wr v (l ++ marks k) ∧ Below w.heap.size w wr) (fun _ u _ => 40 - (intOf u).toNat)
  case atStart => exact ⟨0, by omega, rfl, by simpa [marks] using ho, hb⟩
  case round =>
    clear ho hb
    obtain ⟨k, hk, rfl, ho, hb⟩ := hrel
    have hll : (l ++ marks k).length = n + k := by rw [List.length_append, marks_len, ← Hn.out]
    by_cases h : k < 40
    · obtain ⟨x, hx⟩ : ∃ x, x = 1001 + k := ⟨_, rfl⟩
      have ex : (1001 : Int) + (k : Int) = (x : Int) := by omega
      have eu : IntKind.u32.wrap (x : Int) = (x : Int) := IntWalk.u32_in _ (by omega)
      have Hx : As (l ++ marks k ++ [x] = l ++ marks (k + 1)) := ⟨by rw [marks_succ, hx, List.append_assoc]⟩
      have HB1 := As.mk (show ((l ++ marks k).length + 1) * 4 ≤ 140737488355328 from by rw [hll]; omega)
      have HM1 := As.mk (show (l ++ marks k).length + 1 ≤ maxLen from by rw [hll]; simp only [maxLen]; omega)
      have hB1 : As (∀ cy : Nat, ([cy] : List Nat).length = 1) := ⟨fun _ => rfl⟩
      obtain ⟨M, hM⟩ : ∃ M, M = l ++ marks k := ⟨_, rfl⟩
      rw [← hM] at ho Hx HB1 HM1
      obtain ⟨A0, c0, rfl, h01, h02⟩ := ho.form
      have hMl : M.length = n + k := by rw [hM, hll]
      rw [hMl] at h01 ⊢
      rw [hMl] at ho
      clear hM hx hll hMl
      go_wp2_with (first
        | ((with_reducible refine g_dst 16 ?_); go_must (refine ev_lit (v := fun g => .slice (some ⟨g, 0, none⟩) 1 1) 16 rfl (cs := [valU x]) (t := 36) (by go_simp; rfl) ?_); intro g2 w2 hb2 B2 hg2; replace ho := ho.below hb2; replace hb := bthen hb hb2)
        | ((with_reducible refine g_dst 17 ?_); go_must (refine ev_append 17 rfl Tryd.underlying22 infoU rfl (by decide) rfl ho rfl (hB1.out x) (B2.rdm (l := [x]) encU_one) lenU oneU (fun h => (nomatch h)) HB1.out HM1.out hb.size ?_); intro v3 w3 ho3 hg3; replace hb := ho.grown hb hg3 (Nat.le_refl _) hb.size; rw [Hx.out] at ho3))
      go_roundw
      case rel => exact ⟨k + 1, by omega, by go_num, ho3, hb⟩
      case measure => simp [intOf]; omega
    · obtain rfl : k = 40 := by omega
      obtain ⟨A2, c2, rfl, h1, h2⟩ := ho.form
      rw [hll] at ho h1 ⊢
      have h3 : (n : Int) ≤ (c2 : Int) := by omega
      go_wp2
      go_ret2
      exact ⟨_, rfl, ⟨A2, n + 40, c2, rfl, ho⟩, hb⟩
set_option maxHeartbeats 1000000 in
theorem back_any (l : List Nat) (A A2 : Option Addr) (c n2 c2 : Nat) (w : World) (hr : Rd encU 1 w A l) (hr2 : Rd encU 1 w A2 (l ++ marks 40)) (hc : l.length ≤ c) (hn2 : n2 = l.length + 40) (hc2 : n2 ≤ c2) (hm : l.length ≤ 1073741824) :
    Calls Tryd.prog 35 #[.slice A l.length c, .slice A2 n2 c2] w (Gives w fun v _ => v = .bool true) := by
  obtain ⟨b2, o2, rfl⟩ := hr2.get (by simp [marks])
  have hlt : ∀ (W : World) (hW : Below w.heap.size w W) i (hi : i < l.length), W.cell? ⟨b2, o2 + i, none⟩ = some (.int .u32 (l[i] : Nat)) := fun W hW i hi => by
    have := Rd.u (hr2.below hW) i (by rw [List.length_append]; omega)
    rwa [List.getElem_append_left hi] at this
  have hge : ∀ (W : World) (hW : Below w.heap.size w W) i, l.length ≤ i → i < n2 → W.cell? ⟨b2, o2 + i, none⟩ = some (.int .u32 ((1001 + (i - l.length) : Nat) : Int)) := fun W hW i h1 h2 => by
    have := Rd.u (hr2.below hW) i (by rw [List.length_append, marks_len]; omega)
    rwa [List.getElem_append_right h1, marks_get] at this
  have hrd := As.mk (fun i (hi : i < l.length) => (show ∃ b off, A = some ⟨b, off, none⟩ ∧ ∀ (W : World) (hW : Below w.heap.size w W), W.cell? ⟨b, off + i, none⟩ = some (.int .u32 (l[i] : Nat)) from by
    obtain ⟨b, off, rfl⟩ := hr.get (by intro e; rw [e] at hi; simp at hi)
    exact ⟨b, off, rfl, fun W hW => Rd.u (hr.below hW) i hi⟩))
  have Hlt := As.mk hlt
  have Hge := As.mk hge
  have Hl := As.mk (fun i (hi : i < l.length) => (⟨l[i], rfl⟩ : ∃ x, l[i] = x))
  obtain ⟨n, hn⟩ : ∃ n, n = l.length := ⟨_, rfl⟩
  have HnL := As.mk hn
  rw [← hn] at hc hn2 hm ⊢
  subst hn2
  have e40 : (n : Int) + 40 = ((n + 40 : Nat) : Int) := by omega
  obtain ⟨m, hm2⟩ : ∃ m, m = n + 40 := ⟨_, rfl⟩
  rw [← hm2] at e40 hc2 ⊢
  have Hm := As.mk hm2
  clear hlt hge hr hr2 hn hm2
  go_enter Tryd.func35, Tryd.ntmps35
  go_wp2
  go_loopw [5] (fun u wr => ∃ k : Nat, k ≤ m ∧ u = .int .i64 (k : Int) ∧ Below w.heap.size w wr) (fun u _ => m - (intOf u).toNat)
  case atStart => exact ⟨0, by omega, rfl, Below.refl _ _⟩
  case round =>
    obtain ⟨k, hk, rfl, hb⟩ := hrel
    have Hb := As.mk hb
    clear hb
    by_cases h : k < m
    · by_cases hkn : k < n
      · have hkl : k < l.length := by have := HnL.out; omega
        obtain ⟨b, off, rfl, hc1⟩ := hrd.out k hkl
        replace hc1 := hc1 _ Hb.out
        have hc3 := Hlt.out _ Hb.out k hkl
        obtain ⟨x, hx⟩ := Hl.out k hkl
        rw [hx] at hc1 hc3
        have hkc : k < c := by omega
        have hkc2 : k < c2 := by omega
        have hnn : ¬ ((n : Int) ≤ (k : Int)) := by omega
        clear hx
        go_wp2_with (first | go_quiet (fail))
        go_roundw
        case rel => exact ⟨k + 1, by omega, by go_num, belowN Hb.out _⟩
        case measure => simp [intOf]; omega
      · have hmm := Hm.out
        have hc3 := Hge.out _ Hb.out k (by have := HnL.out; omega) (by have := HnL.out; omega)
        obtain ⟨x, hx⟩ : ∃ x, x = 1001 + (k - l.length) := ⟨_, rfl⟩
        rw [← hx] at hc3
        have ex : (1001 : Int) + (k : Int) - (n : Int) = (x : Int) := by have := HnL.out; omega
        have eu : IntKind.u32.wrap (x : Int) = (x : Int) := IntWalk.u32_in _ (by have := HnL.out; omega)
        have hkc2 : k < c2 := by omega
        have hnn : (n : Int) ≤ (k : Int) := by omega
        clear hx hmm
        go_wp2_with (first | go_quiet (fail))
        go_roundw
        case rel => exact ⟨k + 1, by omega, by go_num, belowN Hb.out _⟩
        case measure => simp [intOf]; omega
    · obtain rfl : k = m := by omega
      go_wp2
      go_ret
      exact ⟨_, rfl, rfl, Hb.out⟩
end Go.Proofs.YtbdcjlikjpdhfaaDoor
