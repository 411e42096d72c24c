/- nat.grow: a list times a limb, and one more limb, in place. -/
import Derived.Test.YtbdcjlikjpdhfaaDoorNat7
import Derived.Test.YtbdcjlikjpdhfaaDoorKeep
import Derived.Test.YtbdcjlikjpdhfaaDoorLib4
namespace Go.Proofs.YtbdcjlikjpdhfaaDoor
open Go.RowKit Go.Proofs.YtbdcjlikjpdhfaaDoorL Go.Proofs.YtbdcjlikjpdhfaaDoorM
set_option linter.unusedVariables false
set_option linter.unusedSimpArgs false
theorem flat_u (l : List Nat) : l.flatMap encU = l.map valU := by
  induction l with
  | nil => rfl
  | cons y l ih => rw [List.flatMap_cons, List.map_cons, ← ih]; rfl
/-- an own list whose cells are set anew, in place -/
theorem Ow.swap {l S : List Nat} {tl : List Value} {base g n c : Nat} {w w1 : World} {e : TypeId} (f : Ow encU 1 e base w (.slice (some ⟨g, 0, none⟩) n c) l) (B : Blk w g (l.map valU ++ tl) e) (B' : Blk w1 g (S.map valU ++ tl) e) (hS : S.length = l.length) : Ow encU 1 e base w1 (.slice (some ⟨g, 0, none⟩) n c) S := by
  have hn : n = l.length := f.len_eq
  subst hn
  obtain ⟨h1, h2⟩ := f.own
  rcases h2 with ⟨h, _⟩ | ⟨g', cap, cur, hv, hg, hh, k1, k2, k3, k4⟩
  · cases h
  · cases hv
    have hcur : cur = (l.map valU ++ tl).toArray := by
      have := hh.symm.trans B.h
      simpa using this
    refine ⟨⟨by rw [flat_u]; simp, .inr ⟨g, c, (S.map valU ++ tl).toArray, by rw [hS], hg, B'.h, by omega, k2, ?_, ?_⟩⟩⟩
    · rw [← k3, hcur]; simp [hS]
    · rw [flat_u]; simp
/-- a beginning of an own list is own -/
theorem Ow.takeU {l : List Nat} {base n c : Nat} {w : World} {e : TypeId} {A : Option Addr} (f : Ow encU 1 e base w (.slice A n c) l) (k : Nat) (hk : k ≤ l.length) : Ow encU 1 e base w (.slice A k c) (l.take k) := by
  have hlk : (l.take k).length = k := by rw [List.length_take]; omega
  obtain ⟨h1, h2⟩ := f.own
  rcases h2 with ⟨h, h0⟩ | ⟨g', cap, cur, hv, hg, hh, k1, k2, k3, k4⟩
  · simp only [Value.slice.injEq] at h
    obtain ⟨rfl, rfl, rfl⟩ := h
    obtain rfl : k = 0 := by omega
    rw [List.take_zero]
    exact Ow.nil _ _ _ _ _
  · cases hv
    refine ⟨⟨by rw [flat_u]; simp, .inr ⟨g', c, cur, by rw [hlk], hg, hh, by omega, k2, k3, ?_⟩⟩⟩
    rw [flat_u] at k4 ⊢
    rw [hlk, Nat.mul_one, List.map_take, ← k4, List.take_take, Nat.mul_one, Nat.min_eq_left hk]
theorem mid_store (S R : List Nat) (x v k : Nat) (tl : List Value) (hS : S.length = k) : (((S ++ x :: R).map valU ++ tl).take k ++ [valU v] ++ ((S ++ x :: R).map valU ++ tl).drop (k + [valU v].length)) = ((S ++ [v]) ++ R).map valU ++ tl := by
  subst hS
  simp [List.take_append, List.drop_append]
set_option maxHeartbeats 1000000 in
theorem grow_any (l : List Nat) (A : Option Addr) (n c base by_ more : Nat) (w : World) (f : Ow encU 1 36 base w (.slice A n c) l) (hn : l.length = n) (hl : ∀ x ∈ l, x < 4294967296) (hby : by_ < 4294967296) (hmore : more < 4294967296) (hm : n ≤ 1073741824) (hbase : base ≤ w.heap.size) :
    Calls Tryd.prog 43 #[.slice A n c, .int .u32 by_, .int .u32 more] w fun e w' => ∃ v l', e = .returned v ∧ Ow encU 1 36 base w' v l' ∧ (∀ x ∈ l', x < 4294967296) ∧ valB 4294967296 l' = valB 4294967296 l * by_ + more ∧ l'.length ≤ n + 1 ∧ Below base w w' := by
  have HL := As.mk hl
  have Hn := As.mk hn
  have hB1 : As (∀ cy : Nat, ([cy] : List Nat).length = 1) := ⟨fun _ => rfl⟩
  by_cases h0 : n = 0
  · subst h0
    obtain rfl : l = [] := List.eq_nil_of_length_eq_zero hn
    have e1 : IntKind.u32.wrap (more : Int) = (more : Int) := IntWalk.u32_in _ (by omega)
    have HB1 := As.mk (show (([] : List Nat).length + 1) * 4 ≤ 140737488355328 from by decide)
    have HM1 := As.mk (show ([] : List Nat).length + 1 ≤ maxLen from by decide)
    clear hl hn
    by_cases hc0 : 0 < more
    · have hcI : (0 : Int) < (more : Int) := by omega
      go_enter Tryd.func43, Tryd.ntmps43
      go_wp2
      go_loopw [14, 7, 8, 9] (fun v u _ _ wr => v = .int .i64 0 ∧ u = .int .u64 (more : Int) ∧ w = wr) (fun v _ _ _ _ => 0)
      case atStart => exact ⟨rfl, rfl, rfl⟩
      case round =>
        obtain ⟨rfl, rfl, rfl⟩ := hrel
        go_wp2_with (first
          | ((with_reducible refine g_dst 39 ?_); go_must (refine ev_lit (v := fun g => .slice (some ⟨g, 0, none⟩) 1 1) 39 rfl (cs := [valU more]) (t := 36) (by go_simp; rfl) ?_); intro g2 w2 hb2 B2 hg2; have f2 := f.below hb2)
          | ((with_reducible refine g_dst 40 ?_); go_must (refine ev_append 40 rfl Tryd.underlying22 infoU rfl (by decide) rfl f2 rfl (hB1.out more) (B2.rdm (l := [more]) encU_one) lenU oneU (fun h => (nomatch h)) HB1.out HM1.out (Nat.le_trans hbase hb2.size) ?_); intro v3 w3 ho3 hg3; have hb3 := f2.grown (hb2.mono hbase) hg3 (Nat.le_refl _) (Nat.le_trans hbase hb2.size)))
        go_ret
        exact ⟨_, [more], rfl, ho3, fun x hx => by simp only [List.mem_singleton] at hx; omega, by simp [valB], by simp, hb3⟩
    · obtain rfl : more = 0 := by omega
      go_enter Tryd.func43, Tryd.ntmps43
      go_wp2
      go_loopw [14, 7, 8, 9] (fun v u _ _ wr => v = .int .i64 0 ∧ u = .int .u64 0 ∧ w = wr) (fun v _ _ _ _ => 0)
      case atStart => exact ⟨rfl, rfl, rfl⟩
      case round =>
        obtain ⟨rfl, rfl, rfl⟩ := hrel
        go_wp2
        go_ret
        exact ⟨_, [], rfl, f, fun x hx => (nomatch hx), by simp [valB], by simp, Below.refl _ _⟩
  · have hne : l ≠ [] := fun e => by rw [e] at hn; simp at hn; omega
    obtain ⟨g, c', tl, hv, hg, hlc, B⟩ := Ow.blk f encU_one hne
    simp only [Value.slice.injEq] at hv
    obtain ⟨rfl, hnl, rfl⟩ := hv
    have HB := As.mk B
    have hnb : n * 4 ≤ 4294967296 := by omega
    clear hl hne hnl
    go_enter Tryd.func43, Tryd.ntmps43
    go_wp2
    go_loopw [14, 7, 8, 9] (fun v u _ _ wr => ∃ (k cy : Nat) (S : List Nat), k ≤ n ∧ cy < 4294967296 ∧ v = .int .i64 (k : Int) ∧ u = .int .u64 (cy : Int) ∧ As (S.length = k) ∧ As (∀ x ∈ S, x < 4294967296) ∧ As (valB 4294967296 S + 4294967296 ^ k * cy = valB 4294967296 (l.take k) * by_ + more) ∧ Only g w wr ∧ Blk wr g ((S ++ l.drop k).map valU ++ tl) 36) (fun v _ _ _ _ => n - (intOf v).toNat)
    case atStart => exact ⟨0, more, [], by omega, hmore, rfl, rfl, ⟨rfl⟩, ⟨fun x hx => (nomatch hx)⟩, ⟨by simp [valB]⟩, ⟨rfl, rfl, rfl, rfl, fun _ _ => rfl⟩, by simpa using B⟩
    case round =>
      clear B
      obtain ⟨k, cy, S, hk, hcy, rfl, rfl, hS, hSl, hV, ho, B⟩ := hrel
      have hnn := Hn.out
      by_cases h : k < n
      · have hkl : k < l.length := by rw [hnn]; exact h
        rw [drop_cons_of_lt l k hkl] at B
        have htk := valB_take_succ 4294967296 l k
        rw [getD_of_lt hkl] at htk
        have hx4 := HL.out _ (List.getElem_mem hkl)
        obtain ⟨x, hx⟩ : ∃ x, x = l[k] := ⟨_, rfl⟩
        rw [← hx] at B htk hx4
        have hcell : wr.cell? ⟨g, k, none⟩ = some (.int .u32 (x : Nat)) := by
          rw [B.cells, List.getElem?_append_left (by simp [hS.out]), List.getElem?_map, List.getElem?_append_right (by rw [hS.out]; exact Nat.le_refl _), hS.out, Nat.sub_self]; rfl
        obtain ⟨q, hq⟩ : ∃ q, q = x * by_ := ⟨_, rfl⟩
        have hqb : q ≤ 4294967295 * 4294967295 := by rw [hq]; exact Nat.mul_le_mul (by omega) (by omega)
        have eq1 : (x : Int) * (by_ : Int) = (q : Int) := by rw [hq, Int.natCast_mul]
        obtain ⟨T, hT⟩ : ∃ T, T = cy + q := ⟨_, rfl⟩
        have e0 : (cy : Int) + (q : Int) = (T : Int) := by omega
        have hTb : T < 18446744073709551616 := by omega
        obtain ⟨lo, hlo⟩ : ∃ lo, lo = T % 4294967296 := ⟨_, rfl⟩
        obtain ⟨hi, hhi⟩ : ∃ hi, hi = T / 4294967296 := ⟨_, rfl⟩
        have hlo4 : lo < 4294967296 := by omega
        have hhi4 : hi < 4294967296 := by omega
        have e1 : IntKind.u32.wrap (T : Int) = (lo : Int) := by rw [hlo]; simp [IntKind.wrap, IntKind.bits, IntKind.signed]
        have e2 : (T : Int) / 4294967296 = (hi : Int) := by rw [hhi]; rfl
        have Hst : As (valB 4294967296 (S ++ [lo]) + 4294967296 ^ (k + 1) * hi = valB 4294967296 (l.take (k + 1)) * by_ + more) := ⟨by
          have h1 : 4294967296 ^ k * (lo + 4294967296 * hi) = 4294967296 ^ k * (cy + x * by_) := by rw [hlo, hhi, Nat.mod_add_div, hT, hq]
          have h2 := hV.out
          rw [valB_snoc, hS.out, htk, Nat.pow_succ, Nat.add_mul, Nat.mul_assoc _ x, Nat.mul_assoc _ 4294967296]
          rw [Nat.mul_add, Nat.mul_add] at h1
          omega⟩
        have HS2 : As ((S ++ [lo]).length = k + 1) := ⟨by simp [hS.out]⟩
        have HSl2 : As (∀ x ∈ S ++ [lo], x < 4294967296) := ⟨snoc_lt hSl.out hlo4⟩
        have Hmid := As.mk (mid_store S (l.drop (k + 1)) x lo k tl hS.out)
        have Hfit := As.mk (show k + [valU lo].length ≤ ((S ++ x :: l.drop (k + 1)).map valU ++ tl).length by simp [hS.out])
        have hkc : k < c := by omega
        have Hone := As.mk (show ∀ v ∈ [valU lo], v.oneCell' = true by simp [valU, Value.oneCell'])
        clear hx hq hT hlo hhi htk hkl hV hS hSl hnn
        go_wp2_with ((with_reducible refine g_store 30 ?_); go_must (refine ev_store rfl (by go_simp) B (news := [valU lo]) (by go_simp; rfl) infoU Hfit.out Hone.out ?_); intro w2 ho2 B2; rw [Hmid.out] at B2)
        go_roundw
        case rel => exact ⟨k + 1, hi, S ++ [lo], by omega, hhi4, by go_num, by go_num, HS2, HSl2, Hst, ho.trans ho2, B2⟩
        case measure => simp [intOf]; omega
      · obtain rfl : k = n := by omega
        have hV' := hV.out
        rw [List.take_of_length_le (by rw [hnn]; exact Nat.le_refl _)] at hV'
        rw [List.drop_eq_nil_of_le (by rw [hnn]; exact Nat.le_refl _), List.append_nil] at B
        have fS := Ow.swap f HB.out B (by rw [hS.out, hnn])
        have hbw := ho.below hg
        have hbw2 : base ≤ wr.heap.size := Nat.le_trans hbase hbw.size
        have HSS := As.mk (And.intro hS.out (And.intro hSl.out hV'))
        have hSk := hS.out
        by_cases hc0 : 0 < cy
        · have hcI : (0 : Int) < (cy : Int) := by omega
          have e1 : IntKind.u32.wrap (cy : Int) = (cy : Int) := IntWalk.u32_in _ (by omega)
          have HB1 := As.mk (show (S.length + 1) * 4 ≤ 140737488355328 by omega)
          have HM1 := As.mk (show S.length + 1 ≤ maxLen by simp only [maxLen]; omega)
          clear hV hV' hS hSl hnn B hSk
          go_wp2_with (first
            | ((with_reducible refine g_dst 39 ?_); go_must (refine ev_lit (v := fun g => .slice (some ⟨g, 0, none⟩) 1 1) 39 rfl (cs := [valU cy]) (t := 36) (by go_simp; rfl) ?_); intro g2 w2 hb2 B2 hg2; have f2 := fS.below hb2)
            | ((with_reducible refine g_dst 40 ?_); go_must (refine ev_append 40 rfl Tryd.underlying22 infoU rfl (by decide) rfl f2 rfl (hB1.out cy) (B2.rdm (l := [cy]) encU_one) lenU oneU (fun h => (nomatch h)) HB1.out HM1.out (Nat.le_trans hbw2 hb2.size) ?_); intro v3 w3 ho3 hg3; have hb3 := f2.grown (hbw.trans (hb2.mono hbw2)) hg3 (Nat.le_refl _) (Nat.le_trans hbw2 hb2.size)))
          go_ret
          exact ⟨_, S ++ [cy], rfl, ho3, snoc_lt HSS.out.2.1 hcy, by rw [valB_snoc, HSS.out.1]; exact HSS.out.2.2, by simp [HSS.out.1], hb3⟩
        · obtain rfl : cy = 0 := by omega
          clear hV hV' hS hSl hnn B hSk
          go_wp2
          go_ret
          exact ⟨_, S, rfl, fS, HSS.out.2.1, by have := HSS.out.2.2; omega, by rw [HSS.out.1]; omega, hbw⟩
end Go.Proofs.YtbdcjlikjpdhfaaDoor
