/- Math13 Grow Parse1 Ref7 Parse2 Num18 Num19 Num20, in one text. -/
import Derived.Test.YtigoofeodbbbhaaDoorMath6
import Derived.Lib.ParseIntB
import Derived.Lib.ItoaNum
import Derived.Lib.MapLaws
import Derived.Test.YtigoofeodbbbhaaDoorNat7
import Derived.Test.YtigoofeodbbbhaaDoorKeep
import Derived.Test.YtigoofeodbbbhaaDoorLib4
import Derived.Test.YtigoofeodbbbhaaDoorShelfP
import Derived.Laws.RangeAny
import Derived.Lib.OthersKept
import Derived.Lib.AtoiErrMem
import Derived.WalkSmall
import Derived.WalkLawsBesides
import Derived.WalkSpells
import Derived.Laws.Closers25
import Derived.Test.YtigoofeodbbbhaaDoorRef5
import Derived.Test.YtigoofeodbbbhaaDoorMath7
import Derived.Deep.RegionHeld3
import Derived.Test.YtigoofeodbbbhaaDoorNum12
import Derived.Test.YtigoofeodbbbhaaDoorLib5
import Derived.Test.YtigoofeodbbbhaaDoorNumK
import Derived.Test.YtigoofeodbbbhaaDoorNum10
/- Decimal digits read as a number. Plain mathematics. -/
namespace Go.Proofs.YtigoofeodbbbhaaDoorM
set_option linter.unusedVariables false
set_option linter.unusedSimpArgs false
/-- is it a decimal digit? -/
def isD (c : UInt8) : Bool := decide (48 ≤ c.toNat ∧ c.toNat ≤ 57)
theorem isD_of {c : UInt8} (h : isD c = true) : 48 ≤ c.toNat ∧ c.toNat ≤ 57 := by rwa [isD, decide_eq_true_iff] at h
theorem isD_not {c : UInt8} (h : isD c = false) : c.toNat < 48 ∨ 57 < c.toNat := by rw [isD, decide_eq_false_iff_not] at h; omega
/-- the number behind digits that have already been read -/
def numV (a : Nat) (l : List UInt8) : Nat := l.foldl (fun a c => a * 10 + (c.toNat - 48)) a
theorem numV_nil (a : Nat) : numV a [] = a := rfl
theorem numV_cons (a : Nat) (c : UInt8) (l : List UInt8) : numV a (c :: l) = numV (a * 10 + (c.toNat - 48)) l := by rw [numV, numV, List.foldl_cons]
theorem numV_append (l m : List UInt8) (a : Nat) : numV a (l ++ m) = numV (numV a l) m := List.foldl_append
theorem numV_acc (l : List UInt8) : ∀ a : Nat, numV a l = a * 10 ^ l.length + numV 0 l := by
  induction l with
  | nil => intro a; rw [numV_nil, numV_nil, List.length_nil]; simp
  | cons c l ih =>
    intro a
    rw [numV_cons, ih, numV_cons, ih (0 * 10 + (c.toNat - 48)), List.length_cons, Nat.pow_succ, Nat.add_mul, Nat.zero_mul, Nat.zero_add, Nat.mul_assoc, Nat.mul_comm 10]
    omega
theorem numV_lt (l : List UInt8) : ∀ a : Nat, (∀ c ∈ l, isD c = true) → numV a l < (a + 1) * 10 ^ l.length := by
  induction l with
  | nil => intro a _; rw [numV_nil, List.length_nil]; simp
  | cons c l ih =>
    intro a h
    have h1 := isD_of (h c (List.mem_cons_self ..))
    have h2 := ih (a * 10 + (c.toNat - 48)) (fun x hx => h x (List.mem_cons_of_mem _ hx))
    rw [numV_cons, List.length_cons, Nat.pow_succ]
    have h3 : (a * 10 + (c.toNat - 48) + 1) * 10 ^ l.length ≤ ((a + 1) * 10) * 10 ^ l.length := Nat.mul_le_mul_right _ (by omega)
    rw [Nat.mul_assoc, Nat.mul_comm 10] at h3
    omega
theorem numV_lt0 (l : List UInt8) (h : ∀ c ∈ l, isD c = true) : numV 0 l < 10 ^ l.length := by
  have := numV_lt l 0 h
  rwa [Nat.zero_add, Nat.one_mul] at this
/-- strconv.ParseUint of digits that fit -/
theorem parse_ok (M : Nat) (hM2 : M ≤ 4294967295) (l : List UInt8) : ∀ a : Nat, (∀ c ∈ l, isD c = true) → numV a l ≤ M → Lib.parseUintM M a l = .ok (numV a l) := by
  induction l with
  | nil => intro a _ _; rfl
  | cons c l ih =>
    intro a h hM
    have h1 := isD_of (h c (List.mem_cons_self ..))
    have h2 : a * 10 + (c.toNat - 48) ≤ numV (a * 10 + (c.toNat - 48)) l := by
      have := numV_acc l (a * 10 + (c.toNat - 48))
      have h3 : (a * 10 + (c.toNat - 48)) * 1 ≤ (a * 10 + (c.toNat - 48)) * 10 ^ l.length := Nat.mul_le_mul_left _ (Nat.pow_pos (by omega))
      omega
    rw [numV_cons] at hM ⊢
    rw [Lib.parseUintM, if_pos h1, if_neg (by omega), if_neg (by omega)]
    exact ih _ (fun x hx => h x (List.mem_cons_of_mem _ hx)) hM
theorem numV_snoc (l : List UInt8) (c : UInt8) (a : Nat) : numV a (l ++ [c]) = numV a l * 10 + (c.toNat - 48) := by
  rw [numV_append]; rfl
/-- the digits of a number are read as that number -/
theorem numV_dec (u : Nat) : numV 0 (Lib.decDigits u) = u ∧ (∀ c ∈ Lib.decDigits u, isD c = true) ∧ Lib.decDigits u ≠ [] := by
  induction u using Nat.strongRecOn with
  | ind u ih =>
    have hd : ∀ d, d < 10 → (UInt8.ofNat (48 + d)).toNat = 48 + d := fun d hd => by
      simp [UInt8.toNat_ofNat']; omega
    by_cases h : u < 10
    · rw [Lib.decDigits, dif_pos h]
      refine ⟨?_, fun c hc => ?_, by simp⟩
      · rw [numV_cons, numV_nil, hd u h]; omega
      · simp only [List.mem_singleton] at hc
        subst hc
        rw [isD, decide_eq_true_iff, hd u h]; omega
    · obtain ⟨h1, h2, h3⟩ := ih (u / 10) (by omega)
      have hm : u % 10 < 10 := Nat.mod_lt _ (by omega)
      rw [Lib.decDigits, dif_neg h]
      refine ⟨?_, fun c hc => ?_, by simp⟩
      · rw [numV_snoc, h1, hd _ hm]; omega
      · rcases List.mem_append.1 hc with hc | hc
        · exact h2 c hc
        · simp only [List.mem_singleton] at hc
          subst hc
          rw [isD, decide_eq_true_iff, hd _ hm]; omega
theorem numV_zeros (n : Nat) (l : List UInt8) : numV 0 (List.replicate n (48 : UInt8) ++ l) = numV 0 l := by
  induction n with
  | zero => rfl
  | succ n ih => rw [List.replicate_succ, List.cons_append, numV_cons]; exact ih
/-- what a rune is where its first byte is no digit: no digit -/
theorem rune_no_digit (s : ByteArray) (pos : Nat) (h : pos < s.size) (hd : isD (s[pos]'h) = false) : (Utf8.decode s pos).1 < 48 ∨ 57 < (Utf8.decode s pos).1 := by
  have hg : s.get! pos = s[pos]'h := by
    simp [ByteArray.get!, getElem!_pos, h]
    rfl
  have hn := isD_not hd
  rw [Lib.decode_at, hg]
  rcases Lib.decodeN_shape (s.size - pos) (s[pos]'h).toNat (s.get! (pos + 1)).toNat (s.get! (pos + 2)).toNat (s.get! (pos + 3)).toNat with ⟨_, e⟩ | ⟨_, _, _, h4, e⟩ | ⟨_, _, _, _, h4, _, e⟩ | ⟨_, _, _, _, _, h4, _, e⟩ | e
  all_goals rw [e]; simp only; omega
end Go.Proofs.YtigoofeodbbbhaaDoorM
/- nat.grow: a list times a limb, and one more limb, in place. -/
namespace Go.Proofs.YtigoofeodbbbhaaDoor
open Go.RowKit Go.Proofs.YtigoofeodbbbhaaDoorL Go.Proofs.YtigoofeodbbbhaaDoorM
set_option linter.unusedVariables false
set_option linter.unusedSimpArgs false
theorem flat_u (l : List Nat) : l.flatMap encU = l.map valU := by
  induction l with
  | nil => rfl
  | cons y l ih => rw [List.flatMap_cons, List.map_cons, ← ih]; rfl
/-- an own list whose cells are set anew, in place -/
theorem Ow.swap {l S : List Nat} {tl : List Value} {base g n c : Nat} {w w1 : World} {e : TypeId} (f : Ow encU 1 e base w (.slice (some ⟨g, 0, none⟩) n c) l) (B : Blk w g (l.map valU ++ tl) e) (B' : Blk w1 g (S.map valU ++ tl) e) (hS : S.length = l.length) : Ow encU 1 e base w1 (.slice (some ⟨g, 0, none⟩) n c) S := by
  have hn : n = l.length := f.len_eq
  subst hn
  obtain ⟨h1, h2⟩ := f.own
  rcases h2 with ⟨h, _⟩ | ⟨g', cap, cur, hv, hg, hh, k1, k2, k3, k4⟩
  · cases h
  · cases hv
    have hcur : cur = (l.map valU ++ tl).toArray := by
      have := hh.symm.trans B.h
      simpa using this
    refine ⟨⟨by rw [flat_u]; simp, .inr ⟨g, c, (S.map valU ++ tl).toArray, by rw [hS], hg, B'.h, by omega, k2, ?_, ?_⟩⟩⟩
    · rw [← k3, hcur]; simp [hS]
    · rw [flat_u]; simp
/-- a beginning of an own list is own -/
theorem Ow.takeU {l : List Nat} {base n c : Nat} {w : World} {e : TypeId} {A : Option Addr} (f : Ow encU 1 e base w (.slice A n c) l) (k : Nat) (hk : k ≤ l.length) : Ow encU 1 e base w (.slice A k c) (l.take k) := by
  have hlk : (l.take k).length = k := by rw [List.length_take]; omega
  obtain ⟨h1, h2⟩ := f.own
  rcases h2 with ⟨h, h0⟩ | ⟨g', cap, cur, hv, hg, hh, k1, k2, k3, k4⟩
  · simp only [Value.slice.injEq] at h
    obtain ⟨rfl, rfl, rfl⟩ := h
    obtain rfl : k = 0 := by omega
    rw [List.take_zero]
    exact Ow.nil _ _ _ _ _
  · cases hv
    refine ⟨⟨by rw [flat_u]; simp, .inr ⟨g', c, cur, by rw [hlk], hg, hh, by omega, k2, k3, ?_⟩⟩⟩
    rw [flat_u] at k4 ⊢
    rw [hlk, Nat.mul_one, List.map_take, ← k4, List.take_take, Nat.mul_one, Nat.min_eq_left hk]
theorem mid_store (S R : List Nat) (x v k : Nat) (tl : List Value) (hS : S.length = k) : (((S ++ x :: R).map valU ++ tl).take k ++ [valU v] ++ ((S ++ x :: R).map valU ++ tl).drop (k + [valU v].length)) = ((S ++ [v]) ++ R).map valU ++ tl := by
  subst hS
  simp [List.take_append, List.drop_append]
set_option maxHeartbeats 1000000 in
theorem grow_any (l : List Nat) (A : Option Addr) (n c base by_ more : Nat) (w : World) (f : Ow encU 1 62 base w (.slice A n c) l) (hn : l.length = n) (hl : ∀ x ∈ l, x < 4294967296) (hby : by_ < 4294967296) (hmore : more < 4294967296) (hm : n ≤ 1073741824) (hbase : base ≤ w.heap.size) :
    Calls Tryd.prog 90 #[.slice A n c, .int .u32 by_, .int .u32 more] w fun e w' => ∃ v l', e = .returned v ∧ Ow encU 1 62 base w' v l' ∧ (∀ x ∈ l', x < 4294967296) ∧ valB 4294967296 l' = valB 4294967296 l * by_ + more ∧ l'.length ≤ n + 1 ∧ Below base w w' := by
  have HL := As.mk hl
  have Hn := As.mk hn
  have hB1 : As (∀ cy : Nat, ([cy] : List Nat).length = 1) := ⟨fun _ => rfl⟩
  by_cases h0 : n = 0
  · subst h0
    obtain rfl : l = [] := List.eq_nil_of_length_eq_zero hn
    have e1 : IntKind.u32.wrap (more : Int) = (more : Int) := IntWalk.u32_in _ (by omega)
    have HB1 := As.mk (show (([] : List Nat).length + 1) * 4 ≤ 140737488355328 from by decide)
    have HM1 := As.mk (show ([] : List Nat).length + 1 ≤ maxLen from by decide)
    clear hl hn
    by_cases hc0 : 0 < more
    · have hcI : (0 : Int) < (more : Int) := by omega
      go_enter Tryd.func90, Tryd.ntmps90
      go_wp2
      go_loopw [14, 7, 8, 9] (fun v u _ _ wr => v = .int .i64 0 ∧ u = .int .u64 (more : Int) ∧ w = wr) (fun v _ _ _ _ => 0)
      case atStart => exact ⟨rfl, rfl, rfl⟩
      case round =>
        obtain ⟨rfl, rfl, rfl⟩ := hrel
        go_wp2_with (first
          | ((with_reducible refine g_dst 39 ?_); go_must (refine ev_lit (v := fun g => .slice (some ⟨g, 0, none⟩) 1 1) 39 rfl (cs := [valU more]) (t := 62) (by go_simp; rfl) ?_); intro g2 w2 hb2 B2 hg2; have f2 := f.below hb2)
          | ((with_reducible refine g_dst 40 ?_); go_must (refine ev_append 40 rfl Tryd.underlying24 infoU rfl (by decide) rfl f2 rfl (hB1.out more) (B2.rdm (l := [more]) encU_one) lenU oneU (fun h => (nomatch h)) HB1.out HM1.out (Nat.le_trans hbase hb2.size) ?_); intro v3 w3 ho3 hg3; have hb3 := f2.grown (hb2.mono hbase) hg3 (Nat.le_refl _) (Nat.le_trans hbase hb2.size)))
        go_ret
        exact ⟨_, [more], rfl, ho3, fun x hx => by simp only [List.mem_singleton] at hx; omega, by simp [valB], by simp, hb3⟩
    · obtain rfl : more = 0 := by omega
      go_enter Tryd.func90, Tryd.ntmps90
      go_wp2
      go_loopw [14, 7, 8, 9] (fun v u _ _ wr => v = .int .i64 0 ∧ u = .int .u64 0 ∧ w = wr) (fun v _ _ _ _ => 0)
      case atStart => exact ⟨rfl, rfl, rfl⟩
      case round =>
        obtain ⟨rfl, rfl, rfl⟩ := hrel
        go_wp2
        go_ret
        exact ⟨_, [], rfl, f, fun x hx => (nomatch hx), by simp [valB], by simp, Below.refl _ _⟩
  · have hne : l ≠ [] := fun e => by rw [e] at hn; simp at hn; omega
    obtain ⟨g, c', tl, hv, hg, hlc, B⟩ := Ow.blk f encU_one hne
    simp only [Value.slice.injEq] at hv
    obtain ⟨rfl, hnl, rfl⟩ := hv
    have HB := As.mk B
    have hnb : n * 4 ≤ 4294967296 := by omega
    clear hl hne hnl
    go_enter Tryd.func90, Tryd.ntmps90
    go_wp2
    go_loopw [14, 7, 8, 9] (fun v u _ _ wr => ∃ (k cy : Nat) (S : List Nat), k ≤ n ∧ cy < 4294967296 ∧ v = .int .i64 (k : Int) ∧ u = .int .u64 (cy : Int) ∧ As (S.length = k) ∧ As (∀ x ∈ S, x < 4294967296) ∧ As (valB 4294967296 S + 4294967296 ^ k * cy = valB 4294967296 (l.take k) * by_ + more) ∧ Only g w wr ∧ Blk wr g ((S ++ l.drop k).map valU ++ tl) 62) (fun v _ _ _ _ => n - (intOf v).toNat)
    case atStart => exact ⟨0, more, [], by omega, hmore, rfl, rfl, ⟨rfl⟩, ⟨fun x hx => (nomatch hx)⟩, ⟨by simp [valB]⟩, ⟨rfl, rfl, rfl, rfl, fun _ _ => rfl⟩, by simpa using B⟩
    case round =>
      clear B
      obtain ⟨k, cy, S, hk, hcy, rfl, rfl, hS, hSl, hV, ho, B⟩ := hrel
      have hnn := Hn.out
      by_cases h : k < n
      · have hkl : k < l.length := by rw [hnn]; exact h
        rw [drop_cons_of_lt l k hkl] at B
        have htk := valB_take_succ 4294967296 l k
        rw [getD_of_lt hkl] at htk
        have hx4 := HL.out _ (List.getElem_mem hkl)
        obtain ⟨x, hx⟩ : ∃ x, x = l[k] := ⟨_, rfl⟩
        rw [← hx] at B htk hx4
        have hcell : wr.cell? ⟨g, k, none⟩ = some (.int .u32 (x : Nat)) := by
          rw [B.cells, List.getElem?_append_left (by simp [hS.out]), List.getElem?_map, List.getElem?_append_right (by rw [hS.out]; exact Nat.le_refl _), hS.out, Nat.sub_self]; rfl
        obtain ⟨q, hq⟩ : ∃ q, q = x * by_ := ⟨_, rfl⟩
        have hqb : q ≤ 4294967295 * 4294967295 := by rw [hq]; exact Nat.mul_le_mul (by omega) (by omega)
        have eq1 : (x : Int) * (by_ : Int) = (q : Int) := by rw [hq, Int.natCast_mul]
        obtain ⟨T, hT⟩ : ∃ T, T = cy + q := ⟨_, rfl⟩
        have e0 : (cy : Int) + (q : Int) = (T : Int) := by omega
        have hTb : T < 18446744073709551616 := by omega
        obtain ⟨lo, hlo⟩ : ∃ lo, lo = T % 4294967296 := ⟨_, rfl⟩
        obtain ⟨hi, hhi⟩ : ∃ hi, hi = T / 4294967296 := ⟨_, rfl⟩
        have hlo4 : lo < 4294967296 := by omega
        have hhi4 : hi < 4294967296 := by omega
        have e1 : IntKind.u32.wrap (T : Int) = (lo : Int) := by rw [hlo]; simp [IntKind.wrap, IntKind.bits, IntKind.signed]
        have e2 : (T : Int) / 4294967296 = (hi : Int) := by rw [hhi]; rfl
        have Hst : As (valB 4294967296 (S ++ [lo]) + 4294967296 ^ (k + 1) * hi = valB 4294967296 (l.take (k + 1)) * by_ + more) := ⟨by
          have h1 : 4294967296 ^ k * (lo + 4294967296 * hi) = 4294967296 ^ k * (cy + x * by_) := by rw [hlo, hhi, Nat.mod_add_div, hT, hq]
          have h2 := hV.out
          rw [valB_snoc, hS.out, htk, Nat.pow_succ, Nat.add_mul, Nat.mul_assoc _ x, Nat.mul_assoc _ 4294967296]
          rw [Nat.mul_add, Nat.mul_add] at h1
          omega⟩
        have HS2 : As ((S ++ [lo]).length = k + 1) := ⟨by simp [hS.out]⟩
        have HSl2 : As (∀ x ∈ S ++ [lo], x < 4294967296) := ⟨snoc_lt hSl.out hlo4⟩
        have Hmid := As.mk (mid_store S (l.drop (k + 1)) x lo k tl hS.out)
        have Hfit := As.mk (show k + [valU lo].length ≤ ((S ++ x :: l.drop (k + 1)).map valU ++ tl).length by simp [hS.out])
        have hkc : k < c := by omega
        have Hone := As.mk (show ∀ v ∈ [valU lo], v.oneCell' = true by simp [valU, Value.oneCell'])
        clear hx hq hT hlo hhi htk hkl hV hS hSl hnn
        go_wp2_with ((with_reducible refine g_store 30 ?_); go_must (refine ev_store rfl (by go_simp) B (news := [valU lo]) (by go_simp; rfl) infoU Hfit.out Hone.out ?_); intro w2 ho2 B2; rw [Hmid.out] at B2)
        go_roundw
        case rel => exact ⟨k + 1, hi, S ++ [lo], by omega, hhi4, by go_num, by go_num, HS2, HSl2, Hst, ho.trans ho2, B2⟩
        case measure => simp [intOf]; omega
      · obtain rfl : k = n := by omega
        have hV' := hV.out
        rw [List.take_of_length_le (by rw [hnn]; exact Nat.le_refl _)] at hV'
        rw [List.drop_eq_nil_of_le (by rw [hnn]; exact Nat.le_refl _), List.append_nil] at B
        have fS := Ow.swap f HB.out B (by rw [hS.out, hnn])
        have hbw := ho.below hg
        have hbw2 : base ≤ wr.heap.size := Nat.le_trans hbase hbw.size
        have HSS := As.mk (And.intro hS.out (And.intro hSl.out hV'))
        have hSk := hS.out
        by_cases hc0 : 0 < cy
        · have hcI : (0 : Int) < (cy : Int) := by omega
          have e1 : IntKind.u32.wrap (cy : Int) = (cy : Int) := IntWalk.u32_in _ (by omega)
          have HB1 := As.mk (show (S.length + 1) * 4 ≤ 140737488355328 by omega)
          have HM1 := As.mk (show S.length + 1 ≤ maxLen by simp only [maxLen]; omega)
          clear hV hV' hS hSl hnn B hSk
          go_wp2_with (first
            | ((with_reducible refine g_dst 39 ?_); go_must (refine ev_lit (v := fun g => .slice (some ⟨g, 0, none⟩) 1 1) 39 rfl (cs := [valU cy]) (t := 62) (by go_simp; rfl) ?_); intro g2 w2 hb2 B2 hg2; have f2 := fS.below hb2)
            | ((with_reducible refine g_dst 40 ?_); go_must (refine ev_append 40 rfl Tryd.underlying24 infoU rfl (by decide) rfl f2 rfl (hB1.out cy) (B2.rdm (l := [cy]) encU_one) lenU oneU (fun h => (nomatch h)) HB1.out HM1.out (Nat.le_trans hbw2 hb2.size) ?_); intro v3 w3 ho3 hg3; have hb3 := f2.grown (hbw.trans (hb2.mono hbw2)) hg3 (Nat.le_refl _) (Nat.le_trans hbw2 hb2.size)))
          go_ret
          exact ⟨_, S ++ [cy], rfl, ho3, snoc_lt HSS.out.2.1 hcy, by rw [valB_snoc, HSS.out.1]; exact HSS.out.2.2, by simp [HSS.out.1], hb3⟩
        · obtain rfl : cy = 0 := by omega
          clear hV hV' hS hSl hnn B hSk
          go_wp2
          go_ret
          exact ⟨_, S, rfl, fS, HSS.out.2.1, by have := HSS.out.2.2; omega, by rw [HSS.out.1]; omega, hbw⟩
end Go.Proofs.YtigoofeodbbbhaaDoor
/- strconv.ParseUint of up to nine digits; nat.Parse. -/
namespace Go.Proofs.YtigoofeodbbbhaaDoor
open Go.RowKit Go.Proofs.YtigoofeodbbbhaaDoorL Go.Proofs.YtigoofeodbbbhaaDoorM
set_option linter.unusedVariables false
set_option linter.unusedSimpArgs false
theorem parseUint_any (x : ByteArray) (w : World) (hd : ∀ c ∈ x.data.toList, isD c = true) (h0 : x.size ≠ 0) (h9 : x.size ≤ 9) :
    Calls Tryd.prog 89 #[.string x, .int .i64 10, .int .i64 32] w (Gives w fun v _ => v = .tuple #[.int .u64 ((numV 0 x.data.toList : Nat) : Int), .nilIface]) := by
  have hlen : x.data.toList.length ≤ 9 := by
    have : x.data.toList.length = x.size := by rw [Array.length_toList]; rfl
    omega
  have hlt := numV_lt0 x.data.toList hd
  have h10 : 10 ^ x.data.toList.length ≤ 10 ^ 9 := Nat.pow_le_pow_right (by omega) hlen
  have hle : numV 0 x.data.toList ≤ 4294967295 := by
    have : (10 : Nat) ^ 9 = 1000000000 := by decide
    omega
  have hP := Tryd.internal_strconv_ParseUint_10_b32 x h0 (by omega) w
  rw [parse_ok 4294967295 (Nat.le_refl _) _ 0 hd hle] at hP
  obtain ⟨V, hV⟩ : ∃ V, V = numV 0 x.data.toList := ⟨_, rfl⟩
  rw [← hV] at hP hle ⊢
  have HP := As.mk hP
  have HB := As.mk (Lib.bytesWorld_below w 5 x)
  clear hP hd hlt h10 hlen hV
  go_enter Tryd.func89, Tryd.ntmps89
  go_wp2_with (go_at_call 101; (refine HP.out.mono ?_); rintro e w1 ⟨rfl, hw1⟩; have hb1 : Below w.heap.size w w1 := (by rw [hw1]; exact HB.out); clear hw1; simp only [Lib.uintTupleM])
  go_ret2
  exact ⟨_, rfl, rfl, hb1⟩
theorem extract_list (s : ByteArray) (a e : Nat) (h : a ≤ e) (he : e ≤ s.size) : (s.extract a e).data.toList = (s.data.toList.drop a).take (e - a) := by
  rw [ByteArray.data_extract, Array.toList_extract, List.extract_eq_take_drop]
theorem byte_mem (s : ByteArray) (pos : Nat) (hp : pos < s.size) : s[pos]'hp ∈ s.data.toList := by
  rw [ByteArray.getElem_eq_getElem_data]; simp
theorem ne_empty (s : ByteArray) : (!s.toList.isEmpty) = decide (0 < s.size) := by
  rw [← decide_eq_emptyBytes]
  by_cases h : s = ByteArray.empty
  · subst h; rfl
  · have h2 : 0 < s.size := by
      rcases Nat.eq_zero_or_pos s.size with h0 | h0
      · exact absurd (ByteArray.size_eq_zero_iff.1 h0) h
      · exact h0
    simp [h, h2]
theorem iter_below {w wr : World} {B k pos : Nat} {s : ByteArray} (h : Below B w wr) (hk : B ≤ k) : Below B w (wr.iterAt k s pos) := Lib.below_iterAt h hk s pos
theorem pow10_9 (k : Nat) (h : k < 9) : 10 ^ k ≤ 100000000 := by
  have : (10 : Nat) ^ k ≤ 10 ^ 8 := Nat.pow_le_pow_right (by omega) (by omega)
  have e : (10 : Nat) ^ 8 = 100000000 := by decide
  omega
set_option maxRecDepth 8000 in
set_option maxHeartbeats 4000000 in
theorem parse_yes (s : ByteArray) (w : World) (hs : s.size ≤ 1073741824) (hd : ∀ c ∈ s.data.toList, isD c = true) :
    Calls Tryd.prog 63 #[.string s] w (Gives w fun v w' => ∃ q, v = .tuple #[q, .bool (decide (0 < s.size))] ∧ Ow encU 1 62 w.heap.size w' q (digB 4294967296 (numV 0 s.data.toList))) := by
  obtain ⟨t, ht⟩ : ∃ t, t = s.data.toList := ⟨_, rfl⟩
  have hsl : s.data.toList.length = s.size := by rw [Array.length_toList]; rfl
  rw [← ht] at hsl hd ⊢
  have HD := As.mk hd
  have HSL := As.mk hsl
  have Ht := As.mk ht
  clear hd hsl ht
  go_enter Tryd.func63, Tryd.ntmps63
  go_wp2
  go_loopw [5] (fun _ wr => ∃ pos : Nat, pos ≤ s.size ∧ As (wr.heap[w.heap.size]? = some (.stringIter s pos)) ∧ Below w.heap.size w wr) (fun _ wr => s.size - wr.iterPos w.heap.size)
  case atStart => exact ⟨0, by omega, ⟨World.iter_heap w s 0⟩, (Below.refl _ _).alloc (Nat.le_refl _) _⟩
  case round =>
    obtain ⟨pos, hpos, hit, hb⟩ := hrel
    have hpos0 := As.mk (iterPos_of hit.out)
    by_cases hp : pos < s.size
    · have hx := isD_of (HD.out (s[pos]'hp) (by
        have := byte_mem s pos hp
        rwa [← Ht.out] at this))
      have hnx := fun ty => Lib.run_next_ascii_at (P := Tryd.prog) wr w.heap.size s pos ty hit.out hp (by omega)
      obtain ⟨x, hxe⟩ : ∃ x, x = (s[pos]'hp).toNat := ⟨_, rfl⟩
      rw [← hxe] at hx hnx
      have hit2 := As.mk (Lib.iterAt_heap wr w.heap.size s pos (pos + 1) hit.out)
      have hb2 := iter_below (s := s) (pos := pos + 1) hb (Nat.le_refl _)
      obtain ⟨W1, hW1⟩ : ∃ W1, W1 = wr.iterAt w.heap.size s (pos + 1) := ⟨_, rfl⟩
      rw [← hW1] at hnx hit2 hb2
      have hx1 : ¬ (x : Int) < 48 := by omega
      have hx2 : ¬ (57 : Int) < (x : Int) := by omega
      clear hW1 hxe hit
      go_wp2
      go_roundw
      case rel => exact ⟨pos + 1, by omega, hit2, hb2⟩
      case measure => rw [iterPos_of hit2.out, hpos0.out]; omega
    · have hnx := fun ty => Lib.run_next_end_at (P := Tryd.prog) wr w.heap.size s pos ty hit.out hp
      go_wp2
      clear hnx hit hpos0 hp
      go_loopw [7, 6, 8, 9, 10, 11] (fun v u _ _ _ _ wr => ∃ (at_ c : Nat) (A : Option Addr) (l : List Nat), at_ ≤ s.size ∧ v = .int .i64 (at_ : Int) ∧ u = .slice A l.length c ∧ l.length ≤ at_ ∧ As (∀ x ∈ l, x < 4294967296) ∧ As (valB 4294967296 l = numV 0 (t.take at_)) ∧ Ow encU 1 62 w.heap.size wr (.slice A l.length c) l ∧ Below w.heap.size w wr) (fun v _ _ _ _ _ _ => s.size - (intOf v).toNat)
      case atStart => exact ⟨0, 0, none, [], by omega, rfl, rfl, by simp, ⟨fun x hx => (nomatch hx)⟩, ⟨by simp [valB, numV_nil]⟩, Ow.nil _ _ _ _ _, hb⟩
      case round =>
        clear hb
        obtain ⟨at_, c, A, l, hat, rfl, rfl, hll, hl, hV, ho, hb⟩ := hrel
        by_cases h : at_ < s.size
        · obtain ⟨r, hr⟩ : ∃ r, r = s.size % 9 := ⟨_, rfl⟩
          have er : (s.size : Int) % 9 = (r : Int) := by rw [hr]; rfl
          have hr9 : r < 9 := by omega
          obtain ⟨e, he, hae, hes, hed, hcase⟩ : ∃ e : Nat, (at_ = 0 ∧ 0 < r ∧ e = r ∨ (¬ (at_ = 0 ∧ 0 < r)) ∧ e = min s.size (at_ + 9)) ∧ at_ < e ∧ e ≤ s.size ∧ e - at_ ≤ 9 ∧ True := by
            by_cases hc : at_ = 0 ∧ 0 < r
            · exact ⟨r, .inl ⟨hc.1, hc.2, rfl⟩, by omega, by omega, by omega, trivial⟩
            · exact ⟨min s.size (at_ + 9), .inr ⟨hc, rfl⟩, by omega, by omega, by omega, trivial⟩
          obtain ⟨d, hd⟩ : ∃ d, d = e - at_ := ⟨_, rfl⟩
          have hxl := extract_list s at_ e (by omega) hes
          rw [← Ht.out, ← hd] at hxl
          have hxs : (s.extract at_ e).size = d := by rw [ByteArray.size_extract]; omega
          have hxd : ∀ c ∈ (s.extract at_ e).data.toList, isD c = true := fun c hc => HD.out c (by rw [hxl] at hc; exact List.mem_of_mem_drop (List.mem_of_mem_take hc))
          have hxlen : ((t.drop at_).take d).length = d := by rw [List.length_take, List.length_drop, HSL.out]; omega
          have hult := numV_lt0 _ hxd
          rw [hxl] at hult
          rw [hxlen] at hult
          have HU := As.mk (fun W => parseUint_any (s.extract at_ e) W hxd (by rw [hxs]; omega) (by rw [hxs]; omega))
          rw [hxl] at HU
          obtain ⟨u, hu⟩ : ∃ u, u = numV 0 ((t.drop at_).take d) := ⟨_, rfl⟩
          rw [← hu] at HU hult
          have hu10 : u < 4294967296 := by
            have : 10 ^ d ≤ 10 ^ 9 := Nat.pow_le_pow_right (by omega) (by omega)
            have e9 : (10 : Nat) ^ 9 = 1000000000 := by decide
            omega
          have eu : IntKind.u32.wrap (u : Int) = (u : Int) := IntWalk.u32_in _ (by omega)
          have HVn : As (numV 0 (t.take at_) * 10 ^ d + u = numV 0 (t.take e)) := ⟨by
            have h1 : t.take e = t.take at_ ++ (t.drop at_).take d := by
              rw [show e = at_ + d by omega, List.take_add]
            rw [h1, numV_append, numV_acc ((t.drop at_).take d), hxlen, ← hu]⟩
          obtain ⟨m0, hm0⟩ : ∃ m0, m0 = min s.size (at_ + 9) := ⟨_, rfl⟩
          have em0 : min (s.size : Int) ((at_ : Int) + 9) = (m0 : Int) := by rw [hm0]; omega
          have hati : (at_ : Int) < (s.size : Int) := by omega
          have haei : (at_ : Int) ≤ (e : Int) := by omega
          have hesi : (e : Int) ≤ (s.size : Int) := by omega
          have ed : (e : Int) - (at_ : Int) = (d : Int) := by omega
          have hd9 : d ≤ 9 := by omega
          have Hd := As.mk hd
          have hpow := pow10_9
          have hpre : ((at_ : Int) == 0) = true ∧ (0 : Int) < (r : Int) ∧ e = r ∨ ((at_ : Int) == 0) = true ∧ ¬ (0 : Int) < (r : Int) ∧ e = m0 ∨ ((at_ : Int) == 0) = false ∧ e = m0 := by
            rcases he with ⟨h1, h2, h3⟩ | ⟨h1, h2⟩
            · exact .inl ⟨by simp [h1], by omega, h3⟩
            · by_cases h3 : at_ = 0
              · exact .inr (.inl ⟨by simp [h3], by omega, by rw [hm0]; exact h2⟩)
              · exact .inr (.inr ⟨by simp [h3], by rw [hm0]; exact h2⟩)
          have HP := As.mk hpow
          clear hxl hxs hxd hxlen hult hu hd hr hcase he hm0 hpow
          rcases hpre with ⟨q1, q2, rfl⟩ | ⟨q1, q2, rfl⟩ | ⟨q1, rfl⟩
          all_goals
            go_wp2_with (go_at_call 89; (refine (HU.out _).mono ?_); rintro e0 w3 ⟨v3, rfl, rfl, hb3⟩; replace ho := ho.below hb3; replace hb := bthen hb hb3)
            go_loopw [11, 54] (fun p i wq => ∃ (k P : Nat), k ≤ d ∧ i = .int .i64 (k : Int) ∧ p = .int .u32 (P : Int) ∧ P ≤ 1000000000 ∧ As (P = 10 ^ k) ∧ w3 = wq) (fun _ i _ => d - (intOf i).toNat)
            case atStart => exact ⟨0, 1, by omega, rfl, rfl, by omega, ⟨by simp⟩, rfl⟩
            case round =>
              obtain ⟨k, P, hk, rfl, rfl, hP9, hP, rfl⟩ := hrel
              by_cases hkd : k < d
              · have hP8 : P ≤ 100000000 := by rw [hP.out]; exact HP.out k (by omega)
                have hP' : As (P * 10 = 10 ^ (k + 1)) := ⟨by rw [hP.out, Nat.pow_succ]⟩
                have hP9' : P * 10 ≤ 1000000000 := by omega
                go_wp2
                go_roundw
                case rel => exact ⟨k + 1, P * 10, by omega, by go_num, by go_num, hP9', ⟨hP'.out⟩, trivial⟩
                case measure => simp [intOf]; omega
              · obtain rfl : k = d := by omega
                have HG := As.mk (grow_any l A l.length c w.heap.size P u w3 ho rfl hl.out (by omega) hu10 (by omega) hb.size)
                rw [hV.out, hP.out, HVn.out, ← hP.out] at HG
                go_wp2_with (go_at_call 90; (with_reducible refine HG.out.mono ?_); rintro e1 w4 ⟨v4, l4, rfl, ho4, hl4, hv4, hn4, hb4⟩; have Hl4 := As.mk hl4; have Hv4 := As.mk hv4; clear hl4 hv4)
                obtain ⟨A4, c4, rfl, h41, h42⟩ := ho4.form
                refine ⟨?_, by simp [intOf]; omega⟩
                exact ⟨_, c4, A4, l4, hes, by go_num, rfl, by omega, Hl4, Hv4, ho4, hb.trans (hb4.mono (Nat.le_refl _))⟩
        · obtain rfl : at_ = s.size := by omega
          have htt : t.take s.size = t := List.take_of_length_le (by rw [HSL.out]; exact Nat.le_refl _)
          have T1 := As.mk (trim_any l A c wr (ho.rd lenU) (by obtain ⟨A', c', e, h1, h2⟩ := ho.form; simp only [Value.slice.injEq] at e; obtain ⟨rfl, _, rfl⟩ := e; exact h1) (by omega))
          have HO := As.mk (Ow.takeU ho (trimL l).length (trimL_le l))
          rw [← trimL_take, trimL_dig 4294967296 (by omega) l hl.out, hV.out, htt] at HO
          rw [trimL_dig 4294967296 (by omega) l hl.out, hV.out, htt] at T1
          have Hne := As.mk (ne_empty s)
          clear htt hV hl
          go_wp2_with (go_at_call 73; (with_reducible refine T1.out.mono ?_); rintro e w3 ⟨rfl, rfl⟩)
          go_ret2
          exact ⟨_, rfl, ⟨_, by rw [← Hne.out]; rfl, HO.out⟩, hb⟩
end Go.Proofs.YtigoofeodbbbhaaDoor
/- tandemref01.Bits, Parse. -/
namespace Go.Proofs.YtigoofeodbbbhaaDoor
open Go.RowKit Go.Proofs.YtigoofeodbbbhaaDoorL Go.Proofs.YtigoofeodbbbhaaDoorM
set_option linter.unusedVariables false
set_option linter.unusedSimpArgs false
set_option maxHeartbeats 1000000 in
theorem rBits_any (l : List Nat) (A : Option Addr) (c : Nat) (w : World) (h : Sl.Good ⟨A, c, l⟩ w) :
    Calls Tryd.prog 60 #[.slice A l.length c] w (Gives w fun v _ => v = .int .i64 ((bitN (valB 4294967296 l) : Nat) : Int)) := by
  obtain ⟨V, hV⟩ : ∃ V, V = valB 4294967296 l := ⟨_, rfl⟩
  have q1 := half_len3 l h.lt h.max
  have H1 := As.mk (half_any l _ rfl A c w h.rd h.lt h.cap (Nat.le_trans h.max (by omega)))
  rw [← hV] at H1 q1 ⊢
  obtain ⟨L, hL⟩ : ∃ L, L = digB 65536 V := ⟨_, rfl⟩
  rw [← hL] at H1 q1
  by_cases h0 : L = []
  · have hb0 : As (bitN V = 0) := ⟨by rw [bitN_eq_zero, ← digB_eq_nil 65536 V (by omega), ← hL]; exact h0⟩
    subst h0
    clear hV hL
    go_enter Tryd.func60, Tryd.ntmps60
    go_wp2_with (go_at_call 81; (with_reducible refine H1.out.mono ?_); rintro e w1 ⟨v1, rfl, ho1, hb1⟩; obtain ⟨A1, k1, rfl, h11, h12⟩ := ho1.form)
    go_ret
    exact ⟨_, rfl, by rw [hb0.out]; rfl, hb1⟩
  · obtain ⟨m, hm1⟩ : ∃ m, L.length = m + 1 := ⟨L.length - 1, by have : L.length ≠ 0 := fun e => h0 (List.eq_nil_of_length_eq_zero e); omega⟩
    have hz : ((L.length : Int) == 0) = false := by simp; exact h0
    have hmL : m < L.length := by omega
    obtain ⟨x, hx⟩ : ∃ x, x = L[m]'hmL := ⟨_, rfl⟩
    have hx2 : x < 65536 := by rw [hx]; have := List.getElem_mem (show m < L.length by omega); exact (hL ▸ digB_lt 65536 (by omega) V) _ this
    have hbits : As (bitN V = 16 * m + bitN x) := ⟨by
      have hk := bitN_limbs 16 V (by omega) (by rw [show (2 : Nat) ^ 16 = 65536 from rfl, ← hL]; exact h0)
      simp only [show (2 : Nat) ^ 16 = 65536 from rfl, ← hL] at hk
      rw [hk, hm1, Nat.add_sub_cancel, List.getLast_eq_getElem, hx]
      simp only [hm1, Nat.add_sub_cancel]⟩
    have Hne := As.mk h0
    have Hx := As.mk hx
    have hml : m < 549755813888 := by omega
    have em : ((L.length : Int) - 1) = (m : Int) := by omega
    clear hV hL h0 hx hm1
    go_enter Tryd.func60, Tryd.ntmps60
    go_wp2_with (go_at_call 81; (with_reducible refine H1.out.mono ?_); rintro e w1 ⟨v1, rfl, ho1, hb1⟩; obtain ⟨A1, k1, rfl, h11, h12⟩ := ho1.form; obtain ⟨b, off, rfl⟩ := (ho1.rd lenI).get Hne.out; have hcell := Rd.i (ho1.rd lenI) m hmL; rw [← Hx.out] at hcell; have hmk : m < k1 := Nat.lt_of_lt_of_le hmL h11)
    go_loopw [4, 5] (fun v u wr => ∃ n y : Nat, v = .int .i64 (n : Int) ∧ u = .int .i64 (y : Int) ∧ y < 65536 ∧ n ≤ 8796093022208 + 16 ∧ As (n + bitN y = bitN V) ∧ n + y ≤ 8796093022208 + 65552 ∧ w1 = wr) (fun _ u _ => (intOf u).toNat)
    case atStart => exact ⟨16 * m, x, by go_num, rfl, hx2, by omega, hbits.out.symm |> As.mk, by omega, rfl⟩
    case round =>
      obtain ⟨n, y, rfl, rfl, hy, hn, hny, hs, rfl⟩ := hrel
      by_cases h : 0 < y
      · have hh : As (n + 1 + bitN (y / 2) = bitN V) := ⟨by rw [← hny.out, bitN_half y h]; omega⟩
        have e2 : (y : Int) / 2 = ((y / 2 : Nat) : Int) := rfl
        have h' : (0 : Int) < (y : Int) := by omega
        obtain ⟨z, hzz⟩ : ∃ z, z = y / 2 := ⟨_, rfl⟩
        rw [← hzz] at hh e2
        have hz1 : z < y := by omega
        have hbn : bitN V ≤ 16 * m + 16 := by rw [hbits.out]; have : bitN x ≤ 16 := digB_len_lt 2 (by omega) 16 x (by omega); omega
        have hn1 : n + 1 ≤ 8796093022208 + 16 := by have := hh.out; omega
        clear hzz hny hbn
        go_wp2
        go_roundw
        case rel => exact ⟨n + 1, z, by go_num, by go_num, by omega, hn1, hh, by omega, trivial⟩
        case measure => simp [intOf]; omega
      · obtain rfl : y = 0 := by omega
        have hh : As (bitN V = n) := ⟨by rw [← hny.out, bitN_zero]; rfl⟩
        clear hny
        go_wp2
        go_ret
        exact ⟨_, rfl, by rw [hh.out]; rfl, hb1⟩
theorem valI_10 : ([10].map valI) = [valI 10] := rfl
set_option maxRecDepth 8000 in
set_option maxHeartbeats 4000000 in
theorem rParse_yes (s : ByteArray) (w : World) (hs : s.size ≤ 1073741824) (hd : ∀ c ∈ s.data.toList, isD c = true) :
    Calls Tryd.prog 64 #[.string s] w (Gives w fun v w' => ∃ q, v = .tuple #[q, .bool (decide (0 < s.size))] ∧ Ow encU 1 62 w.heap.size w' q (digB 4294967296 (numV 0 s.data.toList))) := by
  obtain ⟨t, ht⟩ : ∃ t, t = s.data.toList := ⟨_, rfl⟩
  have hsl : s.data.toList.length = s.size := by rw [Array.length_toList]; rfl
  rw [← ht] at hsl hd ⊢
  have HD := As.mk hd
  have HSL := As.mk hsl
  have Ht := As.mk ht
  have HLen : As (∀ k, k ≤ s.size → (digB 65536 (numV 0 (t.take k))).length ≤ k) := ⟨fun k hk => by
    refine digB_len_lt 65536 (by omega) k _ ?_
    have h1 := numV_lt0 (t.take k) (fun c hc => hd c (List.mem_of_mem_take hc))
    rw [List.length_take, hsl, Nat.min_eq_left hk] at h1
    exact Nat.lt_of_lt_of_le h1 (Nat.pow_le_pow_left (by omega) k)⟩
  clear hd hsl ht
  go_enter Tryd.func64, Tryd.ntmps64
  go_wp2
  go_loopw [4, 5] (fun v u wr => ∃ (k c n : Nat) (A : Option Addr), k ≤ s.size ∧ v = .slice A n c ∧ u = .int .i64 (k : Int) ∧ Below w.heap.size w wr ∧ Ow encI 1 3 w.heap.size wr (.slice A n c) (digB 65536 (numV 0 (t.take k)))) (fun _ u _ => s.size - (intOf u).toNat)
  case atStart => exact ⟨0, 0, 0, none, by omega, rfl, rfl, Below.refl _ _, by rw [List.take_zero, numV_nil, digB_zero]; exact Ow.nil _ _ _ _ _⟩
  case round =>
    obtain ⟨k, c, n, A, hk, rfl, rfl, hb0, ho⟩ := hrel
    have hnl := ho.len_eq
    have hnk := HLen.out k hk
    obtain ⟨V, hV⟩ : ∃ V, V = numV 0 (t.take k) := ⟨_, rfl⟩
    obtain ⟨D, hD⟩ : ∃ D, D = digB 65536 V := ⟨_, rfl⟩
    rw [← hV, ← hD] at ho hnl hnk
    have HDl : As (∀ x ∈ D, x < 65536) := ⟨by rw [hD]; exact digB_lt _ (by omega) V⟩
    have HDv : As (valB 65536 D = V) := ⟨by rw [hD]; exact digB_val _ (by omega) V⟩
    have hnc : n ≤ c := by obtain ⟨A', c', e, h1, _⟩ := ho.form; simp only [Value.slice.injEq] at e; omega
    have Hnl := As.mk hnl
    have hn30 : n ≤ 1073741824 := by omega
    by_cases h : k < s.size
    · have hbyte := isD_of (HD.out (s[k]'h) (by have := byte_mem s k h; rwa [← Ht.out] at this))
      obtain ⟨x, hx⟩ : ∃ x, x = (s[k]'h).toNat := ⟨_, rfl⟩
      rw [← hx] at hbyte
      have hx1 : ¬ (x : Int) < 48 := by omega
      have hx2 : ¬ (57 : Int) < (x : Int) := by omega
      obtain ⟨d, hdd⟩ : ∃ d, d = x - 48 := ⟨_, rfl⟩
      have hd9 : d < 10 := by omega
      have ed : (x : Int) - 48 = (d : Int) := by omega
      have ed64 : IntKind.i64.wrap (d : Int) = (d : Int) := IntWalk.i64_in _ (by omega)
      have ed8 : IntKind.u8.wrap (d : Int) = (d : Int) := IntWalk.u8_in _ (by omega)
      have hcx : ((s[k]'h).toNat : Int) = (x : Int) := by rw [hx]
      obtain ⟨E, hE⟩ : ∃ E, E = digB 65536 (V * 10) := ⟨_, rfl⟩
      have hEl : E.length ≤ n + 1 := by
        rw [hE]
        refine digB_len_lt 65536 (by omega) _ _ ?_
        have h1 := lt_pow_len 65536 (by omega) V
        rw [← hD, ← hnl] at h1
        rw [Nat.pow_succ]
        exact Nat.mul_lt_mul_of_lt_of_le h1 (by omega) (by omega)
      have HMul : As (∀ (W : World) (gg : Nat) (BB : Blk W gg ([10].map valI) 3) (hb : Below wr.heap.size wr W), Calls Tryd.prog 84 #[.slice A n c, .slice (some ⟨gg, 0, none⟩) 1 1] W (Gives W fun v w' => Ow encI 1 3 W.heap.size w' v E)) := ⟨fun W gg BB hb => by
        have := rmul_any D [10] n 1 Hnl.out.symm rfl A (some ⟨gg, 0, none⟩) c 1 W ((ho.below hb).rd lenI) (BB.rdm encI_one) ⟨HDl.out, fun y hy => by simp only [List.mem_singleton] at hy; omega⟩ hnc (Nat.le_refl _) (by omega) (by omega)
        rwa [HDv.out, show valB 65536 [10] = 10 by decide, ← hE] at this⟩
      have HAdd : As (∀ (W : World) (Am : Option Addr) (cm gg base : Nat) (om : Ow encI 1 3 base W (.slice Am E.length cm) E) (hcm : E.length ≤ cm) (BB : Blk W gg ([d].map valI) 3), Calls Tryd.prog 91 #[.slice Am E.length cm, .slice (some ⟨gg, 0, none⟩) 1 1] W (Gives W fun v w' => Ow encI 1 3 W.heap.size w' v (digB 65536 (V * 10 + d)))) := ⟨fun W Am cm gg base om hcm BB => by
        have := radd_any E [d] E.length 1 rfl rfl Am (some ⟨gg, 0, none⟩) cm 1 W (om.rd lenI) (BB.rdm encI_one) (by rw [hE]; exact digB_lt _ (by omega) _) (fun y hy => by simp only [List.mem_singleton] at hy; omega) hcm (Nat.le_refl _) (by omega) (by omega)
        rwa [hE, digB_val 65536 (by omega), show valB 65536 [d] = d by simp [valB], ← hE] at this⟩
      have hVn : V * 10 + d = numV 0 (t.take (k + 1)) := by
        have hkt : k < t.length := by rw [HSL.out]; exact h
        rw [List.take_succ_eq_append_getElem hkt, numV_snoc, ← hV, hdd, hx]
        congr 3
        simp only [Ht.out, ByteArray.getElem_eq_getElem_data, Array.getElem_toList]
      have HNew : As (∀ (W : World) (Aa : Option Addr) (na ca : Nat), Ow encI 1 3 w.heap.size W (.slice Aa na ca) (digB 65536 (V * 10 + d)) → Ow encI 1 3 w.heap.size W (.slice Aa na ca) (digB 65536 (numV 0 (t.take (k + 1))))) := ⟨fun W Aa na ca f => by rw [← hVn]; exact f⟩
      replace HNew : As (∀ (W : World) (Aa : Option Addr) (ca : Nat) {na : Nat}, Ow encI 1 3 w.heap.size W (.slice Aa na ca) (digB 65536 (V * 10 + d)) → Ow encI 1 3 w.heap.size W (.slice Aa na ca) (digB 65536 (numV 0 (t.take (k + 1))))) := ⟨fun W Aa ca na f => HNew.out W Aa na ca f⟩
      clear hx hdd hE hVn hV hD hnl hnk
      go_wp2
      have hcur := (Below.refl wr.heap.size wr).drew
      refine wp_gen2 (fun Q7 hQ7 => ?_)
      refine wp_region_held_drew (S := fun W => Below wr.heap.size wr W) (by kernel_rfl) hcur (fun hHeld => ?_)
      clear hHeld
      refine wpAnyH_take (i := 0) (oi := _) (v := .slice A n c) rfl (by kernel_rfl) (by kernel_rfl) (by kernel_rfl) (fun _ _ _ h => h) (Or.inl ⟨by kernel_rfl, fun W hSw => by ((try dsimp only at hSw); go_simp; try (with_reducible rfl))⟩) hcur ?_
      (try simp only [Act.put, List.setIfInBounds_toArray, List.set_cons_zero, List.set_cons_succ])
      refine wpAnyH_take (i := 3) (oi := _) (v := .string s) rfl (by kernel_rfl) (by kernel_rfl) (by kernel_rfl) (fun _ _ _ h => h) (Or.inl ⟨by kernel_rfl, fun W hSw => by ((try dsimp only at hSw); go_simp; try (with_reducible rfl))⟩) hcur ?_
      (try simp only [Act.put, List.setIfInBounds_toArray, List.set_cons_zero, List.set_cons_succ])
      refine wpAnyH_take (i := 4) (oi := _) (v := .int .i64 (k : Int)) rfl (by kernel_rfl) (by kernel_rfl) (by kernel_rfl) (fun _ _ _ h => h) (Or.inl ⟨by kernel_rfl, fun W hSw => by ((try dsimp only at hSw); go_simp; try (with_reducible rfl))⟩) hcur ?_
      (try simp only [Act.put, List.setIfInBounds_toArray, List.set_cons_zero, List.set_cons_succ])
      refine wpAnyH_take (i := 5) (oi := _) (v := .int .u8 (x : Int)) rfl (by kernel_rfl) (by kernel_rfl) (by kernel_rfl) (fun _ _ _ h => h) (Or.inl ⟨by kernel_rfl, fun W hSw => by ((try dsimp only at hSw); go_simp; try (with_reducible rfl))⟩) hcur ?_
      (try simp only [Act.put, List.setIfInBounds_toArray, List.set_cons_zero, List.set_cons_succ])
      refine wpAnyH_take (i := 6) (oi := _) (v := .int .u8 (d : Int)) rfl (by kernel_rfl) (by kernel_rfl) (by kernel_rfl) (fun _ _ _ h => h) (Or.inl ⟨by kernel_rfl, fun W hSw => by ((try dsimp only at hSw); go_simp; try (with_reducible rfl))⟩) hcur ?_
      (try simp only [Act.put, List.setIfInBounds_toArray, List.set_cons_zero, List.set_cons_succ])
      refine wpAnyH_take (i := 7) (oi := _) (v := .int .i64 (d : Int)) rfl (by kernel_rfl) (by kernel_rfl) (by kernel_rfl) (fun _ _ _ h => h) (Or.inl ⟨by kernel_rfl, fun W hSw => by ((try dsimp only at hSw); go_simp; try (with_reducible rfl))⟩) hcur ?_
      (try simp only [Act.put, List.setIfInBounds_toArray, List.set_cons_zero, List.set_cons_succ])
      refine wpAnyH_ready (rs := [1, 8]) (by kernel_rfl) (by simp) ?_
      refine AllReadyH.cons (o := _) rfl (fun K hK => ?_) ?_
      · refine st_lit (v := fun g => .slice (some ⟨g, 0, none⟩) 1 1) 23 rfl (cs := [10].map valI) (t := 3) (by go_simp; try rfl) ?_; intro g23 wn hb B23 hg23; replace hcur := bthen hcur hb
        refine hK.out _ _ hcur (fun hHeld => ?_)
        clear hK K hHeld
        (try simp only [Act.put, List.setIfInBounds_toArray, List.set_cons_zero, List.set_cons_succ])
        refine wpAnyH_ready (rs := [2, 8]) (by kernel_rfl) (by simp) ?_
        refine AllReadyH.cons (o := _) rfl (fun K hK => ?_) ?_
        · go_simp; (with_reducible refine (HMul.out _ _ B23 hcur).mono ?_); rintro e wn ⟨vm, rfl, om, hb⟩; obtain ⟨Am, cm, rfl, hm1, hm2⟩ := om.form; replace hcur := bthen hcur hb; go_wp2_with fail
          refine hK.out _ _ hcur (fun hHeld => ?_)
          clear hK K hHeld
          (try simp only [Act.put, List.setIfInBounds_toArray, List.set_cons_zero, List.set_cons_succ])
          refine wpAnyH_ready (rs := [8]) (by kernel_rfl) (by simp) ?_
          refine AllReadyH.cons (o := _) rfl (fun K hK => ?_) ?_
          · refine st_lit (v := fun g => .slice (some ⟨g, 0, none⟩) 1 1) 30 rfl (cs := [d].map valI) (t := 3) (by go_simp; try rfl) ?_; intro g30 wn hb B30 hg30; replace om := om.below hb; replace hcur := bthen hcur hb
            refine hK.out _ _ hcur (fun hHeld => ?_)
            clear hK K hHeld
            (try simp only [Act.put, List.setIfInBounds_toArray, List.set_cons_zero, List.set_cons_succ])
            refine wpAnyH_ready (rs := [9]) (by kernel_rfl) (by simp) ?_
            refine AllReadyH.cons (o := _) rfl (fun K hK => ?_) ?_
            · go_simp; (with_reducible refine (HAdd.out _ Am cm _ _ om hm1 B30).mono ?_); rintro e wn ⟨va, rfl, oa, hb⟩; obtain ⟨Aa, ca, rfl, ha1, ha2⟩ := oa.form; replace oa := oa.lower hcur.size; replace hcur := bthen hcur hb; go_wp2_with fail
              refine hK.out _ _ hcur (fun hHeld => ?_)
              clear hK K hHeld
              (try simp only [Act.put, List.setIfInBounds_toArray, List.set_cons_zero, List.set_cons_succ])
              refine wpAnyH_ready (rs := [10]) (by kernel_rfl) (by simp) ?_
              refine AllReadyH.cons (o := _) rfl (fun K hK => ?_) ?_
              · go_simp
                refine hK.out _ _ hcur (fun hHeld => ?_)
                clear hK K hHeld
                (try simp only [Act.put, List.setIfInBounds_toArray, List.set_cons_zero, List.set_cons_succ])
                refine wpAnyH_done (by kernel_rfl) ?_ _
                refine NoPanic.normal ?_
                obtain ⟨rfl⟩ := hQ7
                (go_wp2_with fail)
                refine ⟨⟨k + 1, ca, _, Aa, by omega, rfl, by go_num, bthen hb0 hcur, HNew.out _ _ _ (oa.lower hb0.size)⟩, by simp [intOf]; omega⟩
              exact AllReadyH.nil
            exact AllReadyH.nil
          exact AllReadyH.nil
        refine AllReadyH.cons (o := _) rfl (fun K hK => ?_) ?_
        · refine st_lit (v := fun g => .slice (some ⟨g, 0, none⟩) 1 1) 30 rfl (cs := [d].map valI) (t := 3) (by go_simp; try rfl) ?_; intro g30 wn hb B30 hg30; replace B23 := B23.below hb; replace hcur := bthen hcur hb
          refine hK.out _ _ hcur (fun hHeld => ?_)
          clear hK K hHeld
          (try simp only [Act.put, List.setIfInBounds_toArray, List.set_cons_zero, List.set_cons_succ])
          refine wpAnyH_ready (rs := [2]) (by kernel_rfl) (by simp) ?_
          refine AllReadyH.cons (o := _) rfl (fun K hK => ?_) ?_
          · go_simp; (with_reducible refine (HMul.out _ _ B23 hcur).mono ?_); rintro e wn ⟨vm, rfl, om, hb⟩; obtain ⟨Am, cm, rfl, hm1, hm2⟩ := om.form; replace B30 := B30.below hb; replace hcur := bthen hcur hb; go_wp2_with fail
            refine hK.out _ _ hcur (fun hHeld => ?_)
            clear hK K hHeld
            (try simp only [Act.put, List.setIfInBounds_toArray, List.set_cons_zero, List.set_cons_succ])
            refine wpAnyH_ready (rs := [9]) (by kernel_rfl) (by simp) ?_
            refine AllReadyH.cons (o := _) rfl (fun K hK => ?_) ?_
            · go_simp; (with_reducible refine (HAdd.out _ Am cm _ _ om hm1 B30).mono ?_); rintro e wn ⟨va, rfl, oa, hb⟩; obtain ⟨Aa, ca, rfl, ha1, ha2⟩ := oa.form; replace oa := oa.lower hcur.size; replace hcur := bthen hcur hb; go_wp2_with fail
              refine hK.out _ _ hcur (fun hHeld => ?_)
              clear hK K hHeld
              (try simp only [Act.put, List.setIfInBounds_toArray, List.set_cons_zero, List.set_cons_succ])
              refine wpAnyH_ready (rs := [10]) (by kernel_rfl) (by simp) ?_
              refine AllReadyH.cons (o := _) rfl (fun K hK => ?_) ?_
              · go_simp
                refine hK.out _ _ hcur (fun hHeld => ?_)
                clear hK K hHeld
                (try simp only [Act.put, List.setIfInBounds_toArray, List.set_cons_zero, List.set_cons_succ])
                refine wpAnyH_done (by kernel_rfl) ?_ _
                refine NoPanic.normal ?_
                obtain ⟨rfl⟩ := hQ7
                (go_wp2_with fail)
                refine ⟨⟨k + 1, ca, _, Aa, by omega, rfl, by go_num, bthen hb0 hcur, HNew.out _ _ _ (oa.lower hb0.size)⟩, by simp [intOf]; omega⟩
              exact AllReadyH.nil
            exact AllReadyH.nil
          exact AllReadyH.nil
        exact AllReadyH.nil
      refine AllReadyH.cons (o := _) rfl (fun K hK => ?_) ?_
      · refine st_lit (v := fun g => .slice (some ⟨g, 0, none⟩) 1 1) 30 rfl (cs := [d].map valI) (t := 3) (by go_simp; try rfl) ?_; intro g30 wn hb B30 hg30; replace hcur := bthen hcur hb
        refine hK.out _ _ hcur (fun hHeld => ?_)
        clear hK K hHeld
        (try simp only [Act.put, List.setIfInBounds_toArray, List.set_cons_zero, List.set_cons_succ])
        refine wpAnyH_ready (rs := [1]) (by kernel_rfl) (by simp) ?_
        refine AllReadyH.cons (o := _) rfl (fun K hK => ?_) ?_
        · refine st_lit (v := fun g => .slice (some ⟨g, 0, none⟩) 1 1) 23 rfl (cs := [10].map valI) (t := 3) (by go_simp; try rfl) ?_; intro g23 wn hb B23 hg23; replace B30 := B30.below hb; replace hcur := bthen hcur hb
          refine hK.out _ _ hcur (fun hHeld => ?_)
          clear hK K hHeld
          (try simp only [Act.put, List.setIfInBounds_toArray, List.set_cons_zero, List.set_cons_succ])
          refine wpAnyH_ready (rs := [2]) (by kernel_rfl) (by simp) ?_
          refine AllReadyH.cons (o := _) rfl (fun K hK => ?_) ?_
          · go_simp; (with_reducible refine (HMul.out _ _ B23 hcur).mono ?_); rintro e wn ⟨vm, rfl, om, hb⟩; obtain ⟨Am, cm, rfl, hm1, hm2⟩ := om.form; replace B30 := B30.below hb; replace hcur := bthen hcur hb; go_wp2_with fail
            refine hK.out _ _ hcur (fun hHeld => ?_)
            clear hK K hHeld
            (try simp only [Act.put, List.setIfInBounds_toArray, List.set_cons_zero, List.set_cons_succ])
            refine wpAnyH_ready (rs := [9]) (by kernel_rfl) (by simp) ?_
            refine AllReadyH.cons (o := _) rfl (fun K hK => ?_) ?_
            · go_simp; (with_reducible refine (HAdd.out _ Am cm _ _ om hm1 B30).mono ?_); rintro e wn ⟨va, rfl, oa, hb⟩; obtain ⟨Aa, ca, rfl, ha1, ha2⟩ := oa.form; replace oa := oa.lower hcur.size; replace hcur := bthen hcur hb; go_wp2_with fail
              refine hK.out _ _ hcur (fun hHeld => ?_)
              clear hK K hHeld
              (try simp only [Act.put, List.setIfInBounds_toArray, List.set_cons_zero, List.set_cons_succ])
              refine wpAnyH_ready (rs := [10]) (by kernel_rfl) (by simp) ?_
              refine AllReadyH.cons (o := _) rfl (fun K hK => ?_) ?_
              · go_simp
                refine hK.out _ _ hcur (fun hHeld => ?_)
                clear hK K hHeld
                (try simp only [Act.put, List.setIfInBounds_toArray, List.set_cons_zero, List.set_cons_succ])
                refine wpAnyH_done (by kernel_rfl) ?_ _
                refine NoPanic.normal ?_
                obtain ⟨rfl⟩ := hQ7
                (go_wp2_with fail)
                refine ⟨⟨k + 1, ca, _, Aa, by omega, rfl, by go_num, bthen hb0 hcur, HNew.out _ _ _ (oa.lower hb0.size)⟩, by simp [intOf]; omega⟩
              exact AllReadyH.nil
            exact AllReadyH.nil
          exact AllReadyH.nil
        exact AllReadyH.nil
      exact AllReadyH.nil
    · obtain rfl : k = s.size := by omega
      have htt : t.take s.size = t := List.take_of_length_le (by rw [HSL.out]; exact Nat.le_refl _)
      rw [htt] at hV
      have HF := As.mk (full_any D n Hnl.out.symm A c wr (ho.rd lenI) HDl.out hnc ho.none (by omega))
      rw [HDv.out, hV] at HF
      have hne : decide ((0 : Int) < (s.size : Int)) = decide (0 < s.size) := by simp
      have Hne := As.mk hne
      clear hV hD htt hnl hne
      go_wp2_with (go_at_call 86; (with_reducible refine HF.out.mono ?_); rintro e w2 ⟨v2, rfl, ho2, hb2⟩)
      go_ret2
      exact ⟨_, rfl, ⟨_, by first | rfl | simp, ho2.lower hb0.size⟩, bthen hb0 hb2⟩
end Go.Proofs.YtigoofeodbbbhaaDoor
/- nat.Parse and tandemref01.Parse of a text that is not all digits. -/
namespace Go.Proofs.YtigoofeodbbbhaaDoor
open Go.RowKit Go.Proofs.YtigoofeodbbbhaaDoorL Go.Proofs.YtigoofeodbbbhaaDoorM
set_option linter.unusedVariables false
set_option linter.unusedSimpArgs false
theorem first_bad (l : List UInt8) (h : ¬ ∀ c ∈ l, isD c = true) : ∃ p, ∃ hp : p < l.length, isD (l[p]'hp) = false ∧ ∀ i (hi : i < p), isD (l[i]'(by omega)) = true := by
  induction l with
  | nil => exact absurd (fun c hc => nomatch hc) h
  | cons a l ih =>
    by_cases ha : isD a = true
    · have h2 : ¬ ∀ c ∈ l, isD c = true := fun hh => h (fun c hc => by
        rcases List.mem_cons.1 hc with rfl | hc
        · exact ha
        · exact hh c hc)
      obtain ⟨p, hp, h3, h4⟩ := ih h2
      refine ⟨p + 1, by simp only [List.length_cons]; omega, by simpa using h3, fun i hi => ?_⟩
      cases i with
      | zero => simpa using ha
      | succ i => simpa using h4 i (by omega)
    · exact ⟨0, by simp, by simpa using ha, fun i hi => absurd hi (Nat.not_lt_zero _)⟩
theorem first_badS (s : ByteArray) (h : ¬ ∀ c ∈ s.data.toList, isD c = true) : ∃ p, ∃ hp : p < s.size, isD (s[p]'hp) = false ∧ ∀ i (hi : i < p), isD (s[i]'(by omega)) = true := by
  obtain ⟨p, hp, h1, h2⟩ := first_bad _ h
  have hsl : s.data.toList.length = s.size := by rw [Array.length_toList]; rfl
  refine ⟨p, by omega, by simpa [ByteArray.getElem_eq_getElem_data] using h1, fun i hi => ?_⟩
  simpa [ByteArray.getElem_eq_getElem_data] using h2 i hi
set_option maxRecDepth 8000 in
set_option maxHeartbeats 4000000 in
theorem parse_no (s : ByteArray) (w : World) (hs : s.size ≤ 1073741824) (hd : ¬ ∀ c ∈ s.data.toList, isD c = true) :
    Calls Tryd.prog 63 #[.string s] w (Gives w fun v _ => v = .tuple #[.slice none 0 0, .bool false]) := by
  obtain ⟨p, hp, hbad, hgood⟩ := first_badS s hd
  have HG := As.mk hgood
  have HBr := As.mk (rune_no_digit s p hp hbad)
  clear hd hbad hgood
  go_enter Tryd.func63, Tryd.ntmps63
  go_wp2
  go_loopw [5] (fun _ wr => ∃ pos : Nat, pos ≤ p ∧ As (wr.heap[w.heap.size]? = some (.stringIter s pos)) ∧ Below w.heap.size w wr) (fun _ wr => s.size - wr.iterPos w.heap.size)
  case atStart => exact ⟨0, by omega, ⟨World.iter_heap w s 0⟩, (Below.refl _ _).alloc (Nat.le_refl _) _⟩
  case round =>
    obtain ⟨pos, hpos, hit, hb⟩ := hrel
    have hpos0 := As.mk (iterPos_of hit.out)
    by_cases hpp : pos < p
    · have hps : pos < s.size := by omega
      have hx := isD_of (HG.out pos hpp)
      have hnx := fun ty => Lib.run_next_ascii_at (P := Tryd.prog) wr w.heap.size s pos ty hit.out hps (by omega)
      obtain ⟨x, hxe⟩ : ∃ x, x = (s[pos]'hps).toNat := ⟨_, rfl⟩
      rw [← hxe] at hx hnx
      have hit2 := As.mk (Lib.iterAt_heap wr w.heap.size s pos (pos + 1) hit.out)
      have hb2 := iter_below (s := s) (pos := pos + 1) hb (Nat.le_refl _)
      obtain ⟨W1, hW1⟩ : ∃ W1, W1 = wr.iterAt w.heap.size s (pos + 1) := ⟨_, rfl⟩
      rw [← hW1] at hnx hit2 hb2
      have hx1 : ¬ (x : Int) < 48 := by omega
      have hx2 : ¬ (57 : Int) < (x : Int) := by omega
      clear hW1 hxe hit
      go_wp2
      go_roundw
      case rel => exact ⟨pos + 1, by omega, hit2, hb2⟩
      case measure => rw [iterPos_of hit2.out, hpos0.out]; omega
    · obtain rfl : pos = p := by omega
      have hnx := fun ty => Lib.run_next_any_at (P := Tryd.prog) wr w.heap.size s pos ty hit.out hp
      have hr := HBr.out
      obtain ⟨x, hxe⟩ : ∃ x, x = (Utf8.decode s pos).1 := ⟨_, rfl⟩
      have hb2 := iter_below (s := s) (pos := pos + (Utf8.decode s pos).2) hb (Nat.le_refl _)
      obtain ⟨W1, hW1⟩ : ∃ W1, W1 = wr.iterAt w.heap.size s (pos + (Utf8.decode s pos).2) := ⟨_, rfl⟩
      rw [← hW1] at hnx hb2
      rw [← hxe] at hnx hr
      clear hW1 hxe hit HBr HG
      by_cases hx48 : (x : Int) < 48
      · clear hr
        go_wp2
        go_ret2
        exact ⟨_, rfl, rfl, hb2⟩
      · have hx57 : (57 : Int) < (x : Int) := by omega
        clear hr
        go_wp2
        go_ret2
        exact ⟨_, rfl, rfl, hb2⟩
/- rParse_no -/
set_option maxRecDepth 8000 in
set_option maxHeartbeats 4000000 in
theorem rParse_no (s : ByteArray) (w : World) (hs : s.size ≤ 1073741824) (hd : ¬ ∀ c ∈ s.data.toList, isD c = true) :
    Calls Tryd.prog 64 #[.string s] w (Gives w fun v _ => v = .tuple #[.slice none 0 0, .bool false]) := by
  obtain ⟨p, hp, hbad, hgood⟩ := first_badS s hd
  clear hd
  have HG := As.mk hgood
  have HB := As.mk hbad
  obtain ⟨t, ht⟩ : ∃ t, t = s.data.toList := ⟨_, rfl⟩
  have hsl : s.data.toList.length = s.size := by rw [Array.length_toList]; rfl
  rw [← ht] at hsl
  have HSL := As.mk hsl
  have Ht := As.mk ht
  have HT : As (∀ k, k ≤ p → ∀ c ∈ t.take k, isD c = true) := ⟨fun k hk c hc => by
    obtain ⟨i, hi, rfl⟩ := List.getElem_of_mem hc
    have hi2 : i < k := by rw [List.length_take] at hi; omega
    have := hgood i (by omega)
    simpa [ByteArray.getElem_eq_getElem_data, ht] using this⟩
  clear hbad hgood
  have HLen : As (∀ k, k ≤ p → (digB 65536 (numV 0 (t.take k))).length ≤ k) := ⟨fun k hk => by
    refine digB_len_lt 65536 (by omega) k _ ?_
    have h1 := numV_lt0 (t.take k) (HT.out k hk)
    rw [List.length_take, hsl, Nat.min_eq_left (by omega)] at h1
    exact Nat.lt_of_lt_of_le h1 (Nat.pow_le_pow_left (by omega) k)⟩
  clear hsl ht
  go_enter Tryd.func64, Tryd.ntmps64
  go_wp2
  go_loopw [4, 5] (fun v u wr => ∃ (k c n : Nat) (A : Option Addr), k ≤ p ∧ v = .slice A n c ∧ u = .int .i64 (k : Int) ∧ Below w.heap.size w wr ∧ Ow encI 1 3 w.heap.size wr (.slice A n c) (digB 65536 (numV 0 (t.take k)))) (fun _ u _ => s.size - (intOf u).toNat)
  case atStart => exact ⟨0, 0, 0, none, by omega, rfl, rfl, Below.refl _ _, by rw [List.take_zero, numV_nil, digB_zero]; exact Ow.nil _ _ _ _ _⟩
  case round =>
    obtain ⟨k, c, n, A, hk, rfl, rfl, hb0, ho⟩ := hrel
    have hnl := ho.len_eq
    have hnk := HLen.out k hk
    obtain ⟨V, hV⟩ : ∃ V, V = numV 0 (t.take k) := ⟨_, rfl⟩
    obtain ⟨D, hD⟩ : ∃ D, D = digB 65536 V := ⟨_, rfl⟩
    rw [← hV, ← hD] at ho hnl hnk
    have HDl : As (∀ x ∈ D, x < 65536) := ⟨by rw [hD]; exact digB_lt _ (by omega) V⟩
    have HDv : As (valB 65536 D = V) := ⟨by rw [hD]; exact digB_val _ (by omega) V⟩
    have hnc : n ≤ c := by obtain ⟨A', c', e, h1, _⟩ := ho.form; simp only [Value.slice.injEq] at e; omega
    have Hnl := As.mk hnl
    have hn30 : n ≤ 1073741824 := by omega
    by_cases hkp : k < p
    · have h : k < s.size := by omega
      have hbyte := isD_of (HG.out k hkp)
      obtain ⟨x, hx⟩ : ∃ x, x = (s[k]'h).toNat := ⟨_, rfl⟩
      rw [← hx] at hbyte
      have hx1 : ¬ (x : Int) < 48 := by omega
      have hx2 : ¬ (57 : Int) < (x : Int) := by omega
      obtain ⟨d, hdd⟩ : ∃ d, d = x - 48 := ⟨_, rfl⟩
      have hd9 : d < 10 := by omega
      have ed : (x : Int) - 48 = (d : Int) := by omega
      have ed64 : IntKind.i64.wrap (d : Int) = (d : Int) := IntWalk.i64_in _ (by omega)
      have ed8 : IntKind.u8.wrap (d : Int) = (d : Int) := IntWalk.u8_in _ (by omega)
      have hcx : ((s[k]'h).toNat : Int) = (x : Int) := by rw [hx]
      obtain ⟨E, hE⟩ : ∃ E, E = digB 65536 (V * 10) := ⟨_, rfl⟩
      have hEl : E.length ≤ n + 1 := by
        rw [hE]
        refine digB_len_lt 65536 (by omega) _ _ ?_
        have h1 := lt_pow_len 65536 (by omega) V
        rw [← hD, ← hnl] at h1
        rw [Nat.pow_succ]
        exact Nat.mul_lt_mul_of_lt_of_le h1 (by omega) (by omega)
      have HMul : As (∀ (W : World) (gg : Nat) (BB : Blk W gg ([10].map valI) 3) (hb : Below wr.heap.size wr W), Calls Tryd.prog 84 #[.slice A n c, .slice (some ⟨gg, 0, none⟩) 1 1] W (Gives W fun v w' => Ow encI 1 3 W.heap.size w' v E)) := ⟨fun W gg BB hb => by
        have := rmul_any D [10] n 1 Hnl.out.symm rfl A (some ⟨gg, 0, none⟩) c 1 W ((ho.below hb).rd lenI) (BB.rdm encI_one) ⟨HDl.out, fun y hy => by simp only [List.mem_singleton] at hy; omega⟩ hnc (Nat.le_refl _) (by omega) (by omega)
        rwa [HDv.out, show valB 65536 [10] = 10 by decide, ← hE] at this⟩
      have HAdd : As (∀ (W : World) (Am : Option Addr) (cm gg base : Nat) (om : Ow encI 1 3 base W (.slice Am E.length cm) E) (hcm : E.length ≤ cm) (BB : Blk W gg ([d].map valI) 3), Calls Tryd.prog 91 #[.slice Am E.length cm, .slice (some ⟨gg, 0, none⟩) 1 1] W (Gives W fun v w' => Ow encI 1 3 W.heap.size w' v (digB 65536 (V * 10 + d)))) := ⟨fun W Am cm gg base om hcm BB => by
        have := radd_any E [d] E.length 1 rfl rfl Am (some ⟨gg, 0, none⟩) cm 1 W (om.rd lenI) (BB.rdm encI_one) (by rw [hE]; exact digB_lt _ (by omega) _) (fun y hy => by simp only [List.mem_singleton] at hy; omega) hcm (Nat.le_refl _) (by omega) (by omega)
        rwa [hE, digB_val 65536 (by omega), show valB 65536 [d] = d by simp [valB], ← hE] at this⟩
      have hVn : V * 10 + d = numV 0 (t.take (k + 1)) := by
        have hkt : k < t.length := by rw [HSL.out]; exact h
        rw [List.take_succ_eq_append_getElem hkt, numV_snoc, ← hV, hdd, hx]
        congr 3
        simp only [Ht.out, ByteArray.getElem_eq_getElem_data, Array.getElem_toList]
      have HNew : As (∀ (W : World) (Aa : Option Addr) (na ca : Nat), Ow encI 1 3 w.heap.size W (.slice Aa na ca) (digB 65536 (V * 10 + d)) → Ow encI 1 3 w.heap.size W (.slice Aa na ca) (digB 65536 (numV 0 (t.take (k + 1))))) := ⟨fun W Aa na ca f => by rw [← hVn]; exact f⟩
      replace HNew : As (∀ (W : World) (Aa : Option Addr) (ca : Nat) {na : Nat}, Ow encI 1 3 w.heap.size W (.slice Aa na ca) (digB 65536 (V * 10 + d)) → Ow encI 1 3 w.heap.size W (.slice Aa na ca) (digB 65536 (numV 0 (t.take (k + 1))))) := ⟨fun W Aa ca na f => HNew.out W Aa na ca f⟩
      clear hx hdd hE hVn hV hD hnl hnk
      go_wp2
      have hcur := (Below.refl wr.heap.size wr).drew
      refine wp_gen2 (fun Q7 hQ7 => ?_)
      refine wp_region_held_drew (S := fun W => Below wr.heap.size wr W) (by kernel_rfl) hcur (fun hHeld => ?_)
      clear hHeld
      refine wpAnyH_take (i := 0) (oi := _) (v := .slice A n c) rfl (by kernel_rfl) (by kernel_rfl) (by kernel_rfl) (fun _ _ _ h => h) (Or.inl ⟨by kernel_rfl, fun W hSw => by ((try dsimp only at hSw); go_simp; try (with_reducible rfl))⟩) hcur ?_
      (try simp only [Act.put, List.setIfInBounds_toArray, List.set_cons_zero, List.set_cons_succ])
      refine wpAnyH_take (i := 3) (oi := _) (v := .string s) rfl (by kernel_rfl) (by kernel_rfl) (by kernel_rfl) (fun _ _ _ h => h) (Or.inl ⟨by kernel_rfl, fun W hSw => by ((try dsimp only at hSw); go_simp; try (with_reducible rfl))⟩) hcur ?_
      (try simp only [Act.put, List.setIfInBounds_toArray, List.set_cons_zero, List.set_cons_succ])
      refine wpAnyH_take (i := 4) (oi := _) (v := .int .i64 (k : Int)) rfl (by kernel_rfl) (by kernel_rfl) (by kernel_rfl) (fun _ _ _ h => h) (Or.inl ⟨by kernel_rfl, fun W hSw => by ((try dsimp only at hSw); go_simp; try (with_reducible rfl))⟩) hcur ?_
      (try simp only [Act.put, List.setIfInBounds_toArray, List.set_cons_zero, List.set_cons_succ])
      refine wpAnyH_take (i := 5) (oi := _) (v := .int .u8 (x : Int)) rfl (by kernel_rfl) (by kernel_rfl) (by kernel_rfl) (fun _ _ _ h => h) (Or.inl ⟨by kernel_rfl, fun W hSw => by ((try dsimp only at hSw); go_simp; try (with_reducible rfl))⟩) hcur ?_
      (try simp only [Act.put, List.setIfInBounds_toArray, List.set_cons_zero, List.set_cons_succ])
      refine wpAnyH_take (i := 6) (oi := _) (v := .int .u8 (d : Int)) rfl (by kernel_rfl) (by kernel_rfl) (by kernel_rfl) (fun _ _ _ h => h) (Or.inl ⟨by kernel_rfl, fun W hSw => by ((try dsimp only at hSw); go_simp; try (with_reducible rfl))⟩) hcur ?_
      (try simp only [Act.put, List.setIfInBounds_toArray, List.set_cons_zero, List.set_cons_succ])
      refine wpAnyH_take (i := 7) (oi := _) (v := .int .i64 (d : Int)) rfl (by kernel_rfl) (by kernel_rfl) (by kernel_rfl) (fun _ _ _ h => h) (Or.inl ⟨by kernel_rfl, fun W hSw => by ((try dsimp only at hSw); go_simp; try (with_reducible rfl))⟩) hcur ?_
      (try simp only [Act.put, List.setIfInBounds_toArray, List.set_cons_zero, List.set_cons_succ])
      refine wpAnyH_ready (rs := [1, 8]) (by kernel_rfl) (by simp) ?_
      refine AllReadyH.cons (o := _) rfl (fun K hK => ?_) ?_
      · refine st_lit (v := fun g => .slice (some ⟨g, 0, none⟩) 1 1) 23 rfl (cs := [10].map valI) (t := 3) (by go_simp; try rfl) ?_; intro g23 wn hb B23 hg23; replace hcur := bthen hcur hb
        refine hK.out _ _ hcur (fun hHeld => ?_)
        clear hK K hHeld
        (try simp only [Act.put, List.setIfInBounds_toArray, List.set_cons_zero, List.set_cons_succ])
        refine wpAnyH_ready (rs := [2, 8]) (by kernel_rfl) (by simp) ?_
        refine AllReadyH.cons (o := _) rfl (fun K hK => ?_) ?_
        · go_simp; (with_reducible refine (HMul.out _ _ B23 hcur).mono ?_); rintro e wn ⟨vm, rfl, om, hb⟩; obtain ⟨Am, cm, rfl, hm1, hm2⟩ := om.form; replace hcur := bthen hcur hb; go_wp2_with fail
          refine hK.out _ _ hcur (fun hHeld => ?_)
          clear hK K hHeld
          (try simp only [Act.put, List.setIfInBounds_toArray, List.set_cons_zero, List.set_cons_succ])
          refine wpAnyH_ready (rs := [8]) (by kernel_rfl) (by simp) ?_
          refine AllReadyH.cons (o := _) rfl (fun K hK => ?_) ?_
          · refine st_lit (v := fun g => .slice (some ⟨g, 0, none⟩) 1 1) 30 rfl (cs := [d].map valI) (t := 3) (by go_simp; try rfl) ?_; intro g30 wn hb B30 hg30; replace om := om.below hb; replace hcur := bthen hcur hb
            refine hK.out _ _ hcur (fun hHeld => ?_)
            clear hK K hHeld
            (try simp only [Act.put, List.setIfInBounds_toArray, List.set_cons_zero, List.set_cons_succ])
            refine wpAnyH_ready (rs := [9]) (by kernel_rfl) (by simp) ?_
            refine AllReadyH.cons (o := _) rfl (fun K hK => ?_) ?_
            · go_simp; (with_reducible refine (HAdd.out _ Am cm _ _ om hm1 B30).mono ?_); rintro e wn ⟨va, rfl, oa, hb⟩; obtain ⟨Aa, ca, rfl, ha1, ha2⟩ := oa.form; replace oa := oa.lower hcur.size; replace hcur := bthen hcur hb; go_wp2_with fail
              refine hK.out _ _ hcur (fun hHeld => ?_)
              clear hK K hHeld
              (try simp only [Act.put, List.setIfInBounds_toArray, List.set_cons_zero, List.set_cons_succ])
              refine wpAnyH_ready (rs := [10]) (by kernel_rfl) (by simp) ?_
              refine AllReadyH.cons (o := _) rfl (fun K hK => ?_) ?_
              · go_simp
                refine hK.out _ _ hcur (fun hHeld => ?_)
                clear hK K hHeld
                (try simp only [Act.put, List.setIfInBounds_toArray, List.set_cons_zero, List.set_cons_succ])
                refine wpAnyH_done (by kernel_rfl) ?_ _
                refine NoPanic.normal ?_
                obtain ⟨rfl⟩ := hQ7
                (go_wp2_with fail)
                refine ⟨⟨k + 1, ca, _, Aa, by omega, rfl, by go_num, bthen hb0 hcur, HNew.out _ _ _ (oa.lower hb0.size)⟩, by simp [intOf]; omega⟩
              exact AllReadyH.nil
            exact AllReadyH.nil
          exact AllReadyH.nil
        refine AllReadyH.cons (o := _) rfl (fun K hK => ?_) ?_
        · refine st_lit (v := fun g => .slice (some ⟨g, 0, none⟩) 1 1) 30 rfl (cs := [d].map valI) (t := 3) (by go_simp; try rfl) ?_; intro g30 wn hb B30 hg30; replace B23 := B23.below hb; replace hcur := bthen hcur hb
          refine hK.out _ _ hcur (fun hHeld => ?_)
          clear hK K hHeld
          (try simp only [Act.put, List.setIfInBounds_toArray, List.set_cons_zero, List.set_cons_succ])
          refine wpAnyH_ready (rs := [2]) (by kernel_rfl) (by simp) ?_
          refine AllReadyH.cons (o := _) rfl (fun K hK => ?_) ?_
          · go_simp; (with_reducible refine (HMul.out _ _ B23 hcur).mono ?_); rintro e wn ⟨vm, rfl, om, hb⟩; obtain ⟨Am, cm, rfl, hm1, hm2⟩ := om.form; replace B30 := B30.below hb; replace hcur := bthen hcur hb; go_wp2_with fail
            refine hK.out _ _ hcur (fun hHeld => ?_)
            clear hK K hHeld
            (try simp only [Act.put, List.setIfInBounds_toArray, List.set_cons_zero, List.set_cons_succ])
            refine wpAnyH_ready (rs := [9]) (by kernel_rfl) (by simp) ?_
            refine AllReadyH.cons (o := _) rfl (fun K hK => ?_) ?_
            · go_simp; (with_reducible refine (HAdd.out _ Am cm _ _ om hm1 B30).mono ?_); rintro e wn ⟨va, rfl, oa, hb⟩; obtain ⟨Aa, ca, rfl, ha1, ha2⟩ := oa.form; replace oa := oa.lower hcur.size; replace hcur := bthen hcur hb; go_wp2_with fail
              refine hK.out _ _ hcur (fun hHeld => ?_)
              clear hK K hHeld
              (try simp only [Act.put, List.setIfInBounds_toArray, List.set_cons_zero, List.set_cons_succ])
              refine wpAnyH_ready (rs := [10]) (by kernel_rfl) (by simp) ?_
              refine AllReadyH.cons (o := _) rfl (fun K hK => ?_) ?_
              · go_simp
                refine hK.out _ _ hcur (fun hHeld => ?_)
                clear hK K hHeld
                (try simp only [Act.put, List.setIfInBounds_toArray, List.set_cons_zero, List.set_cons_succ])
                refine wpAnyH_done (by kernel_rfl) ?_ _
                refine NoPanic.normal ?_
                obtain ⟨rfl⟩ := hQ7
                (go_wp2_with fail)
                refine ⟨⟨k + 1, ca, _, Aa, by omega, rfl, by go_num, bthen hb0 hcur, HNew.out _ _ _ (oa.lower hb0.size)⟩, by simp [intOf]; omega⟩
              exact AllReadyH.nil
            exact AllReadyH.nil
          exact AllReadyH.nil
        exact AllReadyH.nil
      refine AllReadyH.cons (o := _) rfl (fun K hK => ?_) ?_
      · refine st_lit (v := fun g => .slice (some ⟨g, 0, none⟩) 1 1) 30 rfl (cs := [d].map valI) (t := 3) (by go_simp; try rfl) ?_; intro g30 wn hb B30 hg30; replace hcur := bthen hcur hb
        refine hK.out _ _ hcur (fun hHeld => ?_)
        clear hK K hHeld
        (try simp only [Act.put, List.setIfInBounds_toArray, List.set_cons_zero, List.set_cons_succ])
        refine wpAnyH_ready (rs := [1]) (by kernel_rfl) (by simp) ?_
        refine AllReadyH.cons (o := _) rfl (fun K hK => ?_) ?_
        · refine st_lit (v := fun g => .slice (some ⟨g, 0, none⟩) 1 1) 23 rfl (cs := [10].map valI) (t := 3) (by go_simp; try rfl) ?_; intro g23 wn hb B23 hg23; replace B30 := B30.below hb; replace hcur := bthen hcur hb
          refine hK.out _ _ hcur (fun hHeld => ?_)
          clear hK K hHeld
          (try simp only [Act.put, List.setIfInBounds_toArray, List.set_cons_zero, List.set_cons_succ])
          refine wpAnyH_ready (rs := [2]) (by kernel_rfl) (by simp) ?_
          refine AllReadyH.cons (o := _) rfl (fun K hK => ?_) ?_
          · go_simp; (with_reducible refine (HMul.out _ _ B23 hcur).mono ?_); rintro e wn ⟨vm, rfl, om, hb⟩; obtain ⟨Am, cm, rfl, hm1, hm2⟩ := om.form; replace B30 := B30.below hb; replace hcur := bthen hcur hb; go_wp2_with fail
            refine hK.out _ _ hcur (fun hHeld => ?_)
            clear hK K hHeld
            (try simp only [Act.put, List.setIfInBounds_toArray, List.set_cons_zero, List.set_cons_succ])
            refine wpAnyH_ready (rs := [9]) (by kernel_rfl) (by simp) ?_
            refine AllReadyH.cons (o := _) rfl (fun K hK => ?_) ?_
            · go_simp; (with_reducible refine (HAdd.out _ Am cm _ _ om hm1 B30).mono ?_); rintro e wn ⟨va, rfl, oa, hb⟩; obtain ⟨Aa, ca, rfl, ha1, ha2⟩ := oa.form; replace oa := oa.lower hcur.size; replace hcur := bthen hcur hb; go_wp2_with fail
              refine hK.out _ _ hcur (fun hHeld => ?_)
              clear hK K hHeld
              (try simp only [Act.put, List.setIfInBounds_toArray, List.set_cons_zero, List.set_cons_succ])
              refine wpAnyH_ready (rs := [10]) (by kernel_rfl) (by simp) ?_
              refine AllReadyH.cons (o := _) rfl (fun K hK => ?_) ?_
              · go_simp
                refine hK.out _ _ hcur (fun hHeld => ?_)
                clear hK K hHeld
                (try simp only [Act.put, List.setIfInBounds_toArray, List.set_cons_zero, List.set_cons_succ])
                refine wpAnyH_done (by kernel_rfl) ?_ _
                refine NoPanic.normal ?_
                obtain ⟨rfl⟩ := hQ7
                (go_wp2_with fail)
                refine ⟨⟨k + 1, ca, _, Aa, by omega, rfl, by go_num, bthen hb0 hcur, HNew.out _ _ _ (oa.lower hb0.size)⟩, by simp [intOf]; omega⟩
              exact AllReadyH.nil
            exact AllReadyH.nil
          exact AllReadyH.nil
        exact AllReadyH.nil
      exact AllReadyH.nil
    · obtain rfl : k = p := by omega
      have hbyte := isD_not HB.out
      obtain ⟨x, hx⟩ : ∃ x, x = (s[k]'hp).toNat := ⟨_, rfl⟩
      rw [← hx] at hbyte
      have hcx : ((s[k]'hp).toNat : Int) = (x : Int) := by rw [hx]
      clear hx hD hV hnl hnk
      by_cases hx48 : (x : Int) < 48
      · clear hbyte
        go_wp2
        go_ret2
        exact ⟨_, rfl, rfl, hb0⟩
      · have hx57 : (57 : Int) < (x : Int) := by omega
        clear hbyte
        go_wp2
        go_ret2
        exact ⟨_, rfl, rfl, hb0⟩
end Go.Proofs.YtigoofeodbbbhaaDoor
/- num.Parse, tandemref02.Parse. -/
namespace Go.Proofs.YtigoofeodbbbhaaDoor
open Go.RowKit Go.Proofs.YtigoofeodbbbhaaDoorL Go.Proofs.YtigoofeodbbbhaaDoorM
set_option linter.unusedVariables false
set_option linter.unusedSimpArgs false
theorem results_ct {P : Program} {fn : Func} {p u : Tmp} {ty : TypeId} (h : fn.results = #[.cell p ty, .tmp u]) (tmps : Array Value) (w : World) (g : Nat) (t : TypeId) (cs : Array Value) (fr : Nat × Nat) (d : TypeDesc)
    (hp : tmps.getD p undef = .pointer (some ⟨g, 0, none⟩)) (hg : w.heap[g]? = some (.cells cs t fr))
    (hu : P.underlying ty = some d) (hd : (match d with | .struct _ | .array _ _ => true | _ => false) = true) (hi : (P.info? ty).map (·.size) = some cs.size) :
    (results fn tmps).run P w = .ok (.tuple #[.agg cs, tmps.getD u undef]) w := by
  have hp' : tmps[p]?.getD undef = .pointer (some ⟨g, 0, none⟩) := by simpa using hp
  simp [results, h, hp', asAddr, run_loadVar_row w g t ty cs fr d hg hu hd hi]
def allD (u : ByteArray) : Bool := u.data.toList.all isD
def valD (u : ByteArray) : Nat := if allD u then numV 0 u.data.toList else 0
def okD (u : ByteArray) : Bool := allD u && decide (0 < u.size)
theorem allD_iff (u : ByteArray) : allD u = true ↔ ∀ c ∈ u.data.toList, isD c = true := by rw [allD, List.all_eq_true]
theorem valD_lt (u : ByteArray) : valD u < 4294967296 ^ u.size := by
  unfold valD
  by_cases h : allD u = true
  · rw [if_pos h]
    have h1 := numV_lt0 _ ((allD_iff u).1 h)
    have hsl : u.data.toList.length = u.size := by rw [Array.length_toList]; rfl
    rw [hsl] at h1
    exact Nat.lt_of_lt_of_le h1 (Nat.pow_le_pow_left (by omega) _)
  · rw [if_neg h]; exact Nat.pow_pos (by omega)
theorem parse_uni (u : ByteArray) (w : World) (hs : u.size ≤ 1073741824) :
    Calls Tryd.prog 63 #[.string u] w (Gives w fun v w' => ∃ q, v = .tuple #[q, .bool (okD u)] ∧ Ow encU 1 62 w.heap.size w' q (digB 4294967296 (valD u))) := by
  unfold okD valD
  by_cases h : allD u = true
  · simp only [h, Bool.true_and, if_true]
    exact parse_yes u w hs ((allD_iff u).1 h)
  · have h2 : allD u = false := by simpa using h
    simp only [h2, Bool.false_and, if_false, Bool.false_eq_true, digB_zero]
    refine (parse_no u w hs (fun hh => h ((allD_iff u).2 hh))).mono ?_
    rintro e w' ⟨v, rfl, rfl, hb⟩
    exact ⟨_, rfl, ⟨_, rfl, Ow.nil _ _ _ _ _⟩, hb⟩
theorem rparse_uni (u : ByteArray) (w : World) (hs : u.size ≤ 1073741824) :
    Calls Tryd.prog 64 #[.string u] w (Gives w fun v w' => ∃ q, v = .tuple #[q, .bool (okD u)] ∧ Ow encU 1 62 w.heap.size w' q (digB 4294967296 (valD u))) := by
  unfold okD valD
  by_cases h : allD u = true
  · simp only [h, Bool.true_and, if_true]
    exact rParse_yes u w hs ((allD_iff u).1 h)
  · have h2 : allD u = false := by simpa using h
    simp only [h2, Bool.false_and, if_false, Bool.false_eq_true, digB_zero]
    refine (rParse_no u w hs (fun hh => h ((allD_iff u).2 hh))).mono ?_
    rintro e w' ⟨v, rfl, rfl, hb⟩
    exact ⟨_, rfl, ⟨_, rfl, Ow.nil _ _ _ _ _⟩, hb⟩
/-- a text, what stands behind its sign, the sign -/
inductive Shape (s : ByteArray) : ByteArray → Bool → Prop where
  | empty (h : s.size = 0) : Shape s s false
  | plus (h : 0 < s.size) (h0 : (s[0]'h).toNat = 43) : Shape s (s.extract 1 s.size) false
  | minus (h : 0 < s.size) (h0 : (s[0]'h).toNat = 45) : Shape s (s.extract 1 s.size) true
  | other (h : 0 < s.size) (h0 : (s[0]'h).toNat ≠ 43) (h1 : (s[0]'h).toNat ≠ 45) : Shape s s false
theorem shape_ex (s : ByteArray) : ∃ u neg, Shape s u neg := by
  rcases Nat.eq_zero_or_pos s.size with h | h
  · exact ⟨_, _, .empty h⟩
  · by_cases h0 : (s[0]'h).toNat = 43
    · exact ⟨_, _, .plus h h0⟩
    · by_cases h1 : (s[0]'h).toNat = 45
      · exact ⟨_, _, .minus h h1⟩
      · exact ⟨_, _, .other h h0 h1⟩
theorem Shape.le {s u : ByteArray} {neg : Bool} (h : Shape s u neg) : u.size ≤ s.size := by
  cases h with
  | empty _ => exact Nat.le_refl _
  | plus _ _ => rw [ByteArray.size_extract]; omega
  | minus _ _ => rw [ByteArray.size_extract]; omega
  | other _ _ _ => exact Nat.le_refl _
def pz (u : ByteArray) (neg : Bool) : Int := if okD u then sval neg (valD u) else 0
theorem of_told (l : List Nat) (neg : Bool) (A : Option Addr) (c : Nat) (w : World) (h : Lim w A c l) :
    Calls Tryd.prog 54 #[.bool neg, .slice A l.length c] w (Gives w fun v w' => Told w.heap.size w' v (sval neg (valB 4294967296 l))) := by
  refine (of_any l neg A c w h).mono ?_
  rintro e w' ⟨v, rfl, ⟨m, rfl, ho⟩, hb⟩
  refine ⟨_, rfl, ⟨m, ?_, ?_⟩, hb⟩
  · rw [sval_lt]
  · rw [sval_abs]; exact ho
set_option maxRecDepth 8000 in
set_option maxHeartbeats 2000000 in
theorem numParse_any (s u : ByteArray) (neg : Bool) (w : World) (hs : s.size ≤ 1073741824) (h : Shape s u neg) :
    Calls Tryd.prog 41 #[.string s] w (Gives w fun v w' => ∃ q, v = .tuple #[q, .bool (okD u)] ∧ Told w.heap.size w' q (pz u neg)) := by
  have HP := As.mk (fun W => parse_uni u W (Nat.le_trans h.le hs))
  have hvl := digB_len_lt 4294967296 (by omega) _ _ (valD_lt u)
  have hus := h.le
  unfold pz
  obtain ⟨V, hV⟩ : ∃ V, V = valD u := ⟨_, rfl⟩
  obtain ⟨ok, hok⟩ : ∃ ok, ok = okD u := ⟨_, rfl⟩
  obtain ⟨D, hD⟩ : ∃ D, D = digB 4294967296 V := ⟨_, rfl⟩
  rw [← hV, ← hD] at hvl
  rw [← hV, ← hok, ← hD] at HP
  rw [← hok, ← hV]
  have HDl : As (∀ x ∈ D, x < 4294967296) := ⟨by rw [hD]; exact digB_lt _ (by omega) V⟩
  have HDn : As (D.length ≤ 274877906944) := ⟨by omega⟩
  obtain ⟨z, hz⟩ : ∃ z, z = sval neg V := ⟨_, rfl⟩
  have HV : As (sval neg (valB 4294967296 D) = z) := ⟨by rw [hD, digB_val _ (by omega), hz]⟩
  rw [← hz]
  have hn := ne_empty s
  clear hvl hus hD hz hV hok
  cases ok with
  | true =>
    simp only [if_true]
    cases h with
    | empty h0 =>
      have e1 : decide (0 < s.size) = false := decide_eq_false (by omega)
      have e2 : ¬ (0 : Int) < (s.size : Int) := by omega
      rw [e1] at hn
      go_enter Tryd.func41, Tryd.ntmps41
      go_wp2_with (first
        | ((with_reducible refine g_dst 2 ?_); go_must (refine ev_alloc 2 rfl infoNum (cs := [.bool false, .slice none 0 0]) rfl ?_); intro g2 w2 hb2 B2 hg2)
        | (go_at_call 63; (with_reducible refine (HP.out _).mono ?_); rintro e w3 ⟨v3, rfl, ⟨q, rfl, ho3⟩, hb3⟩; obtain ⟨A3, c3, rfl, h31, h32⟩ := ho3.form; have hl3 : Lim w3 A3 c3 D := ⟨ho3.rd lenU, HDl.out, h31, ho3.none, HDn.out⟩; have hgl := Nat.lt_of_lt_of_le B2.lt hb3.size; replace B2 := B2.below hb3; replace hb3 := bthen hb2 hb3; have hgw := hb3.size)
        | (go_at_call 48; (with_reducible refine (told_any D _ A3 c3 _ hl3).mono ?_); rintro e w4 ⟨v4, rfl, ht4, hb4⟩; rw [HV.out] at ht4; obtain ⟨A4, c4, E4, rfl, ho4, HE4, h41⟩ := told_sl ht4; clear ht4; replace B2 := B2.below hb4; have hb34 := bthen hb3 hb4)
        | ((with_reducible refine g_store 2 ?_); go_must (refine ev_store rfl rfl B2 (news := [.bool (decide (z < 0)), .slice A4 E4.length c4]) (by rfl) infoNum (by simp) (by simp [Value.oneCell']) ?_); intro w5 ho5 B5; simp only [List.take_zero, List.nil_append, List.length_cons, List.length_nil, List.drop_succ_cons, List.drop_zero, List.append_nil, List.cons_append] at B5))
      refine bodyPost_ret (results_ct rfl _ _ g2 26 #[.bool (decide (z < 0)), .slice A4 E4.length c4] (0, 0) _ rfl B5.h Tryd.underlying26 rfl (by kernel_rfl)) rfl ?_
      exact ⟨_, rfl, ⟨_, rfl, ⟨.slice A4 E4.length c4, rfl, by rw [← HE4.out]; exact ow_only ho4 ho5 hgl hgw⟩⟩, hb34.trans (ho5.below hg2)⟩
    | plus h0 h1 =>
      have e1 : decide (0 < s.size) = true := decide_eq_true h0
      have e2 : (0 : Int) < (s.size : Int) := by omega
      have e3 : (1 : Int) ≤ (s.size : Int) := by omega
      rw [e1] at hn
      have hcx : ((s[0]'h0).toNat : Int) = 43 := by rw [h1]; rfl
      clear h1
      go_enter Tryd.func41, Tryd.ntmps41
      go_wp2_with (first
        | ((with_reducible refine g_dst 2 ?_); go_must (refine ev_alloc 2 rfl infoNum (cs := [.bool false, .slice none 0 0]) rfl ?_); intro g2 w2 hb2 B2 hg2)
        | (go_at_call 63; (with_reducible refine (HP.out _).mono ?_); rintro e w3 ⟨v3, rfl, ⟨q, rfl, ho3⟩, hb3⟩; obtain ⟨A3, c3, rfl, h31, h32⟩ := ho3.form; have hl3 : Lim w3 A3 c3 D := ⟨ho3.rd lenU, HDl.out, h31, ho3.none, HDn.out⟩; have hgl := Nat.lt_of_lt_of_le B2.lt hb3.size; replace B2 := B2.below hb3; replace hb3 := bthen hb2 hb3; have hgw := hb3.size)
        | (go_at_call 48; (with_reducible refine (told_any D _ A3 c3 _ hl3).mono ?_); rintro e w4 ⟨v4, rfl, ht4, hb4⟩; rw [HV.out] at ht4; obtain ⟨A4, c4, E4, rfl, ho4, HE4, h41⟩ := told_sl ht4; clear ht4; replace B2 := B2.below hb4; have hb34 := bthen hb3 hb4)
        | ((with_reducible refine g_store 2 ?_); go_must (refine ev_store rfl rfl B2 (news := [.bool (decide (z < 0)), .slice A4 E4.length c4]) (by rfl) infoNum (by simp) (by simp [Value.oneCell']) ?_); intro w5 ho5 B5; simp only [List.take_zero, List.nil_append, List.length_cons, List.length_nil, List.drop_succ_cons, List.drop_zero, List.append_nil, List.cons_append] at B5))
      refine bodyPost_ret (results_ct rfl _ _ g2 26 #[.bool (decide (z < 0)), .slice A4 E4.length c4] (0, 0) _ rfl B5.h Tryd.underlying26 rfl (by kernel_rfl)) rfl ?_
      exact ⟨_, rfl, ⟨_, rfl, ⟨.slice A4 E4.length c4, rfl, by rw [← HE4.out]; exact ow_only ho4 ho5 hgl hgw⟩⟩, hb34.trans (ho5.below hg2)⟩
    | minus h0 h1 =>
      have e1 : decide (0 < s.size) = true := decide_eq_true h0
      have e2 : (0 : Int) < (s.size : Int) := by omega
      have e3 : (1 : Int) ≤ (s.size : Int) := by omega
      rw [e1] at hn
      have hcx : ((s[0]'h0).toNat : Int) = 45 := by rw [h1]; rfl
      clear h1
      go_enter Tryd.func41, Tryd.ntmps41
      go_wp2_with (first
        | ((with_reducible refine g_dst 2 ?_); go_must (refine ev_alloc 2 rfl infoNum (cs := [.bool false, .slice none 0 0]) rfl ?_); intro g2 w2 hb2 B2 hg2)
        | (go_at_call 63; (with_reducible refine (HP.out _).mono ?_); rintro e w3 ⟨v3, rfl, ⟨q, rfl, ho3⟩, hb3⟩; obtain ⟨A3, c3, rfl, h31, h32⟩ := ho3.form; have hl3 : Lim w3 A3 c3 D := ⟨ho3.rd lenU, HDl.out, h31, ho3.none, HDn.out⟩; have hgl := Nat.lt_of_lt_of_le B2.lt hb3.size; replace B2 := B2.below hb3; replace hb3 := bthen hb2 hb3; have hgw := hb3.size)
        | (go_at_call 48; (with_reducible refine (told_any D _ A3 c3 _ hl3).mono ?_); rintro e w4 ⟨v4, rfl, ht4, hb4⟩; rw [HV.out] at ht4; obtain ⟨A4, c4, E4, rfl, ho4, HE4, h41⟩ := told_sl ht4; clear ht4; replace B2 := B2.below hb4; have hb34 := bthen hb3 hb4)
        | ((with_reducible refine g_store 2 ?_); go_must (refine ev_store rfl rfl B2 (news := [.bool (decide (z < 0)), .slice A4 E4.length c4]) (by rfl) infoNum (by simp) (by simp [Value.oneCell']) ?_); intro w5 ho5 B5; simp only [List.take_zero, List.nil_append, List.length_cons, List.length_nil, List.drop_succ_cons, List.drop_zero, List.append_nil, List.cons_append] at B5))
      refine bodyPost_ret (results_ct rfl _ _ g2 26 #[.bool (decide (z < 0)), .slice A4 E4.length c4] (0, 0) _ rfl B5.h Tryd.underlying26 rfl (by kernel_rfl)) rfl ?_
      exact ⟨_, rfl, ⟨_, rfl, ⟨.slice A4 E4.length c4, rfl, by rw [← HE4.out]; exact ow_only ho4 ho5 hgl hgw⟩⟩, hb34.trans (ho5.below hg2)⟩
    | other h0 h1 h2 =>
      have e1 : decide (0 < s.size) = true := decide_eq_true h0
      have e2 : (0 : Int) < (s.size : Int) := by omega
      rw [e1] at hn
      obtain ⟨x, hx⟩ : ∃ x, x = (s[0]'h0).toNat := ⟨_, rfl⟩
      rw [← hx] at h1 h2
      have hcx : ((s[0]'h0).toNat : Int) = (x : Int) := by rw [hx]
      have e4 : ((x : Int) == 43) = false := by simp; omega
      have e5 : ((x : Int) == 45) = false := by simp; omega
      clear hx h1 h2
      go_enter Tryd.func41, Tryd.ntmps41
      go_wp2_with (first
        | ((with_reducible refine g_dst 2 ?_); go_must (refine ev_alloc 2 rfl infoNum (cs := [.bool false, .slice none 0 0]) rfl ?_); intro g2 w2 hb2 B2 hg2)
        | (go_at_call 63; (with_reducible refine (HP.out _).mono ?_); rintro e w3 ⟨v3, rfl, ⟨q, rfl, ho3⟩, hb3⟩; obtain ⟨A3, c3, rfl, h31, h32⟩ := ho3.form; have hl3 : Lim w3 A3 c3 D := ⟨ho3.rd lenU, HDl.out, h31, ho3.none, HDn.out⟩; have hgl := Nat.lt_of_lt_of_le B2.lt hb3.size; replace B2 := B2.below hb3; replace hb3 := bthen hb2 hb3; have hgw := hb3.size)
        | (go_at_call 48; (with_reducible refine (told_any D _ A3 c3 _ hl3).mono ?_); rintro e w4 ⟨v4, rfl, ht4, hb4⟩; rw [HV.out] at ht4; obtain ⟨A4, c4, E4, rfl, ho4, HE4, h41⟩ := told_sl ht4; clear ht4; replace B2 := B2.below hb4; have hb34 := bthen hb3 hb4)
        | ((with_reducible refine g_store 2 ?_); go_must (refine ev_store rfl rfl B2 (news := [.bool (decide (z < 0)), .slice A4 E4.length c4]) (by rfl) infoNum (by simp) (by simp [Value.oneCell']) ?_); intro w5 ho5 B5; simp only [List.take_zero, List.nil_append, List.length_cons, List.length_nil, List.drop_succ_cons, List.drop_zero, List.append_nil, List.cons_append] at B5))
      refine bodyPost_ret (results_ct rfl _ _ g2 26 #[.bool (decide (z < 0)), .slice A4 E4.length c4] (0, 0) _ rfl B5.h Tryd.underlying26 rfl (by kernel_rfl)) rfl ?_
      exact ⟨_, rfl, ⟨_, rfl, ⟨.slice A4 E4.length c4, rfl, by rw [← HE4.out]; exact ow_only ho4 ho5 hgl hgw⟩⟩, hb34.trans (ho5.below hg2)⟩
  | false =>
    simp only [Bool.false_eq_true, if_false]
    clear HV
    cases h with
    | empty h0 =>
      have e1 : decide (0 < s.size) = false := decide_eq_false (by omega)
      have e2 : ¬ (0 : Int) < (s.size : Int) := by omega
      rw [e1] at hn
      go_enter Tryd.func41, Tryd.ntmps41
      go_wp2_with (first
        | ((with_reducible refine g_dst 2 ?_); go_must (refine ev_alloc 2 rfl infoNum (cs := [.bool false, .slice none 0 0]) rfl ?_); intro g2 w2 hb2 B2 hg2)
        | (go_at_call 63; (with_reducible refine (HP.out _).mono ?_); rintro e w3 ⟨v3, rfl, ⟨q, rfl, ho3⟩, hb3⟩; obtain ⟨A3, c3, rfl, h31, h32⟩ := ho3.form; have hl3 : Lim w3 A3 c3 D := ⟨ho3.rd lenU, HDl.out, h31, ho3.none, HDn.out⟩; have hgl := Nat.lt_of_lt_of_le B2.lt hb3.size; replace B2 := B2.below hb3; replace hb3 := bthen hb2 hb3; have hgw := hb3.size)
        | ((with_reducible refine g_store 2 ?_); go_must (refine ev_store rfl rfl B2 (news := [.bool false, .slice none 0 0]) (by first | rfl | (go_simp; try rfl)) infoNum (by simp) (by simp [Value.oneCell']) ?_); intro w5 ho5 B5; simp only [List.take_zero, List.nil_append, List.length_cons, List.length_nil, List.drop_succ_cons, List.drop_zero, List.append_nil, List.cons_append] at B5))
      refine bodyPost_ret (results_ct rfl _ _ g2 26 #[.bool false, .slice none 0 0] (0, 0) _ rfl B5.h Tryd.underlying26 rfl (by kernel_rfl)) rfl ?_
      exact ⟨_, rfl, ⟨_, rfl, ⟨.slice none 0 0, rfl, by rw [show (0 : Int).natAbs = 0 from rfl, digB_zero]; exact Ow.nil _ _ _ _ _⟩⟩, hb3.trans (ho5.below hg2)⟩
    | plus h0 h1 =>
      have e1 : decide (0 < s.size) = true := decide_eq_true h0
      have e2 : (0 : Int) < (s.size : Int) := by omega
      have e3 : (1 : Int) ≤ (s.size : Int) := by omega
      rw [e1] at hn
      have hcx : ((s[0]'h0).toNat : Int) = 43 := by rw [h1]; rfl
      clear h1
      go_enter Tryd.func41, Tryd.ntmps41
      go_wp2_with (first
        | ((with_reducible refine g_dst 2 ?_); go_must (refine ev_alloc 2 rfl infoNum (cs := [.bool false, .slice none 0 0]) rfl ?_); intro g2 w2 hb2 B2 hg2)
        | (go_at_call 63; (with_reducible refine (HP.out _).mono ?_); rintro e w3 ⟨v3, rfl, ⟨q, rfl, ho3⟩, hb3⟩; obtain ⟨A3, c3, rfl, h31, h32⟩ := ho3.form; have hl3 : Lim w3 A3 c3 D := ⟨ho3.rd lenU, HDl.out, h31, ho3.none, HDn.out⟩; have hgl := Nat.lt_of_lt_of_le B2.lt hb3.size; replace B2 := B2.below hb3; replace hb3 := bthen hb2 hb3; have hgw := hb3.size)
        | ((with_reducible refine g_store 2 ?_); go_must (refine ev_store rfl rfl B2 (news := [.bool false, .slice none 0 0]) (by first | rfl | (go_simp; try rfl)) infoNum (by simp) (by simp [Value.oneCell']) ?_); intro w5 ho5 B5; simp only [List.take_zero, List.nil_append, List.length_cons, List.length_nil, List.drop_succ_cons, List.drop_zero, List.append_nil, List.cons_append] at B5))
      refine bodyPost_ret (results_ct rfl _ _ g2 26 #[.bool false, .slice none 0 0] (0, 0) _ rfl B5.h Tryd.underlying26 rfl (by kernel_rfl)) rfl ?_
      exact ⟨_, rfl, ⟨_, rfl, ⟨.slice none 0 0, rfl, by rw [show (0 : Int).natAbs = 0 from rfl, digB_zero]; exact Ow.nil _ _ _ _ _⟩⟩, hb3.trans (ho5.below hg2)⟩
    | minus h0 h1 =>
      have e1 : decide (0 < s.size) = true := decide_eq_true h0
      have e2 : (0 : Int) < (s.size : Int) := by omega
      have e3 : (1 : Int) ≤ (s.size : Int) := by omega
      rw [e1] at hn
      have hcx : ((s[0]'h0).toNat : Int) = 45 := by rw [h1]; rfl
      clear h1
      go_enter Tryd.func41, Tryd.ntmps41
      go_wp2_with (first
        | ((with_reducible refine g_dst 2 ?_); go_must (refine ev_alloc 2 rfl infoNum (cs := [.bool false, .slice none 0 0]) rfl ?_); intro g2 w2 hb2 B2 hg2)
        | (go_at_call 63; (with_reducible refine (HP.out _).mono ?_); rintro e w3 ⟨v3, rfl, ⟨q, rfl, ho3⟩, hb3⟩; obtain ⟨A3, c3, rfl, h31, h32⟩ := ho3.form; have hl3 : Lim w3 A3 c3 D := ⟨ho3.rd lenU, HDl.out, h31, ho3.none, HDn.out⟩; have hgl := Nat.lt_of_lt_of_le B2.lt hb3.size; replace B2 := B2.below hb3; replace hb3 := bthen hb2 hb3; have hgw := hb3.size)
        | ((with_reducible refine g_store 2 ?_); go_must (refine ev_store rfl rfl B2 (news := [.bool false, .slice none 0 0]) (by first | rfl | (go_simp; try rfl)) infoNum (by simp) (by simp [Value.oneCell']) ?_); intro w5 ho5 B5; simp only [List.take_zero, List.nil_append, List.length_cons, List.length_nil, List.drop_succ_cons, List.drop_zero, List.append_nil, List.cons_append] at B5))
      refine bodyPost_ret (results_ct rfl _ _ g2 26 #[.bool false, .slice none 0 0] (0, 0) _ rfl B5.h Tryd.underlying26 rfl (by kernel_rfl)) rfl ?_
      exact ⟨_, rfl, ⟨_, rfl, ⟨.slice none 0 0, rfl, by rw [show (0 : Int).natAbs = 0 from rfl, digB_zero]; exact Ow.nil _ _ _ _ _⟩⟩, hb3.trans (ho5.below hg2)⟩
    | other h0 h1 h2 =>
      have e1 : decide (0 < s.size) = true := decide_eq_true h0
      have e2 : (0 : Int) < (s.size : Int) := by omega
      rw [e1] at hn
      obtain ⟨x, hx⟩ : ∃ x, x = (s[0]'h0).toNat := ⟨_, rfl⟩
      rw [← hx] at h1 h2
      have hcx : ((s[0]'h0).toNat : Int) = (x : Int) := by rw [hx]
      have e4 : ((x : Int) == 43) = false := by simp; omega
      have e5 : ((x : Int) == 45) = false := by simp; omega
      clear hx h1 h2
      go_enter Tryd.func41, Tryd.ntmps41
      go_wp2_with (first
        | ((with_reducible refine g_dst 2 ?_); go_must (refine ev_alloc 2 rfl infoNum (cs := [.bool false, .slice none 0 0]) rfl ?_); intro g2 w2 hb2 B2 hg2)
        | (go_at_call 63; (with_reducible refine (HP.out _).mono ?_); rintro e w3 ⟨v3, rfl, ⟨q, rfl, ho3⟩, hb3⟩; obtain ⟨A3, c3, rfl, h31, h32⟩ := ho3.form; have hl3 : Lim w3 A3 c3 D := ⟨ho3.rd lenU, HDl.out, h31, ho3.none, HDn.out⟩; have hgl := Nat.lt_of_lt_of_le B2.lt hb3.size; replace B2 := B2.below hb3; replace hb3 := bthen hb2 hb3; have hgw := hb3.size)
        | ((with_reducible refine g_store 2 ?_); go_must (refine ev_store rfl rfl B2 (news := [.bool false, .slice none 0 0]) (by first | rfl | (go_simp; try rfl)) infoNum (by simp) (by simp [Value.oneCell']) ?_); intro w5 ho5 B5; simp only [List.take_zero, List.nil_append, List.length_cons, List.length_nil, List.drop_succ_cons, List.drop_zero, List.append_nil, List.cons_append] at B5))
      refine bodyPost_ret (results_ct rfl _ _ g2 26 #[.bool false, .slice none 0 0] (0, 0) _ rfl B5.h Tryd.underlying26 rfl (by kernel_rfl)) rfl ?_
      exact ⟨_, rfl, ⟨_, rfl, ⟨.slice none 0 0, rfl, by rw [show (0 : Int).natAbs = 0 from rfl, digB_zero]; exact Ow.nil _ _ _ _ _⟩⟩, hb3.trans (ho5.below hg2)⟩
set_option maxRecDepth 8000 in
set_option maxHeartbeats 2000000 in
theorem rNumParse_any (s u : ByteArray) (neg : Bool) (w : World) (hs : s.size ≤ 1073741824) (h : Shape s u neg) :
    Calls Tryd.prog 42 #[.string s] w (Gives w fun v w' => ∃ q, v = .tuple #[q, .bool (okD u)] ∧ Told w.heap.size w' q (pz u neg)) := by
  have HP := As.mk (fun W => rparse_uni u W (Nat.le_trans h.le hs))
  have hvl := digB_len_lt 4294967296 (by omega) _ _ (valD_lt u)
  have hus := h.le
  unfold pz
  obtain ⟨V, hV⟩ : ∃ V, V = valD u := ⟨_, rfl⟩
  obtain ⟨ok, hok⟩ : ∃ ok, ok = okD u := ⟨_, rfl⟩
  obtain ⟨D, hD⟩ : ∃ D, D = digB 4294967296 V := ⟨_, rfl⟩
  rw [← hV, ← hD] at hvl
  rw [← hV, ← hok, ← hD] at HP
  rw [← hok, ← hV]
  have HDl : As (∀ x ∈ D, x < 4294967296) := ⟨by rw [hD]; exact digB_lt _ (by omega) V⟩
  have HDn : As (D.length ≤ 274877906944) := ⟨by omega⟩
  obtain ⟨z, hz⟩ : ∃ z, z = sval neg V := ⟨_, rfl⟩
  have HV : As (sval neg (valB 4294967296 D) = z) := ⟨by rw [hD, digB_val _ (by omega), hz]⟩
  rw [← hz]
  have hn := ne_empty s
  clear hvl hus hD hz hV hok
  cases ok with
  | true =>
    simp only [if_true]
    cases h with
    | empty h0 =>
      have e1 : decide (0 < s.size) = false := decide_eq_false (by omega)
      have e2 : ¬ (0 : Int) < (s.size : Int) := by omega
      rw [e1] at hn
      go_enter Tryd.func42, Tryd.ntmps42
      go_wp2_with (first
        | ((with_reducible refine g_dst 2 ?_); go_must (refine ev_alloc 2 rfl infoNum (cs := [.bool false, .slice none 0 0]) rfl ?_); intro g2 w2 hb2 B2 hg2)
        | (go_at_call 64; (with_reducible refine (HP.out _).mono ?_); rintro e w3 ⟨v3, rfl, ⟨q, rfl, ho3⟩, hb3⟩; obtain ⟨A3, c3, rfl, h31, h32⟩ := ho3.form; have hl3 : Lim w3 A3 c3 D := ⟨ho3.rd lenU, HDl.out, h31, ho3.none, HDn.out⟩; have hgl := Nat.lt_of_lt_of_le B2.lt hb3.size; replace B2 := B2.below hb3; replace hb3 := bthen hb2 hb3; have hgw := hb3.size)
        | (go_at_call 54; (with_reducible refine (of_told D _ A3 c3 _ hl3).mono ?_); rintro e w4 ⟨v4, rfl, ht4, hb4⟩; rw [HV.out] at ht4; obtain ⟨A4, c4, E4, rfl, ho4, HE4, h41⟩ := told_sl ht4; clear ht4; replace B2 := B2.below hb4; have hb34 := bthen hb3 hb4)
        | ((with_reducible refine g_store 2 ?_); go_must (refine ev_store rfl rfl B2 (news := [.bool (decide (z < 0)), .slice A4 E4.length c4]) (by rfl) infoNum (by simp) (by simp [Value.oneCell']) ?_); intro w5 ho5 B5; simp only [List.take_zero, List.nil_append, List.length_cons, List.length_nil, List.drop_succ_cons, List.drop_zero, List.append_nil, List.cons_append] at B5))
      refine bodyPost_ret (results_ct rfl _ _ g2 26 #[.bool (decide (z < 0)), .slice A4 E4.length c4] (0, 0) _ rfl B5.h Tryd.underlying26 rfl (by kernel_rfl)) rfl ?_
      exact ⟨_, rfl, ⟨_, rfl, ⟨.slice A4 E4.length c4, rfl, by rw [← HE4.out]; exact ow_only ho4 ho5 hgl hgw⟩⟩, hb34.trans (ho5.below hg2)⟩
    | plus h0 h1 =>
      have e1 : decide (0 < s.size) = true := decide_eq_true h0
      have e2 : (0 : Int) < (s.size : Int) := by omega
      have e3 : (1 : Int) ≤ (s.size : Int) := by omega
      rw [e1] at hn
      have hcx : ((s[0]'h0).toNat : Int) = 43 := by rw [h1]; rfl
      clear h1
      go_enter Tryd.func42, Tryd.ntmps42
      go_wp2_with (first
        | ((with_reducible refine g_dst 2 ?_); go_must (refine ev_alloc 2 rfl infoNum (cs := [.bool false, .slice none 0 0]) rfl ?_); intro g2 w2 hb2 B2 hg2)
        | (go_at_call 64; (with_reducible refine (HP.out _).mono ?_); rintro e w3 ⟨v3, rfl, ⟨q, rfl, ho3⟩, hb3⟩; obtain ⟨A3, c3, rfl, h31, h32⟩ := ho3.form; have hl3 : Lim w3 A3 c3 D := ⟨ho3.rd lenU, HDl.out, h31, ho3.none, HDn.out⟩; have hgl := Nat.lt_of_lt_of_le B2.lt hb3.size; replace B2 := B2.below hb3; replace hb3 := bthen hb2 hb3; have hgw := hb3.size)
        | (go_at_call 54; (with_reducible refine (of_told D _ A3 c3 _ hl3).mono ?_); rintro e w4 ⟨v4, rfl, ht4, hb4⟩; rw [HV.out] at ht4; obtain ⟨A4, c4, E4, rfl, ho4, HE4, h41⟩ := told_sl ht4; clear ht4; replace B2 := B2.below hb4; have hb34 := bthen hb3 hb4)
        | ((with_reducible refine g_store 2 ?_); go_must (refine ev_store rfl rfl B2 (news := [.bool (decide (z < 0)), .slice A4 E4.length c4]) (by rfl) infoNum (by simp) (by simp [Value.oneCell']) ?_); intro w5 ho5 B5; simp only [List.take_zero, List.nil_append, List.length_cons, List.length_nil, List.drop_succ_cons, List.drop_zero, List.append_nil, List.cons_append] at B5))
      refine bodyPost_ret (results_ct rfl _ _ g2 26 #[.bool (decide (z < 0)), .slice A4 E4.length c4] (0, 0) _ rfl B5.h Tryd.underlying26 rfl (by kernel_rfl)) rfl ?_
      exact ⟨_, rfl, ⟨_, rfl, ⟨.slice A4 E4.length c4, rfl, by rw [← HE4.out]; exact ow_only ho4 ho5 hgl hgw⟩⟩, hb34.trans (ho5.below hg2)⟩
    | minus h0 h1 =>
      have e1 : decide (0 < s.size) = true := decide_eq_true h0
      have e2 : (0 : Int) < (s.size : Int) := by omega
      have e3 : (1 : Int) ≤ (s.size : Int) := by omega
      rw [e1] at hn
      have hcx : ((s[0]'h0).toNat : Int) = 45 := by rw [h1]; rfl
      clear h1
      go_enter Tryd.func42, Tryd.ntmps42
      go_wp2_with (first
        | ((with_reducible refine g_dst 2 ?_); go_must (refine ev_alloc 2 rfl infoNum (cs := [.bool false, .slice none 0 0]) rfl ?_); intro g2 w2 hb2 B2 hg2)
        | (go_at_call 64; (with_reducible refine (HP.out _).mono ?_); rintro e w3 ⟨v3, rfl, ⟨q, rfl, ho3⟩, hb3⟩; obtain ⟨A3, c3, rfl, h31, h32⟩ := ho3.form; have hl3 : Lim w3 A3 c3 D := ⟨ho3.rd lenU, HDl.out, h31, ho3.none, HDn.out⟩; have hgl := Nat.lt_of_lt_of_le B2.lt hb3.size; replace B2 := B2.below hb3; replace hb3 := bthen hb2 hb3; have hgw := hb3.size)
        | (go_at_call 54; (with_reducible refine (of_told D _ A3 c3 _ hl3).mono ?_); rintro e w4 ⟨v4, rfl, ht4, hb4⟩; rw [HV.out] at ht4; obtain ⟨A4, c4, E4, rfl, ho4, HE4, h41⟩ := told_sl ht4; clear ht4; replace B2 := B2.below hb4; have hb34 := bthen hb3 hb4)
        | ((with_reducible refine g_store 2 ?_); go_must (refine ev_store rfl rfl B2 (news := [.bool (decide (z < 0)), .slice A4 E4.length c4]) (by rfl) infoNum (by simp) (by simp [Value.oneCell']) ?_); intro w5 ho5 B5; simp only [List.take_zero, List.nil_append, List.length_cons, List.length_nil, List.drop_succ_cons, List.drop_zero, List.append_nil, List.cons_append] at B5))
      refine bodyPost_ret (results_ct rfl _ _ g2 26 #[.bool (decide (z < 0)), .slice A4 E4.length c4] (0, 0) _ rfl B5.h Tryd.underlying26 rfl (by kernel_rfl)) rfl ?_
      exact ⟨_, rfl, ⟨_, rfl, ⟨.slice A4 E4.length c4, rfl, by rw [← HE4.out]; exact ow_only ho4 ho5 hgl hgw⟩⟩, hb34.trans (ho5.below hg2)⟩
    | other h0 h1 h2 =>
      have e1 : decide (0 < s.size) = true := decide_eq_true h0
      have e2 : (0 : Int) < (s.size : Int) := by omega
      rw [e1] at hn
      obtain ⟨x, hx⟩ : ∃ x, x = (s[0]'h0).toNat := ⟨_, rfl⟩
      rw [← hx] at h1 h2
      have hcx : ((s[0]'h0).toNat : Int) = (x : Int) := by rw [hx]
      have e4 : ((x : Int) == 43) = false := by simp; omega
      have e5 : ((x : Int) == 45) = false := by simp; omega
      clear hx h1 h2
      go_enter Tryd.func42, Tryd.ntmps42
      go_wp2_with (first
        | ((with_reducible refine g_dst 2 ?_); go_must (refine ev_alloc 2 rfl infoNum (cs := [.bool false, .slice none 0 0]) rfl ?_); intro g2 w2 hb2 B2 hg2)
        | (go_at_call 64; (with_reducible refine (HP.out _).mono ?_); rintro e w3 ⟨v3, rfl, ⟨q, rfl, ho3⟩, hb3⟩; obtain ⟨A3, c3, rfl, h31, h32⟩ := ho3.form; have hl3 : Lim w3 A3 c3 D := ⟨ho3.rd lenU, HDl.out, h31, ho3.none, HDn.out⟩; have hgl := Nat.lt_of_lt_of_le B2.lt hb3.size; replace B2 := B2.below hb3; replace hb3 := bthen hb2 hb3; have hgw := hb3.size)
        | (go_at_call 54; (with_reducible refine (of_told D _ A3 c3 _ hl3).mono ?_); rintro e w4 ⟨v4, rfl, ht4, hb4⟩; rw [HV.out] at ht4; obtain ⟨A4, c4, E4, rfl, ho4, HE4, h41⟩ := told_sl ht4; clear ht4; replace B2 := B2.below hb4; have hb34 := bthen hb3 hb4)
        | ((with_reducible refine g_store 2 ?_); go_must (refine ev_store rfl rfl B2 (news := [.bool (decide (z < 0)), .slice A4 E4.length c4]) (by rfl) infoNum (by simp) (by simp [Value.oneCell']) ?_); intro w5 ho5 B5; simp only [List.take_zero, List.nil_append, List.length_cons, List.length_nil, List.drop_succ_cons, List.drop_zero, List.append_nil, List.cons_append] at B5))
      refine bodyPost_ret (results_ct rfl _ _ g2 26 #[.bool (decide (z < 0)), .slice A4 E4.length c4] (0, 0) _ rfl B5.h Tryd.underlying26 rfl (by kernel_rfl)) rfl ?_
      exact ⟨_, rfl, ⟨_, rfl, ⟨.slice A4 E4.length c4, rfl, by rw [← HE4.out]; exact ow_only ho4 ho5 hgl hgw⟩⟩, hb34.trans (ho5.below hg2)⟩
  | false =>
    simp only [Bool.false_eq_true, if_false]
    clear HV
    cases h with
    | empty h0 =>
      have e1 : decide (0 < s.size) = false := decide_eq_false (by omega)
      have e2 : ¬ (0 : Int) < (s.size : Int) := by omega
      rw [e1] at hn
      go_enter Tryd.func42, Tryd.ntmps42
      go_wp2_with (first
        | ((with_reducible refine g_dst 2 ?_); go_must (refine ev_alloc 2 rfl infoNum (cs := [.bool false, .slice none 0 0]) rfl ?_); intro g2 w2 hb2 B2 hg2)
        | (go_at_call 64; (with_reducible refine (HP.out _).mono ?_); rintro e w3 ⟨v3, rfl, ⟨q, rfl, ho3⟩, hb3⟩; obtain ⟨A3, c3, rfl, h31, h32⟩ := ho3.form; have hl3 : Lim w3 A3 c3 D := ⟨ho3.rd lenU, HDl.out, h31, ho3.none, HDn.out⟩; have hgl := Nat.lt_of_lt_of_le B2.lt hb3.size; replace B2 := B2.below hb3; replace hb3 := bthen hb2 hb3; have hgw := hb3.size)
        | ((with_reducible refine g_store 2 ?_); go_must (refine ev_store rfl rfl B2 (news := [.bool false, .slice none 0 0]) (by first | rfl | (go_simp; try rfl)) infoNum (by simp) (by simp [Value.oneCell']) ?_); intro w5 ho5 B5; simp only [List.take_zero, List.nil_append, List.length_cons, List.length_nil, List.drop_succ_cons, List.drop_zero, List.append_nil, List.cons_append] at B5))
      refine bodyPost_ret (results_ct rfl _ _ g2 26 #[.bool false, .slice none 0 0] (0, 0) _ rfl B5.h Tryd.underlying26 rfl (by kernel_rfl)) rfl ?_
      exact ⟨_, rfl, ⟨_, rfl, ⟨.slice none 0 0, rfl, by rw [show (0 : Int).natAbs = 0 from rfl, digB_zero]; exact Ow.nil _ _ _ _ _⟩⟩, hb3.trans (ho5.below hg2)⟩
    | plus h0 h1 =>
      have e1 : decide (0 < s.size) = true := decide_eq_true h0
      have e2 : (0 : Int) < (s.size : Int) := by omega
      have e3 : (1 : Int) ≤ (s.size : Int) := by omega
      rw [e1] at hn
      have hcx : ((s[0]'h0).toNat : Int) = 43 := by rw [h1]; rfl
      clear h1
      go_enter Tryd.func42, Tryd.ntmps42
      go_wp2_with (first
        | ((with_reducible refine g_dst 2 ?_); go_must (refine ev_alloc 2 rfl infoNum (cs := [.bool false, .slice none 0 0]) rfl ?_); intro g2 w2 hb2 B2 hg2)
        | (go_at_call 64; (with_reducible refine (HP.out _).mono ?_); rintro e w3 ⟨v3, rfl, ⟨q, rfl, ho3⟩, hb3⟩; obtain ⟨A3, c3, rfl, h31, h32⟩ := ho3.form; have hl3 : Lim w3 A3 c3 D := ⟨ho3.rd lenU, HDl.out, h31, ho3.none, HDn.out⟩; have hgl := Nat.lt_of_lt_of_le B2.lt hb3.size; replace B2 := B2.below hb3; replace hb3 := bthen hb2 hb3; have hgw := hb3.size)
        | ((with_reducible refine g_store 2 ?_); go_must (refine ev_store rfl rfl B2 (news := [.bool false, .slice none 0 0]) (by first | rfl | (go_simp; try rfl)) infoNum (by simp) (by simp [Value.oneCell']) ?_); intro w5 ho5 B5; simp only [List.take_zero, List.nil_append, List.length_cons, List.length_nil, List.drop_succ_cons, List.drop_zero, List.append_nil, List.cons_append] at B5))
      refine bodyPost_ret (results_ct rfl _ _ g2 26 #[.bool false, .slice none 0 0] (0, 0) _ rfl B5.h Tryd.underlying26 rfl (by kernel_rfl)) rfl ?_
      exact ⟨_, rfl, ⟨_, rfl, ⟨.slice none 0 0, rfl, by rw [show (0 : Int).natAbs = 0 from rfl, digB_zero]; exact Ow.nil _ _ _ _ _⟩⟩, hb3.trans (ho5.below hg2)⟩
    | minus h0 h1 =>
      have e1 : decide (0 < s.size) = true := decide_eq_true h0
      have e2 : (0 : Int) < (s.size : Int) := by omega
      have e3 : (1 : Int) ≤ (s.size : Int) := by omega
      rw [e1] at hn
      have hcx : ((s[0]'h0).toNat : Int) = 45 := by rw [h1]; rfl
      clear h1
      go_enter Tryd.func42, Tryd.ntmps42
      go_wp2_with (first
        | ((with_reducible refine g_dst 2 ?_); go_must (refine ev_alloc 2 rfl infoNum (cs := [.bool false, .slice none 0 0]) rfl ?_); intro g2 w2 hb2 B2 hg2)
        | (go_at_call 64; (with_reducible refine (HP.out _).mono ?_); rintro e w3 ⟨v3, rfl, ⟨q, rfl, ho3⟩, hb3⟩; obtain ⟨A3, c3, rfl, h31, h32⟩ := ho3.form; have hl3 : Lim w3 A3 c3 D := ⟨ho3.rd lenU, HDl.out, h31, ho3.none, HDn.out⟩; have hgl := Nat.lt_of_lt_of_le B2.lt hb3.size; replace B2 := B2.below hb3; replace hb3 := bthen hb2 hb3; have hgw := hb3.size)
        | ((with_reducible refine g_store 2 ?_); go_must (refine ev_store rfl rfl B2 (news := [.bool false, .slice none 0 0]) (by first | rfl | (go_simp; try rfl)) infoNum (by simp) (by simp [Value.oneCell']) ?_); intro w5 ho5 B5; simp only [List.take_zero, List.nil_append, List.length_cons, List.length_nil, List.drop_succ_cons, List.drop_zero, List.append_nil, List.cons_append] at B5))
      refine bodyPost_ret (results_ct rfl _ _ g2 26 #[.bool false, .slice none 0 0] (0, 0) _ rfl B5.h Tryd.underlying26 rfl (by kernel_rfl)) rfl ?_
      exact ⟨_, rfl, ⟨_, rfl, ⟨.slice none 0 0, rfl, by rw [show (0 : Int).natAbs = 0 from rfl, digB_zero]; exact Ow.nil _ _ _ _ _⟩⟩, hb3.trans (ho5.below hg2)⟩
    | other h0 h1 h2 =>
      have e1 : decide (0 < s.size) = true := decide_eq_true h0
      have e2 : (0 : Int) < (s.size : Int) := by omega
      rw [e1] at hn
      obtain ⟨x, hx⟩ : ∃ x, x = (s[0]'h0).toNat := ⟨_, rfl⟩
      rw [← hx] at h1 h2
      have hcx : ((s[0]'h0).toNat : Int) = (x : Int) := by rw [hx]
      have e4 : ((x : Int) == 43) = false := by simp; omega
      have e5 : ((x : Int) == 45) = false := by simp; omega
      clear hx h1 h2
      go_enter Tryd.func42, Tryd.ntmps42
      go_wp2_with (first
        | ((with_reducible refine g_dst 2 ?_); go_must (refine ev_alloc 2 rfl infoNum (cs := [.bool false, .slice none 0 0]) rfl ?_); intro g2 w2 hb2 B2 hg2)
        | (go_at_call 64; (with_reducible refine (HP.out _).mono ?_); rintro e w3 ⟨v3, rfl, ⟨q, rfl, ho3⟩, hb3⟩; obtain ⟨A3, c3, rfl, h31, h32⟩ := ho3.form; have hl3 : Lim w3 A3 c3 D := ⟨ho3.rd lenU, HDl.out, h31, ho3.none, HDn.out⟩; have hgl := Nat.lt_of_lt_of_le B2.lt hb3.size; replace B2 := B2.below hb3; replace hb3 := bthen hb2 hb3; have hgw := hb3.size)
        | ((with_reducible refine g_store 2 ?_); go_must (refine ev_store rfl rfl B2 (news := [.bool false, .slice none 0 0]) (by first | rfl | (go_simp; try rfl)) infoNum (by simp) (by simp [Value.oneCell']) ?_); intro w5 ho5 B5; simp only [List.take_zero, List.nil_append, List.length_cons, List.length_nil, List.drop_succ_cons, List.drop_zero, List.append_nil, List.cons_append] at B5))
      refine bodyPost_ret (results_ct rfl _ _ g2 26 #[.bool false, .slice none 0 0] (0, 0) _ rfl B5.h Tryd.underlying26 rfl (by kernel_rfl)) rfl ?_
      exact ⟨_, rfl, ⟨_, rfl, ⟨.slice none 0 0, rfl, by rw [show (0 : Int).natAbs = 0 from rfl, digB_zero]; exact Ow.nil _ _ _ _ _⟩⟩, hb3.trans (ho5.below hg2)⟩
end Go.Proofs.YtigoofeodbbbhaaDoor
/- Parse and Text, told of numbers that are held. -/
namespace Go.Proofs.YtigoofeodbbbhaaDoor
open Go.RowKit Go.Proofs.YtigoofeodbbbhaaDoorL Go.Proofs.YtigoofeodbbbhaaDoorM
set_option linter.unusedVariables false
set_option linter.unusedSimpArgs false
def numZ (z : Int) : List UInt8 := if z < 0 then 45 :: Lib.decDigits z.natAbs else Lib.decDigits z.natAbs
theorem numT_z (b : Bool) (V : Nat) : numT b V = numZ (sval b V) := by
  unfold numT numZ
  rw [sval_abs]
  have h := sval_lt b V
  by_cases h1 : b = true ∧ V ≠ 0
  · have : sval b V < 0 := by
      rw [show b = true from h1.1]; simp only [sval]; have := h1.2; simp; omega
    rw [if_pos h1, if_pos this]
  · have : ¬ sval b V < 0 := by
      intro hh
      rw [decide_eq_true hh] at h
      have h2 := h.symm
      simp only [Bool.and_eq_true, decide_eq_true_eq] at h2
      exact h1 ⟨h2.1, by omega⟩
    rw [if_neg h1, if_neg this]
theorem textF {w : World} {L : List NR} {b : Bool} {A : Option Addr} {n c : Nat} {z : Int} {K : Nat} {can : Bool} (F : Fs w L) (h : (⟨b, A, n, c, z, K, can⟩ : NR) ∈ L) (htab : Tab w) (T : List UInt8) (hT : numZ z = T) :
    Calls Tryd.prog 43 #[.agg #[.bool b, .slice A n c]] w (Gives w (fun v _ => v = .string ⟨T.toArray⟩)) := by
  obtain ⟨⟨l, h1, h2, h3, h4⟩, h5⟩ := F.out _ h
  simp only at h1 h2 h3 h4 h5
  subst h1 hT
  have := numText_any l b A c w htab h2
  rw [numT_z, h3] at this
  exact this
theorem rtextF {w : World} {L : List NR} {b : Bool} {A : Option Addr} {n c : Nat} {z : Int} {K : Nat} {can : Bool} (F : Fs w L) (h : (⟨b, A, n, c, z, K, can⟩ : NR) ∈ L) (T : List UInt8) (hT : numZ z = T) :
    Calls Tryd.prog 44 #[.agg #[.bool b, .slice A n c]] w (Gives w (fun v _ => v = .string ⟨T.toArray⟩)) := by
  obtain ⟨⟨l, h1, h2, h3, h4⟩, h5⟩ := F.out _ h
  simp only at h1 h2 h3 h4 h5
  subst h1 hT
  have := rnumText_any l b A c w h2
  rw [numT_z, h3] at this
  exact this
theorem pz_sm (u : ByteArray) (neg : Bool) : Sm u.size (pz u neg) := by
  unfold pz Sm
  split
  · rw [sval_abs]; exact valD_lt u
  · exact Nat.pow_pos (by omega)
theorem parseF (s u : ByteArray) (neg : Bool) (w : World) (hs : s.size ≤ 1073741824) (h : Shape s u neg) (ok : Bool) (hok : okD u = ok) (z : Int) (hz : pz u neg = z) (K : Nat) (hK : u.size ≤ K) (hK2 : K ≤ 274877906944) :
    Calls Tryd.prog 41 #[.string s] w (Gives w fun v w' => ∃ q, v = .tuple #[q, .bool ok] ∧ NumRes w z K true q w') := by
  subst hok hz
  refine (numParse_any s u neg w hs h).mono ?_
  rintro e w' ⟨v, rfl, ⟨q, rfl, ht⟩, hb⟩
  exact ⟨_, rfl, ⟨_, rfl, NumRes.of ht ((pz_sm u neg).mono hK) hK2⟩, hb⟩
theorem rparseF (s u : ByteArray) (neg : Bool) (w : World) (hs : s.size ≤ 1073741824) (h : Shape s u neg) (ok : Bool) (hok : okD u = ok) (z : Int) (hz : pz u neg = z) (K : Nat) (hK : u.size ≤ K) (hK2 : K ≤ 274877906944) :
    Calls Tryd.prog 42 #[.string s] w (Gives w fun v w' => ∃ q, v = .tuple #[q, .bool ok] ∧ NumRes w z K true q w') := by
  subst hok hz
  refine (rNumParse_any s u neg w hs h).mono ?_
  rintro e w' ⟨v, rfl, ⟨q, rfl, ht⟩, hb⟩
  exact ⟨_, rfl, ⟨_, rfl, NumRes.of ht ((pz_sm u neg).mono hK) hK2⟩, hb⟩
end Go.Proofs.YtigoofeodbbbhaaDoor
/- Parse of a number's own text. -/
namespace Go.Proofs.YtigoofeodbbbhaaDoor
open Go.RowKit Go.Proofs.YtigoofeodbbbhaaDoorL Go.Proofs.YtigoofeodbbbhaaDoorM
set_option linter.unusedVariables false
set_option linter.unusedSimpArgs false
theorem decLen (k : Nat) : ∀ v, v < 10 ^ (k + 1) → (Lib.decDigits v).length ≤ k + 1 := by
  induction k with
  | zero => intro v h; rw [Lib.decDigits_one (by simpa using h)]; simp
  | succ k ih =>
    intro v h
    by_cases h1 : v < 10
    · rw [Lib.decDigits_one h1]; simp
    · rw [Lib.decDigits, dif_neg h1, List.length_append]
      have := ih (v / 10) (by rw [Nat.div_lt_iff_lt_mul (by omega)]; rw [← Nat.pow_succ]; exact h)
      simp only [List.length_cons, List.length_nil]
      omega
theorem dec_okD (u : ByteArray) (V : Nat) (h : u.data.toList = Lib.decDigits V) : okD u = true ∧ valD u = V := by
  obtain ⟨h1, h2, h3⟩ := numV_dec V
  have ha : allD u = true := (allD_iff u).2 (by rw [h]; exact h2)
  have hsl : u.data.toList.length = u.size := by rw [Array.length_toList]; rfl
  have hs : 0 < u.size := by
    rw [← hsl, h]; exact List.length_pos_iff.2 h3
  refine ⟨by unfold okD; rw [ha]; simp [hs], by unfold valD; rw [if_pos ha, h, h1]⟩
theorem numZ_shape (z : Int) : ∃ u neg, Shape ⟨(numZ z).toArray⟩ u neg ∧ okD u = true ∧ pz u neg = z := by
  obtain ⟨h1, h2, h3⟩ := numV_dec z.natAbs
  unfold numZ
  by_cases hz : z < 0
  · rw [if_pos hz]
    obtain ⟨s, hs⟩ : ∃ s : ByteArray, s = ⟨(45 :: Lib.decDigits z.natAbs).toArray⟩ := ⟨_, rfl⟩
    have hd : s.data.toList = 45 :: Lib.decDigits z.natAbs := by rw [hs]
    have hsz : s.size = (Lib.decDigits z.natAbs).length + 1 := by
      have : s.data.toList.length = s.size := by rw [Array.length_toList]; rfl
      rw [← this, hd]; rfl
    rw [← hs]
    have h0 : (s[0]'(by omega)).toNat = 45 := by
      rw [ByteArray.getElem_eq_getElem_data, ← Array.getElem_toList]
      simp only [hd, List.getElem_cons_zero]
      rfl
    have hu : (s.extract 1 s.size).data.toList = Lib.decDigits z.natAbs := by
      rw [extract_list s 1 s.size (by omega) (Nat.le_refl _), hd, List.drop_succ_cons, List.drop_zero, List.take_of_length_le (by omega)]
    obtain ⟨k1, k2⟩ := dec_okD _ _ hu
    exact ⟨_, _, .minus (by omega) h0, k1, by unfold pz; rw [if_pos k1, k2]; simp only [sval]; simp; omega⟩
  · rw [if_neg hz]
    obtain ⟨s, hs⟩ : ∃ s : ByteArray, s = ⟨(Lib.decDigits z.natAbs).toArray⟩ := ⟨_, rfl⟩
    have hd : s.data.toList = Lib.decDigits z.natAbs := by rw [hs]
    rw [← hs]
    have hp : 0 < s.size := by
      have : s.data.toList.length = s.size := by rw [Array.length_toList]; rfl
      rw [← this, hd]; exact List.length_pos_iff.2 h3
    have hx := isD_of (h2 (s[0]'hp) (by rw [← hd]; exact byte_mem s 0 hp))
    obtain ⟨k1, k2⟩ := dec_okD _ _ hd
    exact ⟨_, _, .other hp (by omega) (by omega), k1, by unfold pz; rw [if_pos k1, k2]; simp only [sval]; simp; omega⟩
theorem numZ_len (z : Int) (K : Nat) (h : Sm K z) : (numZ z).length ≤ 10 * K + 2 := by
  have hdl := decLen (10 * K) z.natAbs (Nat.lt_of_lt_of_le h (Nat.le_trans (Nat.pow_le_pow_left (show 4294967296 ≤ 10 ^ 10 by decide) K) (by rw [← Nat.pow_mul]; exact Nat.pow_le_pow_right (by omega) (by omega))))
  unfold numZ
  split
  · rw [List.length_cons]; omega
  · omega
theorem parseZ (z : Int) (K : Nat) (w : World) (hs : Sm K z) (hK : K ≤ 1048576) (T : List UInt8) (hT : numZ z = T) :
    Calls Tryd.prog 41 #[.string ⟨T.toArray⟩] w (Gives w fun v w' => ∃ q, v = .tuple #[q, .bool true] ∧ NumRes w z K true q w') := by
  subst hT
  obtain ⟨u, neg, hsh, hok, hz⟩ := numZ_shape z
  have hl := numZ_len z K hs
  have := numParse_any _ u neg w (by simp [ByteArray.size]; omega) hsh
  rw [hok, hz] at this
  refine this.mono ?_
  rintro e w' ⟨v, rfl, ⟨q, rfl, ht⟩, hb⟩
  exact ⟨_, rfl, ⟨_, rfl, NumRes.of ht hs (by omega)⟩, hb⟩
theorem NR.Ok.zero {w : World} {b : Bool} {A : Option Addr} {n c K : Nat} {z : Int} (h : NR.Ok w ⟨b, A, n, c, z, K, true⟩) (hz : z = 0) : b = false ∧ n = 0 := by
  obtain ⟨l, h1, h2, h3, h4⟩ := h.ex
  obtain ⟨h5, h6⟩ := h4 rfl
  simp only at h1 h5 h6
  subst hz
  refine ⟨h5, ?_⟩
  rw [← h1, h6, show (0 : Int).natAbs = 0 from rfl, digB_zero]; rfl
end Go.Proofs.YtigoofeodbbbhaaDoor
