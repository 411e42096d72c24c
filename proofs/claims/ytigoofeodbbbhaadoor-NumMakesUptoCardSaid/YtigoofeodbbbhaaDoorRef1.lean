/- tandemref01: trim, at, half, full, add, small: what they compute, in numbers. -/
import Derived.Test.YtigoofeodbbbhaaDoorLib2
import Derived.Test.YtigoofeodbbbhaaDoorMath3
import Derived.Test.YtigoofeodbbbhaaDoorNat2
import Derived.Test.YtigoofeodbbbhaaDoorLib3
namespace Go.Proofs.YtigoofeodbbbhaaDoor
open Go.RowKit Go.Proofs.YtigoofeodbbbhaaDoorL Go.Proofs.YtigoofeodbbbhaaDoorM
set_option linter.unusedVariables false
set_option linter.unusedSimpArgs false
theorem infoI : (Tryd.prog.info? 3).map (fun i => (i.zero, i.size, i.bytes)) = some (some (.int .i64 0), 1, 8) := by kernel_rfl
def encI (x : Nat) : List Value := [.int .i64 x]
def valI (x : Nat) : Value := .int .i64 x
theorem encI_one : ∀ x, encI x = [valI x] := fun _ => rfl
theorem lenI : ∀ x, (encI x).length = 1 := fun _ => rfl
theorem oneI : ∀ x, ∀ u ∈ encI x, u.oneCell' = true := fun x => by simp [encI, Value.oneCell']
theorem Rd.i {w : World} {b off : Nat} {l : List Nat} (f : Rd encI 1 w (some ⟨b, off, none⟩) l) (i : Nat) (hi : i < l.length) : w.cell? ⟨b, off + i, none⟩ = some (.int .i64 (l[i] : Nat)) := by
  have := f.cell i hi 0 _ rfl
  simpa using this
theorem Rd.trimI {w : World} {A : Option Addr} {l : List Nat} (f : Rd encI 1 w A l) : Rd encI 1 w A (trimL l) := by
  rw [trimL_take]; exact f.take _
set_option maxHeartbeats 400000 in
theorem rtrim_any (l : List Nat) (n : Nat) (hn : l.length = n) (A : Option Addr) (c : Nat) (w : World) (hr : Rd encI 1 w A l) (hc : n ≤ c) (hA : A = none → c = 0) (hm : n ≤ 17592186044416) :
    Calls Tryd.prog 82 #[.slice A n c] w (Gives w fun v w' => Ow encI 1 3 w.heap.size w' v (trimL l)) := by
  subst hn
  have HA := As.mk hA
  clear hA
  have hle := trimL_le l
  have HB1 := As.mk (show (([] : List Nat).length + (trimL l).length) * 8 ≤ 140737488355328 from by rw [List.length_nil]; omega)
  have HM1 := As.mk (show ([] : List Nat).length + (trimL l).length ≤ maxLen from by rw [List.length_nil]; simp only [maxLen]; omega)
  go_enter Tryd.func82, Tryd.ntmps82
  go_wp2
  go_loop [3] (fun v => ∃ n : Nat, n ≤ l.length ∧ v = .int .i64 n ∧ As (trimL (l.take n) = trimL l)) (fun v => (intOf v).toNat)
  case atStart => exact ⟨l.length, Nat.le_refl _, rfl, ⟨by rw [List.take_length]⟩⟩
  case round =>
    obtain ⟨n, hn, rfl, ht⟩ := hrel
    cases n with
    | zero =>
      have e0 : (trimL l).length = 0 := by rw [← ht.out]; simp [trimL]
      have hnil : trimL l = [] := List.eq_nil_of_length_eq_zero e0
      go_wp2_with ((with_reducible refine g_dst 21 ?_); go_must (refine ev_append 21 rfl Tryd.underlying80 infoI rfl (by decide) rfl (Ow.nil encI 1 3 w.heap.size w) (A := A) (n := 0) (c := c) rfl (l2 := trimL l) e0 (Rd.trimI hr) lenI oneI HA.out (by simp) (by simp [maxLen]) (Nat.le_refl _) ?_); intro v' w1 ho hg; have hb1 := below_grown hg (Nat.le_refl _) (fun k hk => by cases hk))
      go_ret
      exact ⟨_, rfl, by simpa [hnil] using ho, hb1⟩
    | succ m =>
      obtain ⟨b, off, rfl⟩ := hr.get (ne_nil_of_lt (i := m) (by omega))
      have hcell := Rd.i hr m (by omega)
      have hp : (0 : Int) < (m : Int) + 1 := by omega
      by_cases h0 : l[m] = 0
      · rw [h0] at hcell
        go_wp2
        go_round
        case rel => exact ⟨m, by omega, by go_num, ⟨by rw [← ht.out, trimL_step_zero l m (by omega) h0]⟩⟩
        case measure => simp [intOf]
      · have hb : ((l[m] : Int) == 0) = false := by simp; omega
        have hk := trimL_step_end l m (by omega) h0
        rw [ht.out] at hk
        have Hk := As.mk hk
        clear h0 hk
        go_wp2_with ((with_reducible refine g_dst 21 ?_); go_must (refine ev_append 21 rfl Tryd.underlying80 infoI rfl (by decide) rfl (Ow.nil encI 1 3 w.heap.size w) (A := some ⟨b, off, none⟩) (n := m + 1) (c := c) (by go_simp) (l2 := trimL l) Hk.out (Rd.trimI hr) lenI oneI HA.out (by rw [← Hk.out]; exact HB1.out) (by rw [← Hk.out]; exact HM1.out) (Nat.le_refl _) ?_); intro v' w1 ho hg; have hb1 := below_grown hg (Nat.le_refl _) (fun k hk => by cases hk))
        go_ret
        exact ⟨_, rfl, by simpa using ho, hb1⟩
set_option maxHeartbeats 400000 in
theorem at_any (l : List Nat) (n : Nat) (hn : l.length = n) (A : Option Addr) (c k : Nat) (w : World) (hr : Rd encI 1 w A l) (hc : n ≤ c) (hm : n ≤ 17592186044416) (hk : k ≤ 17592186044416) :
    Calls Tryd.prog 99 #[.slice A n c, .int .i64 k] w fun e w' => e = .returned (.int .i64 ((l.getD k 0 : Nat) : Int)) ∧ w = w' := by
  subst hn
  by_cases h : k < l.length
  · obtain ⟨b, off, rfl⟩ := hr.get (ne_nil_of_lt h)
    have hcell := Rd.i hr k h
    rw [show l.getD k 0 = l[k] by simp [List.getD, List.getElem?_eq_getElem h]]
    go_enter Tryd.func99, Tryd.ntmps99
    go_wp2
    go_ret
    exact ⟨rfl, rfl⟩
  · rw [show l.getD k 0 = 0 by simp [List.getD, List.getElem?_eq_none (Nat.le_of_not_lt h)]]
    go_enter Tryd.func99, Tryd.ntmps99
    go_wp2
    go_ret
    exact ⟨rfl, rfl⟩
set_option maxRecDepth 8000 in
set_option maxHeartbeats 400000 in
theorem half_any (l : List Nat) (n : Nat) (hn : l.length = n) (A : Option Addr) (c : Nat) (w : World) (hr : Rd encU 1 w A l) (hl : ∀ x ∈ l, x < 4294967296) (hc : n ≤ c) (hm : n ≤ 1099511627776) :
    Calls Tryd.prog 81 #[.slice A n c] w (Gives w fun v w' => Ow encI 1 3 w.heap.size w' v (digB 65536 (valB 4294967296 l))) := by
  subst hn
  have HL := As.mk hl
  clear hl
  go_enter Tryd.func81, Tryd.ntmps81
  go_wp2
  go_loopw [3, 4] (fun v u wr => ∃ k : Nat, k ≤ l.length ∧ u = .int .i64 (k : Int) ∧ Below w.heap.size w wr ∧ Ow encI 1 3 w.heap.size wr v (halves (l.take k))) (fun v u _ => l.length - (intOf u).toNat)
  case atStart => exact ⟨0, by omega, rfl, Below.refl _ _, Ow.nil _ _ _ _ _⟩
  case round =>
    obtain ⟨k, hk, rfl, hb, ho⟩ := hrel
    by_cases h : k < l.length
    · obtain ⟨b, off, rfl⟩ := hr.get (ne_nil_of_lt h)
      have hcell := Rd.u (hr.below hb) k h
      have hcw := Rd.u hr k h
      have hx := HL.out _ (List.getElem_mem h)
      have ht := halves_take_succ l k h
      obtain ⟨x, hxe⟩ : ∃ x, x = l[k] := ⟨_, rfl⟩
      rw [← hxe] at hcell hcw hx ht
      obtain ⟨y1, hy1⟩ : ∃ y, y = x % 65536 := ⟨_, rfl⟩
      obtain ⟨y2, hy2⟩ : ∃ y, y = x / 65536 := ⟨_, rfl⟩
      have hy1' : y1 < 65536 := by omega
      have hy2' : y2 < 65536 := by omega
      have e1 : ((x : Int).tmod 65536) = (y1 : Int) := by rw [Int.tmod_eq_emod_of_nonneg (by omega), hy1]; rfl
      have e2 : ((x : Int) / 65536) = (y2 : Int) := by rw [hy2]; rfl
      rw [← hy1, ← hy2] at ht
      have HT := As.mk ht
      have e3 : IntKind.i64.wrap (y1 : Int) = (y1 : Int) := IntWalk.i64_in _ (by omega)
      have e4 : IntKind.u32.wrap (y2 : Int) = (y2 : Int) := IntWalk.u32_in _ (by omega)
      have e5 : IntKind.i64.wrap (y2 : Int) = (y2 : Int) := IntWalk.i64_in _ (by omega)
      clear hxe hy1 hy2 ht
      have hwr := (Below.refl wr.heap.size wr)
      have hcA : ∀ o, (wr.alloc o).drew.cell? ⟨b, off + k, none⟩ = some (.int .u32 (x : Nat)) := fun o => (((hwr.alloc (Nat.le_refl _) o).drew).cell (World.block_lt_of_cell? wr _ hcell)).trans hcell
      have hoA := fun (o : Obj) => ho.below (hwr.alloc (Nat.le_refl _) o).drew
      have hbA : ∀ o, Below w.heap.size w (wr.alloc o).drew := fun o => (hb.alloc hb.size o).drew
      go_wp2
      have HB := As.mk (show ((halves (l.take k)).length + 2) * 8 ≤ 140737488355328 from by rw [halves_len, List.length_take]; omega)
      have HM := As.mk (show (halves (l.take k)).length + 2 ≤ maxLen from by rw [halves_len, List.length_take]; simp only [maxLen]; omega)
      go_region_held3 (fun w' => w'.cell? ⟨b, off + k, none⟩ = some (.int .u32 (x : Nat))) (first | assumption | exact hcA _)
        (((with_reducible refine s_dst 25 ?_); go_must (refine st_append 25 rfl Tryd.underlying80 infoI rfl (by decide) rfl (hoA _) rfl rfl ((Blk.new wr [valI y1, valI y2] 3).drew.rdm (l := [y1, y2]) encI_one) lenI oneI (fun h => by cases h) HB.out HM.out (hbA _).size ?_); intro v' w2 ho2 hg2; have hb2 := (hoA _).grown (hbA _) hg2 (Nat.le_refl _) (hbA _).size; have hc2 := (hb2.cell (World.block_lt_of_cell? w _ hcw)).trans hcw))
      go_wp2
      go_roundw
      case rel => exact ⟨k + 1, by omega, by go_num, hb2, by rw [← HT.out]; exact ho2⟩
      case measure => simp [intOf]; omega
    · have hf : halves (l.take k) = halves l := by rw [List.take_of_length_le (by omega)]
      rw [hf] at ho
      obtain ⟨A', c', rfl, h1, h2⟩ := ho.form
      have hlen := halves_len l
      have hlc : (halves l).length ≤ 17592186044416 := by omega
      clear hlen hf
      have htr := As.mk (trim_halves l HL.out)
      have hrd := ho.rd lenI
      have hn := ho.none
      go_wp2_with (go_at_call 82; (with_reducible refine (rtrim_any (halves l) _ rfl _ _ _ hrd h1 hn hlc).mono ?_); rintro e w2 ⟨v2, rfl, ho2, hb2⟩)
      go_ret
      exact ⟨_, rfl, by rw [← htr.out]; exact ho2.lower hb.size, bthen hb hb2⟩
set_option maxHeartbeats 400000 in
theorem rsmall_any (l : List Nat) (n : Nat) (hn : l.length = n) (A : Option Addr) (c d : Nat) (w : World) (hr : Rd encI 1 w A l) (hl : ∀ x ∈ l, x < 65536) (hd : 0 < d) (hd2 : d < 4294967296) (hc : n ≤ c) (hm : n ≤ 1099511627776) :
    Calls Tryd.prog 96 #[.slice A n c, .int .i64 d] w (Gives w fun v w' => ∃ q, v = .tuple #[q, .int .i64 ((valB 65536 l % d : Nat) : Int)] ∧ Ow encI 1 3 w.heap.size w' q (digB 65536 (valB 65536 l / d))) := by
  subst hn
  have HL := As.mk hl
  clear hl
  go_enter Tryd.func96, Tryd.ntmps96
  go_wp2_with ((with_reducible refine g_dst 12 ?_); go_must (refine ev_make 12 rfl Tryd.underlying80 infoI rfl (n := l.length) rfl rfl (by omega) (by omega) ?_); intro g w1 hb1 B1 hg)
  go_loopw [7, 8, 9] (fun v u y wr => ∃ k r : Nat, ∃ qs : List Nat, k ≤ l.length ∧ r < d ∧ v = .int .i64 (r : Int) ∧ u = .int .i64 ((k : Int) - 1) ∧ As (r = valB 65536 (l.drop k) % d) ∧ As (qs = qL 65536 d (l.drop k)) ∧ Below w.heap.size w wr ∧ Blk wr g ((List.replicate k 0 ++ qs).map valI) 3) (fun v u y _ => (intOf u + 1).toNat)
  case atStart =>
    refine ⟨l.length, 0, [], Nat.le_refl _, hd, rfl, by go_num, ⟨?_⟩, ⟨?_⟩, hb1, ?_⟩
    · rw [List.drop_length]; simp [valB]
    · rw [List.drop_length]; rfl
    · simpa [valI] using B1
  case round =>
    obtain ⟨k, r, qs, hk, hrd, rfl, rfl, hR, hQ, hb, B⟩ := hrel
    cases k with
    | zero =>
      have hql : qs.length = l.length := by rw [hQ.out, qL_len]; simp
      have hrd' := B.rdm encI_one
      rw [List.replicate_zero, List.nil_append] at hrd' B
      have htr := trim_qL 65536 d (by omega) hd (l.drop 0) (fun x hx => HL.out x (by simpa using hx))
      rw [← hQ.out] at htr
      rw [List.drop_zero] at htr hR
      have Hq := As.mk hql
      clear hql
      go_wp2_with (go_at_call 82; (with_reducible refine (rtrim_any qs l.length Hq.out _ _ _ hrd' (by omega) (fun h => by cases h) (by omega)).mono ?_); rintro e w2 ⟨v2, rfl, ho2, hb2⟩)
      go_ret2
      refine ⟨_, rfl, ⟨v2, ?_, ?_⟩, bthen hb hb2⟩
      · rw [← hR.out]; rfl
      · rw [← htr]; exact ho2.lower hb.size
    | succ m =>
      obtain ⟨b, off, rfl⟩ := hr.get (ne_nil_of_lt (i := m) (by omega))
      have hcell := Rd.i (hr.below hb) m (by omega)
      obtain ⟨x, hx⟩ : ∃ x, x = l[m] := ⟨_, rfl⟩
      have hx2 : x < 65536 := by rw [hx]; exact HL.out _ (List.getElem_mem _)
      rw [← hx] at hcell
      obtain ⟨v, hv⟩ : ∃ v, v = r * 65536 + x := ⟨_, rfl⟩
      have hqd : v / d < 65536 := by
        rw [Nat.div_lt_iff_lt_mul hd, hv]
        have := Nat.mul_le_mul_right 65536 (Nat.succ_le_of_lt hrd)
        rw [Nat.succ_mul] at this
        rw [Nat.mul_comm 65536 d]; omega
      have hmd := Nat.mod_lt v hd
      have hR' : As (v % d = valB 65536 (l.drop m) % d) := ⟨by rw [drop_cons_of_lt l m (by omega), rem_cons, ← hR.out, ← hx, hv]⟩
      have hQ' : As (v / d :: qs = qL 65536 d (l.drop m)) := ⟨by rw [drop_cons_of_lt l m (by omega), qL, ← hR.out, ← hx, hv, hQ.out]⟩
      have e1 : ((v : Int).tdiv (d : Int)) = ((v / d : Nat) : Int) := by rw [Int.tdiv_eq_ediv_of_nonneg (by omega)]; rfl
      have e2 : ((v : Int).tmod (d : Int)) = ((v % d : Nat) : Int) := by rw [Int.tmod_eq_emod_of_nonneg (by omega)]; rfl
      have e0 : ((r : Int) * 65536 + (x : Int)) = (v : Int) := by rw [hv]; simp
      have hvb : v < 281474976710656 := by omega
      have Hk := As.mk hx
      have Hv := As.mk hv
      clear hx hv hR hQ
      have hlen : m < (List.replicate (m + 1) 0 ++ qs).length := by simp; omega
      obtain ⟨V1, hV1⟩ : ∃ V1, V1 = v / d := ⟨_, rfl⟩
      obtain ⟨V2, hV2⟩ : ∃ V2, V2 = v % d := ⟨_, rfl⟩
      rw [← hV1] at e1 hqd hQ'
      rw [← hV2] at e2 hmd hR'
      clear hV1 hV2
      go_wp2_with ((with_reducible refine g_store 32 ?_); go_must (refine ev_set rfl (by go_simp) B (u := V1) (by go_simp; rfl) infoI hlen (by rfl) ?_); intro w2 ho B2; rw [fill_down] at B2)
      go_roundw
      case rel => exact ⟨m, V2, V1 :: qs, by omega, hmd, by go_num, by go_num, hR', hQ', hb.trans (ho.below hg), B2⟩
      case measure => simp [intOf]
end Go.Proofs.YtigoofeodbbbhaaDoor
