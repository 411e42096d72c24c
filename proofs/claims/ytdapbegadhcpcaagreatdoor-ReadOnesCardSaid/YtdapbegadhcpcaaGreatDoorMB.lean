/- A part of the proof. -/
import Derived.Test.YtdapbegadhcpcaaGreatDoorMA
import Derived.Laws.BytesArg
set_option linter.unusedVariables false
set_option linter.unusedSimpArgs false
namespace Go.Proofs.YtdapbegadhcpcaaGreatDoor
open Go.RowKit Go.Proofs.YtdapbegadhcpcaaGreatDoorL Go.Proofs.YtdapbegadhcpcaaGreatDoorM
theorem infoI : (Tryz.prog.info? 3).map (fun i => (i.zero, i.size, i.bytes)) = some (some (.int .i64 0), 1, 8) := by kernel_rfl
def encI (x : Nat) : List Value := [.int .i64 x]
def valI (x : Nat) : Value := .int .i64 x
theorem encI_one : ∀ x, encI x = [valI x] := fun _ => rfl
theorem lenI : ∀ x, (encI x).length = 1 := fun _ => rfl
theorem oneI : ∀ x, ∀ u ∈ encI x, u.oneCell' = true := fun x => by simp [encI, Value.oneCell']
theorem Rd.i {w : World} {b off : Nat} {l : List Nat} (f : Rd encI 1 w (some ⟨b, off, none⟩) l) (i : Nat) (hi : i < l.length) : w.cell? ⟨b, off + i, none⟩ = some (.int .i64 (l[i] : Nat)) := by
 have := f.cell i hi 0 _ rfl
 simpa using this
theorem Rd.trimI {w : World} {A : Option Addr} {l : List Nat} (f : Rd encI 1 w A l) : Rd encI 1 w A (trimL l) := by
 rw [trimL_take]; exact f.take _
set_option maxHeartbeats 400000 in
theorem rtrim_any (l : List Nat) (n : Nat) (hn : l.length = n) (A : Option Addr) (c : Nat) (w : World) (hr : Rd encI 1 w A l) (hc : n ≤ c) (hA : A = none → c = 0) (hm : n ≤ 17592186044416) :
 Calls Tryz.prog 84 #[.slice A n c] w (Gives w fun v w' => Ow encI 1 3 w.heap.size w' v (trimL l)) := by
 subst hn
 have HA := As.mk hA
 clear hA
 have hle := trimL_le l
 have HB1 := As.mk (show (([] : List Nat).length + (trimL l).length) * 8 ≤ 140737488355328 from by rw [List.length_nil]; omega)
 have HM1 := As.mk (show ([] : List Nat).length + (trimL l).length ≤ maxLen from by rw [List.length_nil]; simp only [maxLen]; omega)
 go_enter Tryz.func84, Tryz.ntmps84
 go_wp2
 go_loop [3] (fun v => ∃ n : Nat, n ≤ l.length ∧ v = .int .i64 n ∧ As (trimL (l.take n) = trimL l)) (fun v => (intOf v).toNat)
 case atStart => exact ⟨l.length, Nat.le_refl _, rfl, ⟨by rw [List.take_length]⟩⟩
 case round =>
  obtain ⟨n, hn, rfl, ht⟩ := hrel
  cases n with
  | zero =>
    have e0 : (trimL l).length = 0 := by rw [← ht.out]; simp [trimL]
    have hnil : trimL l = [] := List.eq_nil_of_length_eq_zero e0
    go_wp2_with ((with_reducible refine g_dst 21 ?_); go_must (refine ev_append 21 rfl Tryz.underlying89 infoI rfl (by decide) rfl (Ow.nil encI 1 3 w.heap.size w) (A := A) (n := 0) (c := c) rfl (l2 := trimL l) e0 (Rd.trimI hr) lenI oneI HA.out (by simp) (by simp [maxLen]) (Nat.le_refl _) ?_); intro v' w1 ho hg; have hb1 := below_grown hg (Nat.le_refl _) (fun k hk => by cases hk))
    go_ret
    exact ⟨_, rfl, by simpa [hnil] using ho, hb1⟩
  | succ m =>
    obtain ⟨b, off, rfl⟩ := hr.get (ne_nil_of_lt (i := m) (by omega))
    have hcell := Rd.i hr m (by omega)
    have hp : (0 : Int) < (m : Int) + 1 := by omega
    by_cases h0 : l[m] = 0
    · rw [h0] at hcell
      go_wp2
      go_round
      case rel => exact ⟨m, by omega, by go_num, ⟨by rw [← ht.out, trimL_step_zero l m (by omega) h0]⟩⟩
      case measure => simp [intOf]
    · have hb : ((l[m] : Int) == 0) = false := by simp; omega
      have hk := trimL_step_end l m (by omega) h0
      rw [ht.out] at hk
      have Hk := As.mk hk
      clear h0 hk
      go_wp2_with ((with_reducible refine g_dst 21 ?_); go_must (refine ev_append 21 rfl Tryz.underlying89 infoI rfl (by decide) rfl (Ow.nil encI 1 3 w.heap.size w) (A := some ⟨b, off, none⟩) (n := m + 1) (c := c) (by go_simp) (l2 := trimL l) Hk.out (Rd.trimI hr) lenI oneI HA.out (by rw [← Hk.out]; exact HB1.out) (by rw [← Hk.out]; exact HM1.out) (Nat.le_refl _) ?_); intro v' w1 ho hg; have hb1 := below_grown hg (Nat.le_refl _) (fun k hk => by cases hk))
      go_ret
      exact ⟨_, rfl, by simpa using ho, hb1⟩
set_option maxHeartbeats 400000 in
theorem at_any (l : List Nat) (n : Nat) (hn : l.length = n) (A : Option Addr) (c k : Nat) (w : World) (hr : Rd encI 1 w A l) (hc : n ≤ c) (hm : n ≤ 17592186044416) (hk : k ≤ 17592186044416) :
 Calls Tryz.prog 83 #[.slice A n c, .int .i64 k] w fun e w' => e = .returned (.int .i64 ((l.getD k 0 : Nat) : Int)) ∧ w = w' := by
 subst hn
 by_cases h : k < l.length
 · obtain ⟨b, off, rfl⟩ := hr.get (ne_nil_of_lt h)
   have hcell := Rd.i hr k h
   rw [show l.getD k 0 = l[k] by simp [List.getD, List.getElem?_eq_getElem h]]
   go_enter Tryz.func83, Tryz.ntmps83
   go_wp2
   go_ret
   exact ⟨rfl, rfl⟩
 · rw [show l.getD k 0 = 0 by simp [List.getD, List.getElem?_eq_none (Nat.le_of_not_lt h)]]
   go_enter Tryz.func83, Tryz.ntmps83
   go_wp2
   go_ret
   exact ⟨rfl, rfl⟩
set_option maxRecDepth 8000 in
set_option maxHeartbeats 400000 in
theorem half_any (l : List Nat) (n : Nat) (hn : l.length = n) (A : Option Addr) (c : Nat) (w : World) (hr : Rd encU 1 w A l) (hl : ∀ x ∈ l, x < 4294967296) (hc : n ≤ c) (hm : n ≤ 1099511627776) :
 Calls Tryz.prog 85 #[.slice A n c] w (Gives w fun v w' => Ow encI 1 3 w.heap.size w' v (digB 65536 (valB 4294967296 l))) := by
 subst hn
 have HL := As.mk hl
 clear hl
 go_enter Tryz.func85, Tryz.ntmps85
 go_wp2
 go_loopw [3, 4] (fun v u wr => ∃ k : Nat, k ≤ l.length ∧ u = .int .i64 (k : Int) ∧ Below w.heap.size w wr ∧ Ow encI 1 3 w.heap.size wr v (halves (l.take k))) (fun v u _ => l.length - (intOf u).toNat)
 case atStart => exact ⟨0, by omega, rfl, Below.refl _ _, Ow.nil _ _ _ _ _⟩
 case round =>
  obtain ⟨k, hk, rfl, hb, ho⟩ := hrel
  by_cases h : k < l.length
  · obtain ⟨b, off, rfl⟩ := hr.get (ne_nil_of_lt h)
    have hcell := Rd.u (hr.below hb) k h
    have hcw := Rd.u hr k h
    have hx := HL.out _ (List.getElem_mem h)
    have ht := halves_take_succ l k h
    obtain ⟨x, hxe⟩ : ∃ x, x = l[k] := ⟨_, rfl⟩
    rw [← hxe] at hcell hcw hx ht
    obtain ⟨y1, hy1⟩ : ∃ y, y = x % 65536 := ⟨_, rfl⟩
    obtain ⟨y2, hy2⟩ : ∃ y, y = x / 65536 := ⟨_, rfl⟩
    have hy1' : y1 < 65536 := by omega
    have hy2' : y2 < 65536 := by omega
    have e1 : ((x : Int).tmod 65536) = (y1 : Int) := by rw [Int.tmod_eq_emod_of_nonneg (by omega), hy1]; rfl
    have e2 : ((x : Int) / 65536) = (y2 : Int) := by rw [hy2]; rfl
    rw [← hy1, ← hy2] at ht
    have HT := As.mk ht
    have e3 : IntKind.i64.wrap (y1 : Int) = (y1 : Int) := IntWalk.i64_in _ (by omega)
    have e4 : IntKind.u32.wrap (y2 : Int) = (y2 : Int) := IntWalk.u32_in _ (by omega)
    have e5 : IntKind.i64.wrap (y2 : Int) = (y2 : Int) := IntWalk.i64_in _ (by omega)
    clear hxe hy1 hy2 ht
    have hwr := (Below.refl wr.heap.size wr)
    have hcA : ∀ o, (wr.alloc o).drew.cell? ⟨b, off + k, none⟩ = some (.int .u32 (x : Nat)) := fun o => (((hwr.alloc (Nat.le_refl _) o).drew).cell (World.block_lt_of_cell? wr _ hcell)).trans hcell
    have hoA := fun (o : Obj) => ho.below (hwr.alloc (Nat.le_refl _) o).drew
    have hbA : ∀ o, Below w.heap.size w (wr.alloc o).drew := fun o => (hb.alloc hb.size o).drew
    go_wp2
    have HB := As.mk (show ((halves (l.take k)).length + 2) * 8 ≤ 140737488355328 from by rw [halves_len, List.length_take]; omega)
    have HM := As.mk (show (halves (l.take k)).length + 2 ≤ maxLen from by rw [halves_len, List.length_take]; simp only [maxLen]; omega)
    go_region_held3 (fun w' => w'.cell? ⟨b, off + k, none⟩ = some (.int .u32 (x : Nat))) (first | assumption | exact hcA _)
     (((with_reducible refine s_dst 25 ?_); go_must (refine st_append 25 rfl Tryz.underlying89 infoI rfl (by decide) rfl (hoA _) rfl rfl ((Blk.new wr [valI y1, valI y2] 3).drew.rdm (l := [y1, y2]) encI_one) lenI oneI (fun h => by cases h) HB.out HM.out (hbA _).size ?_); intro v' w2 ho2 hg2; have hb2 := (hoA _).grown (hbA _) hg2 (Nat.le_refl _) (hbA _).size; have hc2 := (hb2.cell (World.block_lt_of_cell? w _ hcw)).trans hcw))
    go_wp2
    go_roundw
    case rel => exact ⟨k + 1, by omega, by go_num, hb2, by rw [← HT.out]; exact ho2⟩
    case measure => simp [intOf]; omega
  · have hf : halves (l.take k) = halves l := by rw [List.take_of_length_le (by omega)]
    rw [hf] at ho
    obtain ⟨A', c', rfl, h1, h2⟩ := ho.form
    have hlen := halves_len l
    have hlc : (halves l).length ≤ 17592186044416 := by omega
    clear hlen hf
    have htr := As.mk (trim_halves l HL.out)
    have hrd := ho.rd lenI
    have hn := ho.none
    go_wp2_with (go_at_call 84; (with_reducible refine (rtrim_any (halves l) _ rfl _ _ _ hrd h1 hn hlc).mono ?_); rintro e w2 ⟨v2, rfl, ho2, hb2⟩)
    go_ret
    exact ⟨_, rfl, by rw [← htr.out]; exact ho2.lower hb.size, bthen hb hb2⟩
set_option maxHeartbeats 400000 in
theorem full_any (l : List Nat) (n : Nat) (hn : l.length = n) (A : Option Addr) (c : Nat) (w : World) (hr : Rd encI 1 w A l) (hl : ∀ x ∈ l, x < 65536) (hc : n ≤ c) (hA : A = none → c = 0) (hm : n ≤ 1099511627776) :
 Calls Tryz.prog 74 #[.slice A n c] w (Gives w fun v w' => Ow encU 1 77 w.heap.size w' v (digB 4294967296 (valB 65536 l))) := by
 subst hn
 obtain ⟨L, hL⟩ : ∃ L, L = digB 65536 (valB 65536 l) := ⟨_, rfl⟩
 have htr : As (trimL l = L) := ⟨by rw [hL]; exact trimL_dig 65536 (by omega) l hl⟩
 have hLl : As (∀ x ∈ L, x < 65536) := ⟨by rw [hL]; exact digB_lt 65536 (by omega) _⟩
 have hLe : L.length ≤ l.length := by rw [← htr.out]; exact trimL_le l
 have hP : As (pairs L = digB 4294967296 (valB 65536 l)) := ⟨by rw [hL]; exact pairs_dig _⟩
 clear hL hl
 go_enter Tryz.func74, Tryz.ntmps74
 go_wp2_with (go_at_call 84; (with_reducible refine (rtrim_any l l.length rfl _ _ _ hr hc hA (by omega)).mono ?_); rintro e w1 ⟨v1, rfl, ho1, hb1⟩; rw [htr.out] at ho1; obtain ⟨A1, c1, rfl, h1, h2⟩ := ho1.form; have hr1 := ho1.rd lenI)
 go_loopw [3, 4, 5] (fun v u y wr => ∃ i k : Nat, As (i = 2 * k) ∧ i ≤ L.length + 1 ∧ u = .int .i64 (i : Int) ∧ Below w1.heap.size w1 wr ∧ Ow encU 1 77 w1.heap.size wr v ((pairs L).take k)) (fun v u y _ => L.length + 2 - (intOf u).toNat)
 case atStart => exact ⟨0, 0, ⟨rfl⟩, by omega, rfl, Below.refl _ _, Ow.nil _ _ _ _ _⟩
 case round =>
  obtain ⟨i, k, hik, hi, rfl, hbw, ho⟩ := hrel
  have hkl : k ≤ L.length + 1 := by have := hik.out; omega
  have HB := As.mk (show (((pairs L).take k).length + 1) * 4 ≤ 140737488355328 from by rw [List.length_take, pairs_len]; omega)
  have HM := As.mk (show ((pairs L).take k).length + 1 ≤ maxLen from by rw [List.length_take, pairs_len]; simp only [maxLen]; omega)
  by_cases h : i < L.length
  · obtain ⟨b, off, rfl⟩ := (hr1.below hbw).get (ne_nil_of_lt h)
    have hcell := Rd.i (hr1.below hbw) i h
    have hx := hLl.out _ (List.getElem_mem h)
    obtain ⟨x, hxe⟩ : ∃ x, x = L[i] := ⟨_, rfl⟩
    rw [← hxe] at hcell hx
    by_cases h2 : i + 1 < L.length
    · have hcell2 := Rd.i (hr1.below hbw) (i + 1) h2
      have hy := hLl.out _ (List.getElem_mem h2)
      obtain ⟨y, hye⟩ : ∃ y, y = L[i + 1] := ⟨_, rfl⟩
      rw [← hye] at hcell2 hy
      have ht : As ((pairs L).take k ++ [x + y * 65536] = (pairs L).take (k + 1)) := ⟨by
       have hi2 := hik.out
       subst hi2
       have := pairs_take_two L k h2
       rw [← hxe, ← hye] at this; exact this⟩
      obtain ⟨z, hz⟩ : ∃ z, z = x + y * 65536 := ⟨_, rfl⟩
      rw [← hz] at ht
      have hz2 : ((x : Int) + (y : Int) * 65536) = (z : Int) := by rw [hz]; simp
      have hz3 : z < 4294967296 := by omega
      clear hxe hye hz
      go_wp2_with (first
       | ((with_reducible refine g_dst 35 ?_); go_must (refine ev_lit (v := fun g => .slice (some ⟨g, 0, none⟩) 1 1) 35 rfl (cs := [valU z]) (t := 77) (by go_simp; rfl) ?_); intro g2 w2 hb2 B2 hg2; replace ho := ho.below hb2; have hbw2 := bthen hbw hb2; clear hb2)
       | ((with_reducible refine g_dst 36 ?_); go_must (refine ev_append 36 rfl Tryz.underlying31 infoU rfl (by decide) rfl ho rfl rfl (B2.rdm (l := [z]) encU_one) lenU oneU (fun h => by cases h) HB.out HM.out hbw2.size ?_); intro v3 w3 ho3 hg3; have hbw3 := ho.grown hbw2 hg3 (Nat.le_refl _) hbw2.size))
      go_roundw
      case rel => exact ⟨i + 2, k + 1, ⟨by have := hik.out; omega⟩, by omega, by go_num, hbw3, by rw [← ht.out]; exact ho3⟩
      case measure => simp [intOf]; omega
    · have ht : As ((pairs L).take k ++ [x] = (pairs L).take (k + 1)) := ⟨by
       have hi2 := hik.out
       subst hi2
       have := pairs_take_one L k (by omega)
       rw [← hxe] at this; exact this⟩
      have hx3 : x < 4294967296 := by omega
      clear hxe
      go_wp2_with (first
       | ((with_reducible refine g_dst 35 ?_); go_must (refine ev_lit (v := fun g => .slice (some ⟨g, 0, none⟩) 1 1) 35 rfl (cs := [valU x]) (t := 77) (by go_simp; rfl) ?_); intro g2 w2 hb2 B2 hg2; replace ho := ho.below hb2; have hbw2 := bthen hbw hb2; clear hb2)
       | ((with_reducible refine g_dst 36 ?_); go_must (refine ev_append 36 rfl Tryz.underlying31 infoU rfl (by decide) rfl ho rfl rfl (B2.rdm (l := [x]) encU_one) lenU oneU (fun h => by cases h) HB.out HM.out hbw2.size ?_); intro v3 w3 ho3 hg3; have hbw3 := ho.grown hbw2 hg3 (Nat.le_refl _) hbw2.size))
      go_roundw
      case rel => exact ⟨i + 2, k + 1, ⟨by have := hik.out; omega⟩, by omega, by go_num, hbw3, by rw [← ht.out]; exact ho3⟩
      case measure => simp [intOf]; omega
  · have hf : As ((pairs L).take k = digB 4294967296 (valB 65536 l)) := ⟨by
     rw [List.take_of_length_le (by rw [pairs_len]; have := hik.out; omega)]; exact hP.out⟩
    go_wp2
    go_ret
    exact ⟨_, rfl, by rw [← hf.out]; exact ho.lower hb1.size, bthen hb1 hbw⟩
set_option maxHeartbeats 400000 in
theorem radd_any (l m : List Nat) (n n2 : Nat) (hn : l.length = n) (hn2 : m.length = n2) (A A2 : Option Addr) (c c2 : Nat) (w : World) (hr : Rd encI 1 w A l) (hr2 : Rd encI 1 w A2 m) (hl : ∀ x ∈ l, x < 65536) (hl2 : ∀ x ∈ m, x < 65536) (hc : n ≤ c) (hc2 : n2 ≤ c2) (hm : n ≤ 4398046511104) (hm2 : n2 ≤ 4398046511104) :
 Calls Tryz.prog 72 #[.slice A n c, .slice A2 n2 c2] w (Gives w fun v w' => Ow encI 1 3 w.heap.size w' v (digB 65536 (valB 65536 l + valB 65536 m))) := by
 subst hn hn2
 have HL := As.mk hl
 have HL2 := As.mk hl2
 clear hl hl2
 go_enter Tryz.func72, Tryz.ntmps72
 go_wp2
 go_loopw [5, 6, 7, 8] (fun v y u z wr => ∃ k cy : Nat, ∃ S : List Nat, k ≤ l.length + m.length ∧ cy ≤ 1 ∧ S.length = k ∧ y = .int .i64 (cy : Int) ∧ u = .int .i64 (k : Int) ∧ As (∀ x ∈ S, x < 65536) ∧ As (valB 65536 S + 65536 ^ k * cy = valB 65536 (l.take k) + valB 65536 (m.take k)) ∧ Below w.heap.size w wr ∧ Ow encI 1 3 w.heap.size wr v S) (fun v y u z _ => l.length + m.length - (intOf u).toNat)
 case atStart => exact ⟨0, 0, [], by omega, by omega, rfl, rfl, rfl, ⟨by simp⟩, ⟨by simp [valB]⟩, Below.refl _ _, Ow.nil _ _ _ _ _⟩
 case round =>
  obtain ⟨k, cy, S, hk, hcy, hS, rfl, rfl, hSl, hV, hb, ho⟩ := hrel
  have HB := As.mk (show (S.length + 1) * 8 ≤ 140737488355328 from by rw [hS]; omega)
  have HM := As.mk (show S.length + 1 ≤ maxLen from by rw [hS]; simp only [maxLen]; omega)
  have HS := As.mk hS
  clear hS
  by_cases h : k < l.length
  · have hx := getD_lt 65536 (by omega) l HL.out k
    have hy := getD_lt 65536 (by omega) m HL2.out k
    have hst := add_step 65536 (by omega) l m S k cy HS.out hV.out
    obtain ⟨x, hxe⟩ : ∃ x, x = l.getD k 0 := ⟨_, rfl⟩
    obtain ⟨y, hye⟩ : ∃ y, y = m.getD k 0 := ⟨_, rfl⟩
    have hat1 := at_any l l.length rfl A c k wr (hr.below hb) hc (by omega) (by omega)
    have hat2 := at_any m m.length rfl A2 c2 k wr (hr2.below hb) hc2 (by omega) (by omega)
    rw [← hxe] at hat1 hx hst
    rw [← hye] at hat2 hy hst
    obtain ⟨q1, hq1⟩ : ∃ q, q = (x + y + cy) % 65536 := ⟨_, rfl⟩
    obtain ⟨q2, hq2⟩ : ∃ q, q = (x + y + cy) / 65536 := ⟨_, rfl⟩
    rw [← hq1, ← hq2] at hst
    have e0 : ((x : Int) + (y : Int) + (cy : Int)) = ((x + y + cy : Nat) : Int) := by simp
    have e1 : (((x : Int) + (y : Int) + (cy : Int)).tmod 65536) = (q1 : Int) := by rw [Int.tmod_eq_emod_of_nonneg (by omega), hq1, e0]; rfl
    have e2 : (((x : Int) + (y : Int) + (cy : Int)).tdiv 65536) = (q2 : Int) := by rw [Int.tdiv_eq_ediv_of_nonneg (by omega), hq2, e0]; rfl
    have hq1' : q1 < 65536 := by omega
    have hq2' : q2 ≤ 1 := by omega
    have Hst := As.mk hst
    have Hat1 := As.mk hat1
    have Hat2 := As.mk hat2
    clear hxe hye hq1 hq2 hst hat1 hat2 e0
    have hS2 : As (∀ z ∈ S ++ [q1], z < 65536) := ⟨fun z hz => by
     rcases List.mem_append.1 hz with h | h
     · exact hSl.out z h
     · simp at h; omega⟩
    go_wp2_with (first
     | (go_at_call 83; (with_reducible refine Hat1.out.mono ?_); rintro e w2 ⟨rfl, rfl⟩)
     | (go_at_call 83; (with_reducible refine Hat2.out.mono ?_); rintro e w2 ⟨rfl, rfl⟩)
     | ((with_reducible refine g_dst 33 ?_); go_must (refine ev_lit (v := fun g => .slice (some ⟨g, 0, none⟩) 1 1) 33 rfl (cs := [valI q1]) (t := 3) (by go_simp; rfl) ?_); intro g2 w2 hb2 B2 hg2; replace ho := ho.below hb2; have hbw2 := bthen hb hb2; clear hb2)
     | ((with_reducible refine g_dst 34 ?_); go_must (refine ev_append 34 rfl Tryz.underlying89 infoI rfl (by decide) rfl ho rfl rfl (B2.rdm (l := [q1]) encI_one) lenI oneI (fun h => by cases h) HB.out HM.out hbw2.size ?_); intro v3 w3 ho3 hg3; have hbw3 := ho.grown hbw2 hg3 (Nat.le_refl _) hbw2.size))
    go_roundw
    case rel => exact ⟨k + 1, q2, S ++ [q1], by omega, by omega, by rw [List.length_append, HS.out]; rfl, by go_num, by go_num, hS2, ⟨Hst.out⟩, hbw3, ho3⟩
    case measure => simp [intOf]; omega
  · by_cases h2 : k < m.length
    · have hx := getD_lt 65536 (by omega) l HL.out k
      have hy := getD_lt 65536 (by omega) m HL2.out k
      have hst := add_step 65536 (by omega) l m S k cy HS.out hV.out
      obtain ⟨x, hxe⟩ : ∃ x, x = l.getD k 0 := ⟨_, rfl⟩
      obtain ⟨y, hye⟩ : ∃ y, y = m.getD k 0 := ⟨_, rfl⟩
      have hat1 := at_any l l.length rfl A c k wr (hr.below hb) hc (by omega) (by omega)
      have hat2 := at_any m m.length rfl A2 c2 k wr (hr2.below hb) hc2 (by omega) (by omega)
      rw [← hxe] at hat1 hx hst
      rw [← hye] at hat2 hy hst
      obtain ⟨q1, hq1⟩ : ∃ q, q = (x + y + cy) % 65536 := ⟨_, rfl⟩
      obtain ⟨q2, hq2⟩ : ∃ q, q = (x + y + cy) / 65536 := ⟨_, rfl⟩
      rw [← hq1, ← hq2] at hst
      have e0 : ((x : Int) + (y : Int) + (cy : Int)) = ((x + y + cy : Nat) : Int) := by simp
      have e1 : (((x : Int) + (y : Int) + (cy : Int)).tmod 65536) = (q1 : Int) := by rw [Int.tmod_eq_emod_of_nonneg (by omega), hq1, e0]; rfl
      have e2 : (((x : Int) + (y : Int) + (cy : Int)).tdiv 65536) = (q2 : Int) := by rw [Int.tdiv_eq_ediv_of_nonneg (by omega), hq2, e0]; rfl
      have hq1' : q1 < 65536 := by omega
      have hq2' : q2 ≤ 1 := by omega
      have Hst := As.mk hst
      have Hat1 := As.mk hat1
      have Hat2 := As.mk hat2
      clear hxe hye hq1 hq2 hst hat1 hat2 e0
      have hS2 : As (∀ z ∈ S ++ [q1], z < 65536) := ⟨fun z hz => by
       rcases List.mem_append.1 hz with h | h
       · exact hSl.out z h
       · simp at h; omega⟩
      go_wp2_with (first
       | (go_at_call 83; (with_reducible refine Hat1.out.mono ?_); rintro e w2 ⟨rfl, rfl⟩)
       | (go_at_call 83; (with_reducible refine Hat2.out.mono ?_); rintro e w2 ⟨rfl, rfl⟩)
       | ((with_reducible refine g_dst 33 ?_); go_must (refine ev_lit (v := fun g => .slice (some ⟨g, 0, none⟩) 1 1) 33 rfl (cs := [valI q1]) (t := 3) (by go_simp; rfl) ?_); intro g2 w2 hb2 B2 hg2; replace ho := ho.below hb2; have hbw2 := bthen hb hb2; clear hb2)
       | ((with_reducible refine g_dst 34 ?_); go_must (refine ev_append 34 rfl Tryz.underlying89 infoI rfl (by decide) rfl ho rfl rfl (B2.rdm (l := [q1]) encI_one) lenI oneI (fun h => by cases h) HB.out HM.out hbw2.size ?_); intro v3 w3 ho3 hg3; have hbw3 := ho.grown hbw2 hg3 (Nat.le_refl _) hbw2.size))
      go_roundw
      case rel => exact ⟨k + 1, q2, S ++ [q1], by omega, by omega, by rw [List.length_append, HS.out]; rfl, by go_num, by go_num, hS2, ⟨Hst.out⟩, hbw3, ho3⟩
      case measure => simp [intOf]; omega
    · have ht1 : l.take k = l := List.take_of_length_le (by omega)
      have ht2 : m.take k = m := List.take_of_length_le (by omega)
      have hv2 := hV.out
      rw [ht1, ht2] at hv2
      have htr : As (trimL (S ++ [cy]) = digB 65536 (valB 65536 l + valB 65536 m)) := ⟨by
       rw [trimL_dig 65536 (by omega) _ (fun z hz => by
        rcases List.mem_append.1 hz with h | h
        · exact hSl.out z h
        · simp at h; omega), valB_snoc, HS.out, hv2]⟩
      have hlen : As (S.length + 1 ≤ 17592186044416) := ⟨by rw [HS.out]; omega⟩
      clear ht1 ht2 hv2
      go_wp2_with (first
       | ((with_reducible refine g_dst 39 ?_); go_must (refine ev_lit (v := fun g => .slice (some ⟨g, 0, none⟩) 1 1) 39 rfl (cs := [valI cy]) (t := 3) (by go_simp; rfl) ?_); intro g2 w2 hb2 B2 hg2; replace ho := ho.below hb2; have hbw2 := bthen hb hb2; clear hb2)
       | ((with_reducible refine g_dst 40 ?_); go_must (refine ev_append 40 rfl Tryz.underlying89 infoI rfl (by decide) rfl ho rfl rfl (B2.rdm (l := [cy]) encI_one) lenI oneI (fun h => by cases h) HB.out HM.out hbw2.size ?_); intro v3 w3 ho3 hg3; have hbw3 := ho.grown hbw2 hg3 (Nat.le_refl _) hbw2.size; obtain ⟨A3, c3, rfl, h31, h32⟩ := ho3.form; have hr3 := ho3.rd lenI)
       | (go_at_call 84; (with_reducible refine (rtrim_any (S ++ [cy]) (S.length + 1) (by simp) _ _ _ hr3 (by simpa using h31) ho3.none hlen.out).mono ?_); rintro e w4 ⟨v4, rfl, ho4, hb4⟩))
      go_ret
      exact ⟨_, rfl, by rw [← htr.out]; exact ho4.lower hbw3.size, bthen hbw3 hb4⟩
end Go.Proofs.YtdapbegadhcpcaaGreatDoor
namespace Go.Proofs.YtdapbegadhcpcaaGreatDoorM
def sumV (B : Nat) : List (List Nat) → Nat
 | [] => 0
 | l :: m => valB B l + sumV B m
theorem sumV_append (B : Nat) : ∀ l m, sumV B (l ++ m) = sumV B l + sumV B m
 | [], m => by simp [sumV]
 | x :: l, m => by simp only [List.cons_append, sumV, sumV_append B l m]; omega
theorem sumV_take_succ (B : Nat) (l : List (List Nat)) (k : Nat) (hk : k < l.length) : sumV B (l.take (k + 1)) = sumV B (l.take k) + valB B l[k] := by
 rw [List.take_succ_eq_append_getElem hk, sumV_append]; simp [sumV]
theorem sumV_lt (B N : Nat) (hB : 0 < B) : ∀ L : List (List Nat), (∀ l ∈ L, (∀ x ∈ l, x < B) ∧ l.length ≤ N) → sumV B L + L.length ≤ L.length * B ^ N
 | [], _ => by simp [sumV]
 | l :: m, h => by
   have h1 := sumV_lt B N hB m (fun x hx => h x (List.mem_cons_of_mem _ hx))
   obtain ⟨h2, h3⟩ := h l (List.mem_cons_self ..)
   have h4 := valB_lt B hB l h2
   have h5 : B ^ l.length ≤ B ^ N := Nat.pow_le_pow_right hB h3
   simp only [sumV, List.length_cons, Nat.add_mul, Nat.one_mul]
   omega
theorem sumV_len (N : Nat) (L : List (List Nat)) (h : ∀ l ∈ L, (∀ x ∈ l, x < 4294967296) ∧ l.length ≤ N) (hL : L.length < 281474976710656) : (digB 65536 (sumV 4294967296 L)).length ≤ 2 * N + 3 := by
 refine digB_len_lt 65536 (by omega) _ _ ?_
 have h1 := sumV_lt 4294967296 N (by omega) L h
 have h2 : (4294967296 : Nat) ^ N = 65536 ^ (2 * N) := by rw [Nat.pow_mul]
 rw [h2] at h1
 have h3 : (65536 : Nat) ^ (2 * N + 3) = 65536 ^ (2 * N) * 281474976710656 := by rw [Nat.pow_add]
 rw [h3]
 have hp : 0 < (65536 : Nat) ^ (2 * N) := Nat.pow_pos (by omega)
 have h4 : L.length * 65536 ^ (2 * N) < 281474976710656 * 65536 ^ (2 * N) := Nat.mul_lt_mul_of_pos_right hL hp
 rw [Nat.mul_comm (65536 ^ (2 * N))]
 omega
end Go.Proofs.YtdapbegadhcpcaaGreatDoorM
namespace Go.Proofs.YtdapbegadhcpcaaGreatDoor
open Go.RowKit Go.Proofs.YtdapbegadhcpcaaGreatDoorL Go.Proofs.YtdapbegadhcpcaaGreatDoorM
structure Sl where
 A : Option Addr
 c : Nat
 l : List Nat
def encS (s : Sl) : List Value := [.slice s.A s.l.length s.c]
def valS (s : Sl) : Value := .slice s.A s.l.length s.c
theorem encS_one : ∀ s, encS s = [valS s] := fun _ => rfl
theorem Rd.s {w : World} {b off : Nat} {l : List Sl} (f : Rd encS 1 w (some ⟨b, off, none⟩) l) (i : Nat) (hi : i < l.length) : w.cell? ⟨b, off + i, none⟩ = some (.slice l[i].A l[i].l.length l[i].c) := by
 have := f.cell i hi 0 _ rfl
 simpa using this
structure Sl.Good (s : Sl) (w : World) : Prop where
 rd : Rd encU 1 w s.A s.l
 lt : ∀ x ∈ s.l, x < 4294967296
 cap : s.l.length ≤ s.c
 max : s.l.length ≤ 274877906944
 none : s.A = none → s.c = 0
theorem Sl.Good.below {s : Sl} {w w1 : World} (h : s.Good w) (hb : Below w.heap.size w w1) : s.Good w1 := ⟨h.rd.below hb, h.lt, h.cap, h.max, h.none⟩
theorem sums_len {L : List Sl} {w : World} (h : ∀ s ∈ L, s.Good w) (hL : L.length < 281474976710656) (k : Nat) : (digB 65536 (sumV 4294967296 ((L.map Sl.l).take k))).length ≤ 2 * 274877906944 + 3 := by
 refine sumV_len 274877906944 _ (fun l hl => ?_) (by rw [List.length_take, List.length_map]; omega)
 have := List.mem_of_mem_take hl
 obtain ⟨s, hs, rfl⟩ := List.mem_map.1 this
 exact ⟨(h s hs).lt, (h s hs).max⟩
theorem half_len (l : List Nat) (h : ∀ x ∈ l, x < 4294967296) (hl : l.length ≤ 274877906944) : (digB 65536 (valB 4294967296 l)).length ≤ 4398046511104 := by
 rw [← trim_halves l h]
 refine Nat.le_trans (trimL_le _) ?_
 rw [halves_len]; omega
set_option maxHeartbeats 400000 in
theorem rAdd_any (L : List Sl) (n : Nat) (hn : L.length = n) (A : Option Addr) (c : Nat) (w : World) (hr : Rd encS 1 w A L) (hg : ∀ s ∈ L, s.Good w) (hc : n ≤ c) (hm : n ≤ 1099511627776) :
 Calls Tryz.prog 75 #[.slice A n c] w (Gives w fun v w' => Ow encU 1 77 w.heap.size w' v (digB 4294967296 (sumV 4294967296 (L.map Sl.l)))) := by
 subst hn
 have HG := As.mk hg
 have hlen := As.mk (sums_len hg (by omega))
 clear hg
 go_enter Tryz.func75, Tryz.ntmps75
 go_wp2
 go_loopw [3, 4] (fun v u wr => ∃ k : Nat, ∃ S : List Nat, k ≤ L.length ∧ u = .int .i64 (k : Int) ∧ As (S = digB 65536 (sumV 4294967296 ((L.map Sl.l).take k))) ∧ Below w.heap.size w wr ∧ Ow encI 1 3 w.heap.size wr v S) (fun v u _ => L.length - (intOf u).toNat)
 case atStart => exact ⟨0, [], by omega, rfl, ⟨by simp [sumV, digB_zero]⟩, Below.refl _ _, Ow.nil _ _ _ _ _⟩
 case round =>
  obtain ⟨k, S, hk, rfl, hS, hb, ho⟩ := hrel
  have hSl : As (∀ x ∈ S, x < 65536) := ⟨by rw [hS.out]; exact digB_lt 65536 (by omega) _⟩
  have hSn : S.length ≤ 549755813891 := by rw [hS.out]; exact hlen.out k
  obtain ⟨A1, c1, rfl, h1, h2⟩ := ho.form
  by_cases h : k < L.length
  · obtain ⟨b, off, rfl⟩ := (hr.below hb).get (ne_nil_of_lt h)
    have hcell := Rd.s (hr.below hb) k h
    have hsg := (HG.out _ (List.getElem_mem h)).below hb
    have hsum := sumV_take_succ 4294967296 (L.map Sl.l) k (by simpa using h)
    rw [List.getElem_map] at hsum
    obtain ⟨s, hs⟩ : ∃ s, s = L[k] := ⟨_, rfl⟩
    rw [← hs] at hcell hsg hsum
    obtain ⟨sA, sc, sl⟩ := s
    have Hsum := As.mk hsum
    clear hsum hs
    have hq := As.mk (half_len sl hsg.lt hsg.max)
    go_wp2_with (first
     | (go_at_call 85; (with_reducible refine (half_any sl _ rfl _ _ _ hsg.rd hsg.lt hsg.cap (Nat.le_trans hsg.max (by omega))).mono ?_); rintro e w2 ⟨v2, rfl, ho2, hb2⟩; obtain ⟨A2, c2, rfl, h21, h22⟩ := ho2.form)
     | (go_at_call 72; (with_reducible refine (radd_any S _ _ _ rfl rfl _ _ _ _ _ ((ho.below hb2).rd lenI) (ho2.rd lenI) hSl.out (digB_lt 65536 (by omega) _) h1 h21 (by omega) hq.out).mono ?_); rintro e w3 ⟨v3, rfl, ho3, hb3⟩))
    go_roundw
    case rel => exact ⟨k + 1, _, by omega, by go_num, ⟨by rw [Hsum.out, hS.out, digB_val 65536 (by omega), digB_val 65536 (by omega)]⟩, bthen (bthen hb hb2) hb3, ho3.lower (bthen hb hb2).size⟩
    case measure => simp [intOf]; omega
  · have ht : (L.map Sl.l).take k = L.map Sl.l := List.take_of_length_le (by simp; omega)
    have HS := As.mk (ht ▸ hS.out)
    clear ht
    go_wp2_with (go_at_call 74; (with_reducible refine (full_any S _ rfl _ _ _ (ho.rd lenI) hSl.out h1 ho.none (by omega)).mono ?_); rintro e w2 ⟨v2, rfl, ho2, hb2⟩)
    go_ret
    exact ⟨_, rfl, by have := ho2.lower hb.size; rw [HS.out, digB_val 65536 (by omega)] at this; exact this, bthen hb hb2⟩
end Go.Proofs.YtdapbegadhcpcaaGreatDoor
namespace Go.Proofs.YtdapbegadhcpcaaGreatDoorM
structure Swapped (D X : List Nat) (i : Nat) : Prop where
 len : X.length = D.length
 out : ∀ j, j < D.length → (j < i ∨ D.length ≤ j + i) → X[j]? = D[D.length - 1 - j]?
 mid : ∀ j, i ≤ j → j + i < D.length → X[j]? = D[j]?
theorem Swapped.done {D X : List Nat} {i : Nat} (h : Swapped D X i) (hi : D.length ≤ 2 * i + 1) : X = D.reverse := by
 apply List.ext_getElem?
 intro j
 by_cases hj : j < D.length
 · rw [List.getElem?_reverse hj]
   by_cases h1 : j < i ∨ D.length ≤ j + i
   · exact h.out j hj h1
   · rw [h.mid j (by omega) (by omega)]
     congr 1; omega
 · rw [List.getElem?_eq_none (by rw [h.len]; omega), List.getElem?_eq_none (by simp; omega)]
end Go.Proofs.YtdapbegadhcpcaaGreatDoorM
namespace Go.Proofs.YtdapbegadhcpcaaGreatDoor
open Go.RowKit Go.Proofs.YtdapbegadhcpcaaGreatDoorL Go.Proofs.YtdapbegadhcpcaaGreatDoorM
theorem infoB : (Tryz.prog.info? 5).map (fun i => (i.zero, i.size, i.bytes)) = some (some (.int .u8 0), 1, 1) := by kernel_rfl
def encB (x : Nat) : List Value := [.int .u8 x]
def valB8 (x : Nat) : Value := .int .u8 x
theorem lenB : ∀ x, (encB x).length = 1 := fun _ => rfl
theorem oneB : ∀ x, ∀ u ∈ encB x, u.oneCell' = true := fun x => by simp [encB, Value.oneCell']
def sB (l : List Nat) : ByteArray := strOfNums (l.map Int.ofNat)
theorem Rd.b {w : World} {b off : Nat} {l : List Nat} (f : Rd encB 1 w (some ⟨b, off, none⟩) l) (i : Nat) (hi : i < l.length) : w.cell? ⟨b, off + i, none⟩ = some (.int .u8 (l[i] : Nat)) := by
 have := f.cell i hi 0 _ rfl
 simpa using this
theorem conv_bytes {P : Program} {w : World} {src dst e : TypeId} {b off cap : Nat} {l : List Nat} (hs : P.underlying src = some (.slice e)) (he : P.underlying e = some (.int .u8)) (hd : P.underlying dst = some .string) (hr : Rd encB 1 w (some ⟨b, off, none⟩) l) :
 (convert src dst (.slice (some ⟨b, off, none⟩) l.length cap)).run P w = .ok (.string (sB l)) w := by
 refine run_convert_bytes_arg w src e hs he b off l.length cap (l.map Int.ofNat) (by simp) (fun i hi => ?_) dst hd
 rw [Rd.b hr i hi]
 simp [List.getD, List.getElem?_eq_getElem hi]
end Go.Proofs.YtdapbegadhcpcaaGreatDoor
