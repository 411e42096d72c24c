import Derived.Test.YtgeokccfobmeiaaGreatDoorShelf
import Derived.Test.YtgeokccfobmeiaaGreatDoorMB
import Derived.Lib.ItoaMem
import Derived.Lib.AppendStr
import Derived.Lib.Builder
import Derived.Lib.ItoaNum
import Derived.Lib.AppendIntMem
import Derived.Lib.BitFns
/- strconv.FormatUint at base 10; strings.Builder's copyCheck and WriteString in this program. -/
namespace Go.Proofs.YtgeokccfobmeiaaGreatDoor
open Go.RowKit Go.Proofs.YtgeokccfobmeiaaGreatDoorL Go.Proofs.YtgeokccfobmeiaaGreatDoorM
open Go.Sort hiding Below
set_option linter.unusedVariables false
set_option linter.unusedSimpArgs false
theorem tabIs_below {P : Program} {w w1 : World} {name : String} {k : IntKind} {zs : List Int} (h : Lib.TabIs P w name k zs) (hb : Below w.heap.size w w1) : Lib.TabIs P w1 name k zs := by
  unfold Lib.TabIs World.var? at *
  cases hg : P.globalNamed name with
  | none => simp [hg] at h
  | some g =>
    simp only [hg, Option.bind_some] at h ⊢
    have hlt : g < w.heap.size := by
      rcases Nat.lt_or_ge g w.heap.size with h' | h'
      · exact h'
      · rw [Array.getElem?_eq_none h'] at h; simp at h
    rw [hb.block g hlt]
    exact h
/-- the table of powers of ten lies as its initialiser lays it -/
def Tab (w : World) : Prop := Lib.TabIs Tryz.prog w "internal/strconv.uint64pow10" .u64 Lib.pow10Tab
theorem Tab.below {w w1 : World} (h : Tab w) (hb : Below w.heap.size w w1) : Tab w1 := tabIs_below h hb
theorem Tab.is {w : World} (h : Tab w) : Lib.TabIs Tryz.prog w "internal/strconv.uint64pow10" .u64 Lib.pow10Tab := h
theorem below_drewN {B n : Nat} {w w1 : World} (h : Below B w w1) : Below B w (w1.drewN n) := ⟨h.os, h.tape, h.output, h.size, h.block⟩
theorem below_putRow {α : Type} [Inhabited α] (enc : α → Value) {B : Nat} {w w1 : World} (h : Below B w w1) (g off : Nat) (d : Array α) (hg : B ≤ g) : Below B w (putRow enc w1 g off d) :=
  ⟨h.os, h.tape, h.output, by rw [size_putRow]; exact h.size, fun k hk => by
    rw [← h.block k hk]
    simp only [putRow, mapBlock]
    rw [Array.getElem?_modify, if_neg (by omega)]⟩
theorem infoA : (Tryz.prog.info? 115).map (fun i => (i.zero, i.size, i.bytes)) = some (some (.agg Lib.zeros24), 24, 24) := by kernel_rfl
theorem blk_holds {w : World} {g : Nat} {t : TypeId} (f : Blk w g Lib.zeros24.toList t) (nd : Nat) (hs : nd ≤ 24) : Holds (fun (b : UInt8) => Value.int .u8 (b.toNat : Int)) w g 0 (Array.replicate nd (0 : UInt8)) := fun j hj => by
  have hj' : j < nd := by simpa using hj
  refine ⟨?_, f.free _⟩
  rw [f.cells, Array.getElem?_toList, Nat.zero_add, Lib.zeros24_at _ (by omega), getElem!_pos _ j hj]
  simp
theorem base10_at (u g : Nat) (w : World) (B : Blk w g Lib.zeros24.toList 115) (hs : ¬ u < 100) (hu : u < 18446744073709551616) :
    Calls Tryz.prog 79 #[.slice (some ⟨g, 0, none⟩) (Lib.nDigits u) 24, .int .u64 u] w fun e w' => e = .returned (.tuple #[]) ∧ Below g w w' ∧
      (convert 29 9 (.slice (some ⟨g, 0, none⟩) (Lib.nDigits u) 24)).run Tryz.prog w' = .ok (.string ⟨(Lib.decDigits u).toArray⟩) w' := by
  have hnd20 : Lib.nDigits u ≤ 20 := by have := Lib.numDigits_eq u (by omega) hu; split at this <;> omega
  have hH := blk_holds B (Lib.nDigits u) (by omega)
  have hfmt := Tryz.internal_strconv_formatBase10 g 0 24 u (Array.replicate (Lib.nDigits u) 0) w hH (by rw [Array.size_replicate]; exact Lib.lt_pow_nDigits u) hu (by rw [Array.size_replicate]; omega)
  rw [Array.size_replicate] at hfmt
  refine hfmt.mono ?_
  rintro e w' ⟨rfl, k, v', dk, rfl, hF⟩
  refine ⟨rfl, below_drewN (below_putRow _ (Below.refl _ _) _ _ _ (Nat.le_refl _)), ?_⟩
  have h := run_convert_bytes_back (P := Tryz.prog) ((putRow (fun (b : UInt8) => Value.int .u8 (b.toNat : Int)) w g 0 dk).drewN k) 29 9 5 ⟨g, 0, none⟩ 24 (Lib.decDigits u) Tryz.underlying29 Tryz.underlying5 Tryz.underlying9 (fun j hj => by
    rw [Lib.row_is_numeral hF j hj, Lib.add_plain, World.cell?_drewN]
    exact cell?_putRow (fun (b : UInt8) => Value.int .u8 (b.toNat : Int)) _ g 0 _ dk hH (by rw [hF.size, Array.size_replicate]) j (by rw [hF.size]; rw [Lib.decDigits_length] at hj; exact hj))
  rw [Lib.decDigits_length] at h
  exact h
set_option maxHeartbeats 400000 in
theorem fmtInner (u : Nat) (w : World) (hu : u < 18446744073709551616) (htab : Tab w) :
    Calls Tryz.prog 64 #[.int .u64 u, .int .i64 10] w (Gives w fun v w' => v = .string ⟨(Lib.decDigits u).toArray⟩) := by
  by_cases hs : u < 100
  · go_enter Tryz.func64, Tryz.ntmps64
    go_wp2_with (go_at_call 77; (with_reducible refine (Tryz.internal_strconv_small u hs _).mono ?_); rintro e w' ⟨rfl, rfl⟩)
    go_ret
    exact ⟨_, rfl, rfl, Below.refl _ _⟩
  · have hu1 : 1 ≤ u := by omega
    have hnd20 : Lib.nDigits u ≤ 20 := by have := Lib.numDigits_eq u hu1 hu; split at this <;> omega
    have hal : Tryz.prog.arrayLen 115 = 24 := by kernel_rfl
    have hsl : ∀ (W : World) (g : Nat), (Instr.sliceAt 115 (.pointer (some ⟨g, 0, none⟩)) none (some (.int .i64 (Lib.nDigits u : Int))) none).run Tryz.prog W = .ok (.slice (some ⟨g, 0, none⟩) (Lib.nDigits u) 24) W := fun W g => by
      rw [run_sliceAt_array_h W 115 ⟨g, 0, none⟩ (by simp [Program.arrayLen, Program.elem, Tryz.underlying115]) .i64 (Lib.nDigits u : Int) (by omega) (by rw [hal]; omega)]
      go_simp
    have HT := As.mk htab
    have Hnd := As.mk hnd20
    clear htab hal
    go_enter Tryz.func64, Tryz.ntmps64
    go_wp2_with (first
      | ((with_reducible refine g_dst 5 ?_); go_must (refine ev_alloc 5 rfl infoA (cs := Lib.zeros24.toList) rfl ?_); intro g w1 hb1 B1 hg1)
      | (go_at_call 78; (with_reducible refine (Tryz.internal_strconv_numDigits u hu1 hu _ (Tab.is (HT.out.below hb1))).mono ?_); rintro e w' ⟨rfl, rfl⟩)
      | (go_at_call 79; (with_reducible refine (base10_at u g _ B1 hs hu).mono ?_); rintro e w3 ⟨rfl, hb3, hcv⟩))
    go_ret
    exact ⟨_, rfl, rfl, hb1.trans (hb3.mono hg1)⟩
set_option maxHeartbeats 400000 in
theorem fmtU_any (u : Nat) (w : World) (hu : u < 18446744073709551616) (htab : Tab w) :
    Calls Tryz.prog 51 #[.int .u64 u, .int .i64 10] w (Gives w fun v w' => v = .string ⟨(Lib.decDigits u).toArray⟩) := by
  go_enter Tryz.func51, Tryz.ntmps51
  go_wp2_with (go_at_call 64; (with_reducible refine (fmtInner u _ hu htab).mono ?_); rintro e w1 ⟨v, rfl, rfl, hb⟩)
  go_ret
  exact ⟨_, rfl, rfl, hb⟩
theorem bldSize : (Tryz.prog.info? 88).map (·.size) = some 2 := by kernel_rfl
theorem bldLies : liesAt Tryz.prog Tryz.prog.depth 88 (2 / Tryz.prog.cellsOf 88) 0 88 1 = true := by kernel_rfl
set_option maxRecDepth 100000 in
theorem bld_check_used (b : Nat) (w : World) (h0 : w.cell? ⟨b, 0, none⟩ = some (.pointer (some ⟨b, 0, none⟩))) :
    Calls Tryz.prog 65 #[.pointer (some ⟨b, 0, none⟩)] w fun e w' => e = .returned (.tuple #[]) ∧ w' = w := by
  obtain ⟨j, hj, _⟩ := Option.map_eq_some_iff.1 bldSize
  go_enter Tryz.func65, Tryz.ntmps65
  go_wp2
  rw [Lib.run_neq_ptr_same w _ Tryz.underlying86 hj]
  go_wp2
  go_end0
  exact ⟨rfl, rfl⟩
set_option maxHeartbeats 1000000 in
set_option maxRecDepth 100000 in
theorem bld_check_fresh (b : Nat) (w : World) (h0 : w.cell? ⟨b, 0, none⟩ = some (.pointer none)) (hsh : w.shape? b = some (88, 2)) (hfz : w.frozen? ⟨b, 0, none⟩ = false) :
    Calls Tryz.prog 65 #[.pointer (some ⟨b, 0, none⟩)] w fun e w' => e = .returned (.tuple #[]) ∧ w' = w.setCell ⟨b, 0, none⟩ (.pointer (some ⟨b, 0, none⟩)) := by
  obtain ⟨j, hj, hjs⟩ := Option.map_eq_some_iff.1 bldSize
  go_enter Tryz.func65, Tryz.ntmps65
  go_wp2
  rw [Lib.run_to_unsafe w ⟨b, 0, none⟩ Tryz.underlying86 Tryz.underlying120 hj (by rw [hjs]; decide) hsh (Nat.zero_lt_succ 1)]
  simp only [Result.andThen]
  rw [Oper.upon_value]
  go_wp2
  rw [run_callFunc_extern Tryz.func81 (by kernel_rfl) (by kernel_rfl) (by kernel_rfl) (e := Extern.AbiNoEscape.same) (by kernel_rfl)]
  rw [Lib.run_noEscape]
  simp only [Result.andThen]
  rw [Oper.upon_value]
  go_wp2
  rw [Lib.run_from_unsafe w ⟨b, 0, none⟩ Tryz.underlying120 Tryz.underlying86 hj hsh bldLies]
  simp only [Result.andThen]
  rw [Oper.upon_value]
  go_wp2
  go_end0
  exact ⟨rfl, rfl⟩
theorem bld_copyCheck (B b : Nat) (bs : List Value) (w : World) (h : Lib.IsBuilder 88 5 B b bs w) :
    Calls Tryz.prog 65 #[.pointer (some ⟨b, 0, none⟩)] w fun e w' => e = .returned (.tuple #[]) ∧ (Lib.BuilderAt 88 5 B b (.pointer (some ⟨b, 0, none⟩)) bs w' ∧ Below B w w') := by
  rcases h with h | h
  · refine (bld_check_fresh b w h.cell0 h.shape h.frozen0).mono ?_
    rintro e w' ⟨rfl, rfl⟩
    exact ⟨rfl, h.used _, (Below.refl B w).setCell (p := ⟨b, 0, none⟩) h.1 _⟩
  · refine (bld_check_used b w h.cell0).mono ?_
    rintro e w' ⟨rfl, rfl⟩
    exact ⟨rfl, h, Below.refl B _⟩
set_option maxHeartbeats 1000000 in
theorem bld_WriteString (B b : Nat) (bs : List Value) (s : ByteArray) (w : World) (h : Lib.IsBuilder 88 5 B b bs w) (hlen : bs.length + s.size ≤ 140737488355328) (hBw : B ≤ w.heap.size) :
    Calls Tryz.prog 52 #[.pointer (some ⟨b, 0, none⟩), .string s] w fun e w' => e = .returned (.tuple #[.int .i64 s.size, .nilIface]) ∧ (Lib.BuilderAt 88 5 B b (.pointer (some ⟨b, 0, none⟩)) (bs ++ Lib.strCells s) w' ∧ Below B w w') := by
  obtain ⟨i0, hi, hz0, hz1, hz2⟩ := info_parts infoB
  go_enter Tryz.func52, Tryz.ntmps52
  go_wp2_with (go_at_call 65; refine (bld_copyCheck B b bs _ h).mono ?_)
  rintro e w1 ⟨rfl, h1, hb1⟩
  obtain ⟨hB, v, hbk, hown, hne⟩ := h1
  have c0 : w1.cell? ⟨b, 0, none⟩ = some (.pointer (some ⟨b, 0, none⟩)) := by rw [Lib.cell_of_heap hbk]; rfl
  have c1 : w1.cell? ⟨b, 1, none⟩ = some v := by rw [Lib.cell_of_heap hbk]; rfl
  go_wp2_with (at_builtin; refine Lib.wpList_append_own_string _ rfl _ _ 29 9 rfl B 5 i0 Tryz.underlying29 Tryz.underlying9 hi hz0 hz1 hz2 _ _ _ rfl hown s rfl ?c3 ?c4 ?c5 ?_)
  case c3 => unfold maxLen; omega
  case c4 => omega
  case c5 => have := hb1.size; omega
  intro v' w2 hown' hgrow _
  have hlt : b < w1.heap.size := by
    rcases Nat.lt_or_ge b w1.heap.size with h' | h'
    · exact h'
    · simp [Array.getElem?_eq_none h'] at hbk
  have hb2 : w2.heap[b]? = some (.cells #[.pointer (some ⟨b, 0, none⟩), v] 88 (0, 0)) := by
    rw [hgrow.block b hlt (fun e => hne e.symm)]
    exact hbk
  have d0 : w2.cell? ⟨b, 0, none⟩ = some (.pointer (some ⟨b, 0, none⟩)) := by rw [Lib.cell_of_heap hb2]; rfl
  have d1 : w2.cell? ⟨b, 1, none⟩ = some v := by rw [Lib.cell_of_heap hb2]; rfl
  have f1 : w2.frozen? ⟨b, 1, none⟩ = false := Lib.frozen_of_heap hb2 1
  obtain ⟨ao, n', cap, rfl⟩ : ∃ ao n' cap, v' = .slice ao n' cap := by
    rcases hown'.2 with ⟨hv, _⟩ | ⟨g, cap, cur, hv, _⟩
    · exact ⟨_, _, _, hv⟩
    · exact ⟨_, _, _, hv⟩
  go_wp2
  go_ret2
  refine ⟨rfl, ?_, ?_⟩
  · exact Lib.BuilderAt.put (T := 88) (e := 5) hB hb2 (bs' := bs ++ Lib.strCells s) (by simpa [Lib.strCells_length] using hown') (by decide)
  · exact (hb1.grown hgrow (by have := hb1.size; omega) (fun k hk => (hown.lt k hk).1)).setCell (p := ⟨b, 1, none⟩) hB _
end Go.Proofs.YtgeokccfobmeiaaGreatDoor
/- Decimal digits, nine at a time. Plain mathematics. -/
namespace Go.Proofs.YtgeokccfobmeiaaGreatDoorM
set_option linter.unusedVariables false
set_option linter.unusedSimpArgs false
open Go.Lib
/-- just k digits -/
def padD : Nat → Nat → List UInt8
  | 0, _ => []
  | k + 1, r => padD k (r / 10) ++ [UInt8.ofNat (48 + r % 10)]
theorem decDigits_big {u : Nat} (h : ¬ u < 10) : decDigits u = decDigits (u / 10) ++ [UInt8.ofNat (48 + u % 10)] := by rw [decDigits, dif_neg h]
theorem dec_split : ∀ (k v : Nat), 0 < v / 10 ^ k → decDigits v = decDigits (v / 10 ^ k) ++ padD k (v % 10 ^ k)
  | 0, v, _ => by simp [padD]
  | k + 1, v, h => by
    have e1 : v / 10 ^ (k + 1) = v / 10 / 10 ^ k := by rw [Nat.pow_succ, Nat.mul_comm, Nat.div_div_eq_div_mul]
    have e2 : v % 10 ^ (k + 1) / 10 = v / 10 % 10 ^ k := by rw [Nat.pow_succ, Nat.mul_comm, Nat.mod_mul_right_div_self]
    have e3 : v % 10 ^ (k + 1) % 10 = v % 10 := by rw [Nat.pow_succ]; exact Nat.mod_mul_left_mod _ _ _
    have hv : ¬ v < 10 := by
      intro hlt
      rw [e1, Nat.div_eq_of_lt hlt] at h
      simp at h
    rw [e1] at h ⊢
    rw [decDigits_big hv, dec_split k (v / 10) h, padD, e2, e3, List.append_assoc]
theorem padD_eq : ∀ (k r : Nat), r < 10 ^ (k + 1) → padD (k + 1) r = List.replicate (k + 1 - (decDigits r).length) 48 ++ decDigits r
  | 0, r, h => by
    have h10 : r < 10 := by simpa using h
    rw [decDigits_one h10]
    simp [padD, Nat.mod_eq_of_lt h10]
  | k + 1, r, h => by
    rw [padD]
    by_cases h10 : r < 10
    · rw [Nat.div_eq_of_lt h10, padD_eq k 0 (Nat.pow_pos (by omega)), decDigits_one h10, decDigits_one (by omega), Nat.mod_eq_of_lt h10]
      simp only [List.length_singleton, List.append_assoc]
      rw [show k + 1 + 1 - 1 = (k + 1 - 1) + 1 by omega, List.replicate_succ', List.append_assoc]
      rfl
    · rw [padD_eq k (r / 10) (by rw [Nat.div_lt_iff_lt_mul (by omega)]; rwa [Nat.pow_succ] at h), decDigits_big h10, List.append_assoc]
      simp
theorem padD_len : ∀ k r, (padD k r).length = k
  | 0, _ => rfl
  | k + 1, r => by simp [padD, padD_len k]
theorem dec_len9 (r : Nat) (h : r < 1000000000) : (decDigits r).length ≤ 9 := by
  have h1 := padD_eq 8 r (by simpa using h)
  have h2 := congrArg List.length h1
  rw [padD_len, List.length_append] at h2
  omega
/-- the text of limbs of nine digits, the lowest first -/
def joinL : List (List UInt8) → List UInt8
  | [] => []
  | [x] => x
  | x :: y :: l => joinL (y :: l) ++ (List.replicate (9 - x.length) 48 ++ x)
theorem joinL_dec (v : Nat) (hv : 0 < v) : joinL ((digB 1000000000 v).map decDigits) = decDigits v := by
  induction v using Nat.strongRecOn with
  | ind v ih =>
    rw [digB_pos _ _ (by omega) hv]
    by_cases h : v < 1000000000
    · rw [Nat.div_eq_of_lt h, digB_zero, Nat.mod_eq_of_lt h]; rfl
    · have hq : 0 < v / 1000000000 := Nat.div_pos (by omega) (by omega)
      have hi := ih (v / 1000000000) (Nat.div_lt_self hv (by omega)) hq
      rw [digB_pos _ _ (by omega) hq] at hi ⊢
      rw [List.map_cons, List.map_cons, joinL, ← List.map_cons, hi]
      rw [dec_split 9 v (by simpa using hq), padD_eq 8 _ (Nat.mod_lt _ (by omega))]
theorem joinL_cons (x : List UInt8) (l : List (List UInt8)) (h : l ≠ []) : joinL (x :: l) = joinL l ++ (List.replicate (9 - x.length) 48 ++ x) := by
  cases l with
  | nil => exact absurd rfl h
  | cons y l => rfl
theorem joinL_len : ∀ l : List (List UInt8), (∀ x ∈ l, x.length ≤ 9) → (joinL l).length ≤ 9 * l.length
  | [], _ => by simp [joinL]
  | [x], h => by simpa [joinL] using h x (by simp)
  | x :: y :: l, h => by
    have h1 := joinL_len (y :: l) (fun z hz => h z (List.mem_cons_of_mem _ hz))
    have h2 := h x (by simp)
    simp only [joinL, List.length_append, List.length_replicate, List.length_cons] at *
    omega
theorem decL_dec (v : Nat) : (decL v).map UInt8.ofNat = decDigits v := by
  rcases Nat.eq_zero_or_pos v with rfl | hv
  · rw [decL, if_pos rfl, decDigits_one (by omega)]; rfl
  · rw [decL_pos hv]
    induction v using Nat.strongRecOn with
    | ind v ih =>
      rw [digB_pos _ _ (by omega) hv]
      by_cases h : v < 10
      · rw [Nat.div_eq_of_lt h, digB_zero, Nat.mod_eq_of_lt h, decDigits_one h]; rfl
      · rw [decDigits_big h, ← ih (v / 10) (Nat.div_lt_self hv (by omega)) (Nat.div_pos (by omega) (by omega))]
        simp
theorem pow32_le (n : Nat) : (4294967296 : Nat) ^ n ≤ 1000000000 ^ (2 * n) := by
  rw [Nat.pow_mul]; exact Nat.pow_le_pow_left (by omega) n
theorem dig9_len (l : List Nat) (h : ∀ x ∈ l, x < 4294967296) : (digB 1000000000 (valB 4294967296 l)).length ≤ 2 * l.length :=
  digB_len_lt 1000000000 (by omega) _ _ (Nat.lt_of_lt_of_le (valB_lt 4294967296 (by omega) l h) (pow32_le _))
theorem piece_step {β : Type} (f : Nat → β) (x : Nat) (hx : 0 < x) (E bs : List β) (h : E = bs ++ (digB 1000000000 x).map f) : E = (bs ++ [f (x % 1000000000)]) ++ (digB 1000000000 (x / 1000000000)).map f := by
  rw [h, digB_pos 1000000000 x (by omega) hx, List.append_assoc]; rfl
end Go.Proofs.YtgeokccfobmeiaaGreatDoorM
/- nat.Text: the decimal digits. -/
namespace Go.Proofs.YtgeokccfobmeiaaGreatDoor
open Go.RowKit Go.Proofs.YtgeokccfobmeiaaGreatDoorL Go.Proofs.YtgeokccfobmeiaaGreatDoorM
set_option linter.unusedVariables false
set_option linter.unusedSimpArgs false
theorem infoT : (Tryz.prog.info? 9).map (fun i => (i.zero, i.size, i.bytes)) = some (some (.string ⟨#[]⟩), 1, 16) := by kernel_rfl
theorem infoBld : (Tryz.prog.info? 88).map (fun i => (i.zero, i.size, i.bytes)) = some (some (.agg #[.pointer none, .slice none 0 0]), 2, 32) := by kernel_rfl
def encT (x : List UInt8) : List Value := [.string ⟨x.toArray⟩]
def valT (x : List UInt8) : Value := .string ⟨x.toArray⟩
theorem encT_one : ∀ x, encT x = [valT x] := fun _ => rfl
theorem lenT : ∀ x, (encT x).length = 1 := fun _ => rfl
theorem oneT : ∀ x, ∀ u ∈ encT x, u.oneCell' = true := fun x => by simp [encT, Value.oneCell']
theorem Rd.t {w : World} {b off : Nat} {l : List (List UInt8)} (f : Rd encT 1 w (some ⟨b, off, none⟩) l) (i : Nat) (hi : i < l.length) : w.cell? ⟨b, off + i, none⟩ = some (.string ⟨l[i].toArray⟩) := by
  have := f.cell i hi 0 _ rfl
  simpa using this
theorem smallN (l : List Nat) (n : Nat) (hn : l.length = n) (A : Option Addr) (c : Nat) (w : World) (hr : Rd encU 1 w A l) (hl : ∀ x ∈ l, x < 4294967296) (hc : n ≤ c) (hm : n * 4 ≤ 140737488355328) :
    Calls Tryz.prog 50 #[.slice A n c, .int .u32 1000000000] w (Gives w fun v w' => ∃ q, v = .tuple #[q, .int .u32 ((valB 4294967296 l % 1000000000 : Nat) : Int)] ∧ Ow encU 1 71 w.heap.size w' q (digB 4294967296 (valB 4294967296 l / 1000000000))) := by
  subst hn
  exact small_any l A c 1000000000 w hr hl (by omega) (by omega) hc hm
theorem fmtN (u : Nat) (w : World) (hu : u < 18446744073709551616) (htab : Tab w) :
    Calls Tryz.prog 51 #[.int .u64 u, .int .i64 10] w (Gives w fun v w' => v = .string ⟨(Lib.decDigits u).toArray⟩) := fmtU_any u w hu htab
theorem rep0 (c : Nat) (w : World) (hc : c ≤ 9) : Calls Tryz.prog 53 #[.string ⟨#[48]⟩, .int .i64 c] w (Gives w fun v w' => v = .string ⟨(List.replicate c (48 : UInt8)).toArray⟩) := by
  refine (Tryz.strings_Repeat ⟨#[48]⟩ c w (by omega) (by show 1 * c ≤ _; omega)).mono ?_
  rintro e w' ⟨rfl, hb⟩
  refine ⟨_, rfl, ?_, hb⟩
  have : ∀ n, Lib.repeatL [48] n = List.replicate n (48 : UInt8) := fun n => by
    induction n with
    | zero => rfl
    | succ n ih => rw [Lib.repeatL, ih]; rfl
  rw [show (ByteArray.mk #[48]).data.toList = [48] from rfl, this]
def IsB (B b : Nat) (l : List UInt8) (w : World) : Prop := Lib.IsBuilder 88 5 B b (Lib.byteCells l) w
theorem bldW (B b : Nat) (l x : List UInt8) (w : World) (h : IsB B b l w) (hlen : l.length + x.length ≤ 140737488355328) (hBw : B ≤ w.heap.size) :
    Calls Tryz.prog 52 #[.pointer (some ⟨b, 0, none⟩), .string ⟨x.toArray⟩] w fun e w' => (∃ z : Int, e = .returned (.tuple #[.int .i64 z, .nilIface])) ∧ IsB B b (l ++ x) w' ∧ Below B w w' := by
  refine (bld_WriteString B b (Lib.byteCells l) ⟨x.toArray⟩ w h (by rw [show (Lib.byteCells l).length = l.length by simp [Lib.byteCells], show (ByteArray.mk x.toArray).size = x.length by simp [ByteArray.size]]; exact hlen) hBw).mono ?_
  rintro e w' ⟨rfl, h1, h2⟩
  refine ⟨⟨_, rfl⟩, .inr ?_, h2⟩
  rw [Lib.strCells_toArray] at h1
  rw [show Lib.byteCells (l ++ x) = Lib.byteCells l ++ Lib.byteCells x by simp [Lib.byteCells]]
  exact h1
theorem bldS (B b : Nat) (l : List UInt8) (w : World) (h : IsB B b l w) (hBw : B ≤ w.heap.size) :
    Calls Tryz.prog 54 #[.pointer (some ⟨b, 0, none⟩)] w fun e w' => e = .returned (.string ⟨l.toArray⟩) ∧ Below B w w' := Tryz.Builder_String_any B b l w h hBw
theorem blk_isB {w : World} {g B : Nat} (f : Blk w g [.pointer none, .slice none 0 0] 88) (hB : B ≤ g) : IsB B g [] w :=
  .inl ⟨hB, _, f.h, World.ownsRow_nil w B 5 1, by simp [Value.ownBlock]⟩
theorem IsB.below {B b : Nat} {l : List UInt8} {w w1 : World} (h : IsB B b l w) (hb : Below w.heap.size w w1) : IsB B b l w1 := by
  have key : ∀ p, Lib.BuilderAt 88 5 B b p (Lib.byteCells l) w → Lib.BuilderAt 88 5 B b p (Lib.byteCells l) w1 := fun p h => by
    have hlt := h.lt
    obtain ⟨h1, v, h2, h3, h4⟩ := h
    refine ⟨h1, v, (hb.block b hlt).trans h2, ⟨h3.1, ?_⟩, h4⟩
    rcases h3.2 with h5 | ⟨g, cap, cur, hv, hg, hh, r⟩
    · exact .inl h5
    · exact .inr ⟨g, cap, cur, hv, hg, (hb.block g (Array.getElem?_eq_some_iff.1 hh).1).trans hh, r⟩
  rcases h with h | h
  · exact .inl (key _ h)
  · exact .inr (key _ h)
set_option maxHeartbeats 1000000 in
theorem nText_any (l : List Nat) (n : Nat) (hn : l.length = n) (A : Option Addr) (c : Nat) (w : World) (htab : Tab w) (hr : Rd encU 1 w A l) (hl : ∀ x ∈ l, x < 4294967296) (hc : n ≤ c) (hA : A = none → c = 0) (hm : n ≤ 274877906944) :
    Calls Tryz.prog 36 #[.slice A n c] w (Gives w fun v w' => v = .string ⟨(Lib.decDigits (valB 4294967296 l)).toArray⟩) := by
  subst hn
  obtain ⟨V, hV⟩ : ∃ V, V = valB 4294967296 l := ⟨_, rfl⟩
  rw [← hV]
  have htr := trimL_dig 4294967296 (by omega) l hl
  rw [← hV] at htr
  have hlen : (digB 4294967296 V).length ≤ 274877906944 := by rw [← htr]; exact Nat.le_trans (trimL_le l) hm
  have h9 := dig9_len l hl
  rw [← hV] at h9
  obtain ⟨E, hE⟩ : ∃ E, E = (digB 1000000000 V).map Lib.decDigits := ⟨_, rfl⟩
  have hEl : E.length ≤ 549755813888 := by rw [hE, List.length_map]; omega
  have hE9 : As (∀ x ∈ E, x.length ≤ 9) := ⟨fun x hx => by
    rw [hE] at hx
    obtain ⟨r, hr, rfl⟩ := List.mem_map.1 hx
    exact dec_len9 r (digB_lt 1000000000 (by omega) V r hr)⟩
  have Htr := As.mk htr
  have HV := As.mk hV
  have HE := As.mk hE
  have HA := As.mk hA
  have HT := As.mk htab
  clear htr hV hE h9 hl hA htab
  go_enter Tryz.func36, Tryz.ntmps36
  go_wp2_with (go_at_call 49; (with_reducible refine (own_any l _ _ _ hr hc HA.out (by omega)).mono ?_); rintro e w1 ⟨v1, rfl, ho1, hb1⟩; rw [Htr.out] at ho1; obtain ⟨A1, c1, rfl, h11, h12⟩ := ho1.form)
  go_loopw [0, 3, 4] (fun v u y wr => ∃ x : Nat, ∃ ds : List (List UInt8), As (E = ds ++ (digB 1000000000 x).map Lib.decDigits) ∧ (digB 4294967296 x).length ≤ 274877906944 ∧ ds.length ≤ E.length ∧ Below w.heap.size w wr ∧ Ow encU 1 71 w.heap.size wr v (digB 4294967296 x) ∧ Ow encT 1 9 w.heap.size wr u ds) (fun v u y _ => E.length - vLen u)
  case atStart => exact ⟨V, [], ⟨HE.out⟩, hlen, by simp, hb1, ho1, Ow.nil _ _ _ _ _⟩
  case round =>
    obtain ⟨x, ds, hds, hxl, hdl, hb, ho, hot⟩ := hrel
    obtain ⟨A3, c3, rfl, h31, h32⟩ := ho.form
    obtain ⟨A4, c4, rfl, h41, h42⟩ := hot.form
    by_cases hx : x = 0
    · have hE : E = ds := by rw [hds.out, hx, digB_zero]; simp
      subst hE
      have hxz : (digB 4294967296 x).length = 0 := by rw [hx, digB_zero]; rfl
      clear hx hds
      by_cases h0 : E.length = 0
      · have hV0 : V = 0 := by
          have := congrArg List.length HE.out
          rw [h0, List.length_map] at this
          exact (digB_eq_nil 1000000000 V (by omega)).1 (List.eq_nil_of_length_eq_zero this.symm)
        have hdd : As (Lib.decDigits V = [48]) := ⟨by rw [hV0, Lib.decDigits_one (by omega)]; rfl⟩
        clear hV0
        go_wp2
        go_ret
        exact ⟨_, rfl, by rw [hdd.out]; rfl, hb⟩
      · have hz : ((E.length : Int) == 0) = false := by simp; intro h; exact h0 (by rw [h]; rfl)
        have hVp : 0 < V := by
          rcases Nat.eq_zero_or_pos V with h | h
          · exfalso; apply h0; rw [HE.out, h, digB_zero]; rfl
          · exact h
        have hJ : As (joinL E = Lib.decDigits V) := ⟨by rw [HE.out]; exact joinL_dec V hVp⟩
        have hJl : ∀ k, (joinL (E.drop k)).length ≤ 9 * E.length := fun k => Nat.le_trans (joinL_len _ (fun z hz => hE9.out z (List.mem_of_mem_drop hz))) (by rw [List.length_drop]; omega)
        have HJl := As.mk hJl
        clear h0 hJl
        have hrt := hot.rd lenT
        obtain ⟨wo, rfl⟩ : ∃ wo : World, wo = wr := ⟨_, rfl⟩
        go_wp2_with ((with_reducible refine g_dst 5 ?_); go_must (refine ev_alloc 5 rfl infoBld (cs := [.pointer none, .slice none 0 0]) rfl ?_); intro g w2 hb2 B2 hg2)
        go_loopw [6] (fun v wq => ∃ k : Nat, k ≤ E.length ∧ v = .int .i64 ((k : Int) - 1) ∧ Below wo.heap.size wo wq ∧ IsB wo.heap.size g (joinL (E.drop k)) wq) (fun v _ => (intOf v + 1).toNat)
        case atStart => exact ⟨E.length, by omega, by go_num, hb2, by rw [List.drop_length]; exact blk_isB B2 hg2⟩
        case round =>
          obtain ⟨k, hk, rfl, hb3, hB3⟩ := hrel
          cases k with
          | zero =>
            rw [List.drop_zero, hJ.out] at hB3
            go_wp2_with (go_at_call 54; (with_reducible refine (bldS _ g _ _ hB3 hb3.size).mono ?_); rintro e w4 ⟨rfl, hb4⟩)
            go_ret
            exact ⟨_, rfl, rfl, bthen hb (hb3.trans hb4)⟩
          | succ m =>
            obtain ⟨b, off, rfl⟩ := (hrt.below hb3).get (ne_nil_of_lt (i := m) (by omega))
            have hcell := Rd.t (hrt.below hb3) m (by omega)
            have hd := drop_cons_of_lt E m (by omega)
            have hx9 := hE9.out _ (List.getElem_mem (show m < E.length by omega))
            obtain ⟨y, hy⟩ : ∃ y, y = E[m] := ⟨_, rfl⟩
            rw [← hy] at hcell hd hx9
            by_cases hm2 : m + 1 < E.length
            · have hjc := joinL_cons y (E.drop (m + 1)) (List.ne_nil_of_length_pos (by rw [List.length_drop]; omega))
              rw [← hd, ← List.append_assoc] at hjc
              have hrep := fun w => rep0 (9 - y.length) w (by omega)
              have hpl : (List.replicate (9 - y.length) (48 : UInt8)).length ≤ 9 := by rw [List.length_replicate]; omega
              obtain ⟨pd, hpd⟩ : ∃ pd, pd = List.replicate (9 - y.length) (48 : UInt8) := ⟨_, rfl⟩
              rw [← hpd] at hjc hpl
              simp only [← hpd] at hrep
              have Hjc := As.mk hjc
              have Hy := As.mk hy
              have Hrep := As.mk hrep
              have e9 : (9 : Int) - (y.length : Int) = ((9 - y.length : Nat) : Int) := by omega
              clear hjc hd hy hpd hrep
              go_wp2_with (first
                | (go_at_call 53; (with_reducible refine (Hrep.out _).mono ?_); rintro e w4 ⟨v4, rfl, rfl, hb4⟩; replace hB3 := hB3.below hb4; have hbw4 := bthen hb3 hb4)
                | (go_at_call 52; (with_reducible refine (bldW _ g _ pd _ hB3 (by have := HJl.out (m + 1); omega) hbw4.size).mono ?_); rintro e w5 ⟨⟨z5, rfl⟩, hB5, hb5⟩; have hbw5 := hbw4.trans hb5; have hcell5 := Rd.t (hrt.below hbw5) m (by omega); rw [← Hy.out] at hcell5)
                | (go_at_call 52; (with_reducible refine (bldW _ g _ y _ hB5 (by have := HJl.out (m + 1); rw [List.length_append]; omega) hbw5.size).mono ?_); rintro e w6 ⟨⟨z6, rfl⟩, hB6, hb6⟩; have hbw6 := hbw5.trans hb6))
              go_roundw
              case rel => exact ⟨m, by omega, by go_num, hbw6, by rw [Hjc.out]; exact hB6⟩
              case measure => simp [intOf]
            · have hdn : E.drop (m + 1) = [] := List.drop_of_length_le (by omega)
              have hjy : As (joinL (E.drop m) = y) := ⟨by rw [hd, hdn]; rfl⟩
              rw [hdn] at hB3
              have hB3' : IsB wo.heap.size g [] wr := hB3
              clear hd hy hdn hB3
              go_wp2_with (go_at_call 52; (with_reducible refine (bldW _ g [] y _ hB3' (by simp; omega) hb3.size).mono ?_); rintro e w6 ⟨⟨z6, rfl⟩, hB6, hb6⟩; have hbw6 := hb3.trans hb6)
              go_roundw
              case rel => exact ⟨m, by omega, by go_num, hbw6, by rw [hjy.out]; exact hB6⟩
              case measure => simp [intOf]
    · have hxp : 0 < x := by omega
      have hn0 : 0 < (digB 4294967296 x).length := List.length_pos_iff.2 (fun h => hx ((digB_eq_nil 4294967296 x (by omega)).1 h))
      have hst := piece_step Lib.decDigits x hxp E ds hds.out
      obtain ⟨r, hr9⟩ : ∃ r, r = x % 1000000000 := ⟨_, rfl⟩
      have hr9' : r < 1000000000 := by omega
      obtain ⟨q, hq⟩ : ∃ q, q = x / 1000000000 := ⟨_, rfl⟩
      have hql : (digB 4294967296 q).length ≤ (digB 4294967296 x).length := digB_len_mono 4294967296 (by omega) _ _ (by omega)
      rw [← hr9, ← hq] at hst
      have hdl2 : ds.length + 1 ≤ E.length := by rw [hst]; simp
      have HST := As.mk hst
      have HX := As.mk hr9
      have HQ := As.mk hq
      have HB := As.mk (show (ds.length + 1) * 16 ≤ 140737488355328 from by omega)
      have HM := As.mk (show ds.length + 1 ≤ maxLen from by simp only [maxLen]; omega)
      have hlt := fun k hk => (hot.own.lt k hk).2
      clear hst hr9 hq
      go_wp2_with (first
        | (go_at_call 50; (with_reducible refine (smallN (digB 4294967296 x) _ rfl _ _ _ (ho.rd lenU) (digB_lt 4294967296 (by omega) x) h31 (by omega)).mono ?_); rintro e w4 ⟨v4, rfl, ⟨q4, rfl, ho4⟩, hb4⟩; rw [digB_val 4294967296 (by omega), ← HQ.out] at ho4; rw [digB_val 4294967296 (by omega), ← HX.out]; replace hot := hot.below hb4; have hbw4 := bthen hb hb4; obtain ⟨A5, c5, rfl, h51, h52⟩ := ho4.form)
        | (go_at_call 51; (with_reducible refine (fmtN r _ (by omega) (HT.out.below hbw4)).mono ?_); rintro e w5 ⟨v5, rfl, rfl, hb5⟩; replace hot := hot.below hb5; replace ho4 := ho4.below hb5; have hbw5 := bthen hbw4 hb5; clear hb5)
        | ((with_reducible refine g_dst 21 ?_); go_must (refine ev_lit (v := fun g => .slice (some ⟨g, 0, none⟩) 1 1) 21 rfl (cs := [valT (Lib.decDigits r)]) (t := 9) (by go_simp; rfl) ?_); intro g6 w6 hb6 B6 hg6; replace hot := hot.below hb6; replace ho4 := ho4.below hb6; have hbw6 := bthen hbw5 hb6; clear hb6)
        | ((with_reducible refine g_dst 22 ?_); go_must (refine ev_append 22 rfl Tryz.underlying69 infoT rfl (by decide) rfl hot rfl rfl (B6.rdm (l := [Lib.decDigits r]) encT_one) lenT oneT (fun h => by cases h) HB.out HM.out hbw6.size ?_); intro v7 w7 ho7 hg7; have hbw7 := hot.grown hbw6 hg7 (Nat.le_refl _) hbw6.size; replace ho4 := ho4.apart hg7 hlt hb.size; obtain ⟨A7, c7, rfl, h71, h72⟩ := ho7.form))
      go_roundw
      case rel => exact ⟨q, ds ++ [Lib.decDigits r], ⟨HST.out⟩, by omega, by simpa using hdl2, hbw7, ho4, by simpa using ho7⟩
      case measure => simp [vLen]; omega
end Go.Proofs.YtgeokccfobmeiaaGreatDoor
/- How many binary digits. Plain mathematics. -/
namespace Go.Proofs.YtgeokccfobmeiaaGreatDoorM
set_option linter.unusedVariables false
set_option linter.unusedSimpArgs false
/-- how many binary digits -/
def bitN (v : Nat) : Nat := (digB 2 v).length
theorem bitN_zero : bitN 0 = 0 := by rw [bitN, digB_zero]; rfl
theorem bitN_eq_zero (v : Nat) : bitN v = 0 ↔ v = 0 := by
  rw [bitN, List.length_eq_zero_iff]; exact digB_eq_nil 2 v (by omega)
theorem bitN_unique (v k : Nat) (h1 : 2 ^ k ≤ v) (h2 : v < 2 ^ (k + 1)) : bitN v = k + 1 := by
  have a := digB_len_ge 2 (by omega) k v h1
  have b := digB_len_lt 2 (by omega) (k + 1) v h2
  unfold bitN; omega
theorem bitN_lt (v : Nat) : v < 2 ^ bitN v := by
  have := valB_lt 2 (by omega) (digB 2 v) (digB_lt 2 (by omega) v)
  rwa [digB_val 2 (by omega)] at this
theorem bitN_ge (v : Nat) (h : 0 < v) : 2 ^ (bitN v - 1) ≤ v := by
  rcases Nat.lt_or_ge v (2 ^ (bitN v - 1)) with h1 | h1
  · exfalso
    have h2 := digB_len_lt 2 (by omega) _ v h1
    have h3 : bitN v ≠ 0 := fun e => by rw [bitN_eq_zero] at e; omega
    unfold bitN at *
    omega
  · exact h1
theorem bitN_half (x : Nat) (h : 0 < x) : bitN x = 1 + bitN (x / 2) := by
  unfold bitN; rw [digB_pos 2 x (by omega) h]; simp; omega
theorem bitLen_bitN (x : Nat) (h : x < 2 ^ 64) : Lib.bitLen x = bitN x := by
  induction x using Nat.strongRecOn with
  | ind x ih =>
    rcases Nat.eq_zero_or_pos x with rfl | hx
    · rw [bitN_zero]; rfl
    · rw [Lib.bitLen_half x (by omega) h, bitN_half x hx, ih (x / 2) (Nat.div_lt_self hx (by omega)) (by omega)]
/-- the top limb tells it -/
theorem bitN_top (k : Nat) (L : List Nat) (hL : ∀ x ∈ L, x < 2 ^ k) (top : Nat) (ht : 0 < top) : bitN (valB (2 ^ k) (L ++ [top])) = k * L.length + bitN top := by
  have h1 := valB_lt (2 ^ k) (Nat.pow_pos (by omega)) L hL
  rw [valB_snoc]
  have h2 := bitN_lt top
  have h3 := bitN_ge top ht
  have h4 : bitN top ≠ 0 := fun e => by rw [bitN_eq_zero] at e; omega
  obtain ⟨t, h5⟩ : ∃ t, bitN top = t + 1 := ⟨bitN top - 1, by omega⟩
  rw [h5] at h2 h3 ⊢
  rw [← Nat.pow_mul] at h1 ⊢
  rw [Nat.add_sub_cancel] at h3
  have e1 : 2 ^ (k * L.length + t) = 2 ^ (k * L.length) * 2 ^ t := Nat.pow_add ..
  have e2 : 2 ^ (k * L.length + (t + 1)) = 2 ^ (k * L.length) * 2 ^ (t + 1) := Nat.pow_add ..
  have m1 : 2 ^ (k * L.length) * 2 ^ t ≤ 2 ^ (k * L.length) * top := Nat.mul_le_mul_left _ h3
  have m2 : 2 ^ (k * L.length) * (top + 1) ≤ 2 ^ (k * L.length) * 2 ^ (t + 1) := Nat.mul_le_mul_left _ h2
  rw [Nat.mul_add, Nat.mul_one] at m2
  have := bitN_unique (valB (2 ^ k) L + 2 ^ (k * L.length) * top) (k * L.length + t) (by omega) (by rw [show k * L.length + t + 1 = k * L.length + (t + 1) by omega]; omega)
  omega
theorem bitN_limbs (k v : Nat) (hk : 0 < k) (h : digB (2 ^ k) v ≠ []) : bitN v = k * ((digB (2 ^ k) v).length - 1) + bitN ((digB (2 ^ k) v).getLast h) := by
  have hB : 1 < 2 ^ k := Nat.one_lt_two_pow (by omega)
  have h0 := digB_canon (2 ^ k) hB v _ (List.getLast?_eq_some_getLast h)
  have h1 := bitN_top k ((digB (2 ^ k) v).dropLast) (fun x hx => digB_lt (2 ^ k) hB v x ((List.dropLast_sublist _).subset hx)) ((digB (2 ^ k) v).getLast h) (by omega)
  rw [List.dropLast_concat_getLast, digB_val _ hB, List.length_dropLast] at h1
  exact h1
theorem bitN_le (k v : Nat) (hk : 0 < k) : bitN v ≤ k * (digB (2 ^ k) v).length := by
  have hB : 1 < 2 ^ k := Nat.one_lt_two_pow (by omega)
  refine digB_len_lt 2 (by omega) _ _ ?_
  have := valB_lt (2 ^ k) (by omega) (digB (2 ^ k) v) (digB_lt _ hB v)
  rwa [digB_val _ hB, ← Nat.pow_mul] at this
end Go.Proofs.YtgeokccfobmeiaaGreatDoorM
/- nat.Bits; package num's size, number, Text. -/
namespace Go.Proofs.YtgeokccfobmeiaaGreatDoor
open Go.RowKit Go.Proofs.YtgeokccfobmeiaaGreatDoorL Go.Proofs.YtgeokccfobmeiaaGreatDoorM
set_option linter.unusedVariables false
set_option linter.unusedSimpArgs false
set_option maxHeartbeats 400000 in
theorem bits_any (l : List Nat) (n : Nat) (hn : l.length = n) (A : Option Addr) (c : Nat) (w : World) (hr : Rd encU 1 w A l) (hl : ∀ x ∈ l, x < 4294967296) (hc : n ≤ c) (hm : n ≤ 281474976710656) :
    Calls Tryz.prog 76 #[.slice A n c] w fun e w' => e = .returned (.int .i64 ((bitN (valB 4294967296 l) : Nat) : Int)) ∧ w = w' := by
  subst hn
  obtain ⟨V, hV⟩ : ∃ V, V = valB 4294967296 l := ⟨_, rfl⟩
  rw [← hV]
  obtain ⟨L, hL⟩ : ∃ L, L = digB 4294967296 V := ⟨_, rfl⟩
  have htr : As (trimL l = L) := ⟨by rw [hL, hV]; exact trimL_dig 4294967296 (by omega) l hl⟩
  have hLe : L.length ≤ l.length := by rw [← htr.out]; exact trimL_le l
  have hrL : Rd encU 1 w A L := by have := Rd.trim hr; rwa [htr.out] at this
  have htrim := trim_any l A c w hr hc (by omega)
  rw [htr.out] at htrim
  have Htrim := As.mk htrim
  by_cases h0 : L.length = 0
  · have hb0 : As (bitN V = 0) := ⟨by rw [bitN_eq_zero, ← digB_eq_nil 4294967296 V (by omega), ← hL]; exact List.eq_nil_of_length_eq_zero h0⟩
    have hz : ((L.length : Int) == 0) = true := by simp; exact List.eq_nil_of_length_eq_zero h0
    clear hL hV h0 htrim
    go_enter Tryz.func76, Tryz.ntmps76
    go_wp2_with (go_at_call 63; (with_reducible refine Htrim.out.mono ?_); rintro e w1 ⟨rfl, rfl⟩)
    go_ret
    exact ⟨by rw [hb0.out]; rfl, rfl⟩
  · have hne : L ≠ [] := fun h => h0 (by rw [h]; rfl)
    have hz : ((L.length : Int) == 0) = false := by simp; exact hne
    obtain ⟨m, hm1⟩ : ∃ m, L.length = m + 1 := ⟨L.length - 1, by omega⟩
    obtain ⟨b, off, rfl⟩ := hr.get (ne_nil_of_lt (i := m) (by omega))
    have hcell := Rd.u hrL m (by omega)
    obtain ⟨x, hx⟩ : ∃ x, x = L[m] := ⟨_, rfl⟩
    rw [← hx] at hcell
    have hx2 : x < 4294967296 := by rw [hx]; have := List.getElem_mem (show m < L.length by omega); exact (hL ▸ digB_lt 4294967296 (by omega) V) _ this
    have hbits : As (bitN V = 32 * m + bitN x) := ⟨by
      have hk := bitN_limbs 32 V (by omega) (by rw [show (2 : Nat) ^ 32 = 4294967296 from rfl, ← hL]; exact hne)
      simp only [show (2 : Nat) ^ 32 = 4294967296 from rfl, ← hL] at hk
      rw [hk, hm1, Nat.add_sub_cancel, List.getLast_eq_getElem, hx]
      simp only [hm1, Nat.add_sub_cancel]⟩
    have hlen32 := Tryz.bits_Len32 (x : Int) w (by omega) (by omega)
    rw [Int.toNat_natCast, bitLen_bitN x (by omega)] at hlen32
    have hbx : bitN x ≤ 32 := digB_len_lt 2 (by omega) 32 x (by omega)
    have Hlen := As.mk hlen32
    have Hm := As.mk hm1
    have hml : m < 281474976710656 := by omega
    have em : ((L.length : Int) - 1) = (m : Int) := by omega
    have hmL : m < L.length := by omega
    have hmc : m < c := by omega
    clear hx hL hV h0 htrim hlen32 hm1 hne
    go_enter Tryz.func76, Tryz.ntmps76
    go_wp2_with (first
      | (go_at_call 63; (with_reducible refine Htrim.out.mono ?_); rintro e w1 ⟨rfl, rfl⟩)
      | (go_at_call 91; (with_reducible refine Hlen.out.mono ?_); rintro e w1 ⟨rfl, rfl⟩))
    go_ret
    exact ⟨by rw [hbits.out]; go_num, rfl⟩
/-- what of a list is asked: it reads as l, its numbers are limbs -/
structure Lim (w : World) (A : Option Addr) (c : Nat) (l : List Nat) : Prop where
  rd : Rd encU 1 w A l
  lt : ∀ x ∈ l, x < 4294967296
  cap : l.length ≤ c
  none : A = none → c = 0
  max : l.length ≤ 274877906944
theorem Lim.below {w w1 : World} {A : Option Addr} {c : Nat} {l : List Nat} (h : Lim w A c l) (hb : Below w.heap.size w w1) : Lim w1 A c l := ⟨h.rd.below hb, h.lt, h.cap, h.none, h.max⟩
set_option maxHeartbeats 400000 in
theorem sbits_any (l : List Nat) (A : Option Addr) (c : Nat) (w : World) (h : Lim w A c l) :
    Calls Tryz.prog 62 #[.agg #[.slice A l.length c]] w (Gives w fun v w' => v = .int .i64 ((bitN (valB 4294967296 l) : Nat) : Int)) := by
  go_enter Tryz.func62, Tryz.ntmps62
  go_wp2_with (first
    | ((with_reducible refine g_dst 1 ?_); go_must (refine ev_box 1 rfl (cs := [.slice A l.length c]) (by rfl) ?_); intro g w1 hb1 B1 hg1; have C1 := B1.cells)
    | (go_at_call 76; (with_reducible refine (bits_any l _ rfl _ _ _ (h.below hb1).rd h.lt h.cap (Nat.le_trans h.max (by omega))).mono ?_); rintro e w2 ⟨rfl, rfl⟩))
  go_ret
  exact ⟨_, rfl, rfl, hb1⟩
set_option maxHeartbeats 400000 in
theorem szero_any (l : List Nat) (A : Option Addr) (c : Nat) (w : World) (h : Lim w A c l) :
    Calls Tryz.prog 48 #[.agg #[.slice A l.length c]] w (Gives w fun v w' => v = .bool (decide (valB 4294967296 l = 0))) := by
  have hz : As (((bitN (valB 4294967296 l) : Int) == 0) = decide (valB 4294967296 l = 0)) := ⟨by
    rw [Bool.eq_iff_iff]; simp [bitN_eq_zero]⟩
  go_enter Tryz.func48, Tryz.ntmps48
  go_wp2_with (first
    | ((with_reducible refine g_dst 1 ?_); go_must (refine ev_box 1 rfl (cs := [.slice A l.length c]) (by rfl) ?_); intro g w1 hb1 B1 hg1; have C1 := B1.cells)
    | (go_at_call 62; (with_reducible refine (sbits_any l _ _ _ (h.below hb1)).mono ?_); rintro e w2 ⟨v2, rfl, rfl, hb2⟩))
  go_ret
  exact ⟨_, rfl, by rw [← hz.out]; rfl, bthen hb1 hb2⟩
theorem infoNumber : (Tryz.prog.info? 65).map (fun i => (i.zero, i.size, i.bytes)) = some (some (.agg #[.slice none 0 0, .bool false]), 2, 32) := by kernel_rfl
set_option maxHeartbeats 400000 in
theorem numOf_any (neg : Bool) (A : Option Addr) (n c : Nat) (w : World) :
    Calls Tryz.prog 34 #[.agg #[.bool neg, .slice A n c]] w (Gives w fun v w' => v = .agg #[.slice A n c, .bool neg]) := by
  go_enter Tryz.func34, Tryz.ntmps34
  go_wp2_with (first
    | ((with_reducible refine g_dst 1 ?_); go_must (refine ev_box 1 rfl (cs := [.bool neg, .slice A n c]) (by rfl) ?_); intro g w1 hb1 B1 hg1; have C1 := B1.cells)
    | ((with_reducible refine g_dst 2 ?_); go_must (refine ev_alloc 2 rfl infoNumber (cs := [.slice none 0 0, .bool false]) rfl ?_); intro g2 w2 hb2 B2 hg2; replace B1 := B1.below hb2; clear C1; have C1 := B1.cells)
    | ((with_reducible refine g_store 2 ?_); go_must (refine ev_store rfl rfl B2 (news := [.slice A n c, .bool neg]) (by rfl) infoNumber (by simp) (by simp [Value.oneCell']) ?_); intro w3 ho3 B3; simp only [List.take_zero, List.nil_append, List.length_cons, List.length_nil, List.drop_succ_cons, List.drop_zero, List.append_nil, List.cons_append] at B3; have C3 := B3.cells))
  refine bodyPost_ret (results_cell_row rfl _ _ g2 65 #[.slice A n c, .bool neg] (0, 0) _ rfl B3.h Tryz.underlying65 rfl (by kernel_rfl)) rfl ?_
  exact ⟨_, rfl, rfl, (bthen hb1 hb2).trans (ho3.below (Nat.le_trans hb1.size hg2))⟩
/-- the sign as a number -/
def sgn (neg : Bool) (v : Nat) : Int := if v = 0 then 0 else if neg then -1 else 1
set_option maxHeartbeats 400000 in
theorem sign_any (l : List Nat) (neg : Bool) (A : Option Addr) (c : Nat) (w : World) (h : Lim w A c l) :
    Calls Tryz.prog 35 #[.agg #[.slice A l.length c, .bool neg]] w (Gives w fun v w' => v = .int .i64 (sgn neg (valB 4294967296 l))) := by
  have hzero := fun w (h : Lim w A c l) => szero_any l A c w h
  by_cases hv : valB 4294967296 l = 0
  · have hs : As (sgn neg (valB 4294967296 l) = 0) := ⟨by rw [sgn, if_pos hv]⟩
    simp only [hv, decide_true] at hzero
    have Hz := As.mk hzero
    clear hzero hv
    go_enter Tryz.func35, Tryz.ntmps35
    go_wp2_with (first
      | ((with_reducible refine g_dst 1 ?_); go_must (refine ev_box 1 rfl (cs := [.slice A l.length c, .bool neg]) (by rfl) ?_); intro g w1 hb1 B1 hg1; have C1 := B1.cells)
      | (go_at_call 48; (with_reducible refine (Hz.out _ (h.below hb1)).mono ?_); rintro e w2 ⟨v2, rfl, rfl, hb2⟩))
    go_ret
    exact ⟨_, rfl, by rw [hs.out]; rfl, bthen hb1 hb2⟩
  · simp only [decide_eq_false hv] at hzero
    have Hz := As.mk hzero
    cases neg with
    | true =>
      have hs : As (sgn true (valB 4294967296 l) = -1) := ⟨by rw [sgn, if_neg hv]; rfl⟩
      clear hzero hv
      go_enter Tryz.func35, Tryz.ntmps35
      go_wp2_with (first
        | ((with_reducible refine g_dst 1 ?_); go_must (refine ev_box 1 rfl (cs := [.slice A l.length c, .bool true]) (by rfl) ?_); intro g w1 hb1 B1 hg1; have C1 := B1.cells)
        | (go_at_call 48; (with_reducible refine (Hz.out _ (h.below hb1)).mono ?_); rintro e w2 ⟨v2, rfl, rfl, hb2⟩; replace B1 := B1.below hb2; clear C1; have C1 := B1.cells))
      go_ret
      exact ⟨_, rfl, by rw [hs.out]; rfl, bthen hb1 hb2⟩
    | false =>
      have hs : As (sgn false (valB 4294967296 l) = 1) := ⟨by rw [sgn, if_neg hv]; rfl⟩
      clear hzero hv
      go_enter Tryz.func35, Tryz.ntmps35
      go_wp2_with (first
        | ((with_reducible refine g_dst 1 ?_); go_must (refine ev_box 1 rfl (cs := [.slice A l.length c, .bool false]) (by rfl) ?_); intro g w1 hb1 B1 hg1; have C1 := B1.cells)
        | (go_at_call 48; (with_reducible refine (Hz.out _ (h.below hb1)).mono ?_); rintro e w2 ⟨v2, rfl, rfl, hb2⟩; replace B1 := B1.below hb2; clear C1; have C1 := B1.cells))
      go_ret
      exact ⟨_, rfl, by rw [hs.out]; rfl, bthen hb1 hb2⟩
/-- the text of a number with its sign -/
def numT (neg : Bool) (v : Nat) : List UInt8 := if neg = true ∧ v ≠ 0 then 45 :: Lib.decDigits v else Lib.decDigits v
theorem run_add_lists {P : Program} (w : World) (x y : List UInt8) (h : x.length + y.length ≤ 9223372036854775807) : (Op.stringOp .add ⟨x.toArray⟩ ⟨y.toArray⟩).run P w = .ok (.string ⟨(x ++ y).toArray⟩) w := by
  rw [run_string_add_sum w _ _ (by simp [ByteArray.size]; omega), ByteArray.mk_append_mk]
theorem dec_len (l : List Nat) (h : ∀ x ∈ l, x < 4294967296) (hm : l.length ≤ 274877906944) : (Lib.decDigits (valB 4294967296 l)).length ≤ 4947802324992 := by
  rcases Nat.eq_zero_or_pos (valB 4294967296 l) with h0 | h0
  · rw [h0, Lib.decDigits_one (by omega)]; simp
  · rw [← joinL_dec _ h0]
    refine Nat.le_trans (joinL_len _ (fun x hx => ?_)) ?_
    · obtain ⟨r, hr, rfl⟩ := List.mem_map.1 hx
      exact dec_len9 r (digB_lt 1000000000 (by omega) _ r hr)
    · rw [List.length_map]
      have := dig9_len l h
      omega
set_option maxHeartbeats 400000 in
theorem numText_any (l : List Nat) (neg : Bool) (A : Option Addr) (c : Nat) (w : World) (htab : Tab w) (h : Lim w A c l) :
    Calls Tryz.prog 18 #[.agg #[.bool neg, .slice A l.length c]] w (Gives w fun v w' => v = .string ⟨(numT neg (valB 4294967296 l)).toArray⟩) := by
  obtain ⟨V, hV⟩ : ∃ V, V = valB 4294967296 l := ⟨_, rfl⟩
  have hdl := dec_len l h.lt h.max
  have hsign := fun w h => sign_any l neg A c w h
  have htext := fun w ht (h : Lim w A c l) => nText_any l l.length rfl A c w ht h.rd h.lt h.cap h.none h.max
  simp only [← hV] at hdl hsign htext ⊢
  obtain ⟨T, hT⟩ : ∃ T, T = Lib.decDigits V := ⟨_, rfl⟩
  rw [← hT] at hdl
  simp only [← hT] at htext
  have HS := As.mk hsign
  have HX := As.mk htext
  have HTab := As.mk htab
  have ha : ∀ w : World, (Op.stringOp .add ⟨#[45]⟩ ⟨T.toArray⟩).run Tryz.prog w = .ok (.string ⟨(45 :: T).toArray⟩) w := fun w => run_add_lists w [45] T (by simp; omega)
  by_cases hc : neg = true ∧ V ≠ 0
  · have hn : As (numT neg V = 45 :: T) := ⟨by rw [numT, if_pos hc, hT]⟩
    have hsg : sgn neg V = -1 := by rw [sgn, if_neg hc.2, if_pos hc.1]
    clear hT hV htext hsign htab hc
    go_enter Tryz.func18, Tryz.ntmps18
    go_wp2_with (first
      | ((with_reducible refine g_dst 1 ?_); go_must (refine ev_box 1 rfl (cs := [.bool neg, .slice A l.length c]) (by rfl) ?_); intro g w1 hb1 B1 hg1; have C1 := B1.cells)
      | (go_at_call 34; (with_reducible refine (numOf_any _ _ _ _ _).mono ?_); rintro e w2 ⟨v2, rfl, rfl, hb2⟩; replace B1 := B1.below hb2; clear C1; have C1 := B1.cells; replace hb2 := bthen hb1 hb2)
      | (go_at_call 35; (with_reducible refine (HS.out _ (h.below hb2)).mono ?_); rintro e w3 ⟨v3, rfl, rfl, hb3⟩; replace B1 := B1.below hb3; clear C1; have C1 := B1.cells; replace hb3 := bthen hb2 hb3)
      | (go_at_call 36; (with_reducible refine (HX.out _ (HTab.out.below hb3) (h.below hb3)).mono ?_); rintro e w4 ⟨v4, rfl, rfl, hb4⟩))
    go_ret
    exact ⟨_, rfl, by rw [hn.out]; rfl, bthen hb3 hb4⟩
  · have hn : As (numT neg V = T) := ⟨by rw [numT, if_neg hc, hT]⟩
    have hsg : (decide (sgn neg V < 0)) = false := by
      rw [decide_eq_false_iff_not, sgn]
      by_cases h0 : V = 0
      · rw [if_pos h0]; omega
      · rw [if_neg h0, if_neg (fun h => hc ⟨h, h0⟩)]; omega
    clear hT hV htext hsign htab hc
    go_enter Tryz.func18, Tryz.ntmps18
    go_wp2_with (first
      | ((with_reducible refine g_dst 1 ?_); go_must (refine ev_box 1 rfl (cs := [.bool neg, .slice A l.length c]) (by rfl) ?_); intro g w1 hb1 B1 hg1; have C1 := B1.cells)
      | (go_at_call 34; (with_reducible refine (numOf_any _ _ _ _ _).mono ?_); rintro e w2 ⟨v2, rfl, rfl, hb2⟩; replace B1 := B1.below hb2; clear C1; have C1 := B1.cells; replace hb2 := bthen hb1 hb2)
      | (go_at_call 35; (with_reducible refine (HS.out _ (h.below hb2)).mono ?_); rintro e w3 ⟨v3, rfl, rfl, hb3⟩; replace B1 := B1.below hb3; clear C1; have C1 := B1.cells; replace hb3 := bthen hb2 hb3)
      | (go_at_call 36; (with_reducible refine (HX.out _ (HTab.out.below hb3) (h.below hb3)).mono ?_); rintro e w4 ⟨v4, rfl, rfl, hb4⟩))
    go_ret
    exact ⟨_, rfl, by rw [hn.out]; rfl, bthen hb3 hb4⟩
end Go.Proofs.YtgeokccfobmeiaaGreatDoor
