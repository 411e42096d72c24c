import Derived.Test.YtdapbegadhcpcaaDoorShelf
import Derived.Test.YtdapbegadhcpcaaDoorMB
import Derived.Lib.ItoaMem
import Derived.Lib.AppendStr
import Derived.Lib.Builder
import Derived.Lib.ItoaNum
import Derived.Lib.AppendIntMem
import Derived.Lib.BitFns
/- strconv.FormatUint at base 10; strings.Builder's copyCheck and WriteString in this program. -/
namespace Go.Proofs.YtdapbegadhcpcaaDoor
open Go.RowKit Go.Proofs.YtdapbegadhcpcaaDoorL Go.Proofs.YtdapbegadhcpcaaDoorM
open Go.Sort hiding Below
set_option linter.unusedVariables false
set_option linter.unusedSimpArgs false
theorem tabIs_below {P : Program} {w w1 : World} {name : String} {k : IntKind} {zs : List Int} (h : Lib.TabIs P w name k zs) (hb : Below w.heap.size w w1) : Lib.TabIs P w1 name k zs := by
  unfold Lib.TabIs World.var? at *
  cases hg : P.globalNamed name with
  | none => simp [hg] at h
  | some g =>
    simp only [hg, Option.bind_some] at h ⊢
    have hlt : g < w.heap.size := by
      rcases Nat.lt_or_ge g w.heap.size with h' | h'
      · exact h'
      · rw [Array.getElem?_eq_none h'] at h; simp at h
    rw [hb.block g hlt]
    exact h
/-- the table of powers of ten lies as its initialiser lays it -/
def Tab (w : World) : Prop := Lib.TabIs Tryd.prog w "internal/strconv.uint64pow10" .u64 Lib.pow10Tab
theorem Tab.below {w w1 : World} (h : Tab w) (hb : Below w.heap.size w w1) : Tab w1 := tabIs_below h hb
theorem Tab.is {w : World} (h : Tab w) : Lib.TabIs Tryd.prog w "internal/strconv.uint64pow10" .u64 Lib.pow10Tab := h
theorem below_drewN {B n : Nat} {w w1 : World} (h : Below B w w1) : Below B w (w1.drewN n) := ⟨h.os, h.tape, h.output, h.size, h.block⟩
theorem below_putRow {α : Type} [Inhabited α] (enc : α → Value) {B : Nat} {w w1 : World} (h : Below B w w1) (g off : Nat) (d : Array α) (hg : B ≤ g) : Below B w (putRow enc w1 g off d) :=
  ⟨h.os, h.tape, h.output, by rw [size_putRow]; exact h.size, fun k hk => by
    rw [← h.block k hk]
    simp only [putRow, mapBlock]
    rw [Array.getElem?_modify, if_neg (by omega)]⟩
theorem infoA : (Tryd.prog.info? 133).map (fun i => (i.zero, i.size, i.bytes)) = some (some (.agg Lib.zeros24), 24, 24) := by kernel_rfl
theorem blk_holds {w : World} {g : Nat} {t : TypeId} (f : Blk w g Lib.zeros24.toList t) (nd : Nat) (hs : nd ≤ 24) : Holds (fun (b : UInt8) => Value.int .u8 (b.toNat : Int)) w g 0 (Array.replicate nd (0 : UInt8)) := fun j hj => by
  have hj' : j < nd := by simpa using hj
  refine ⟨?_, f.free _⟩
  rw [f.cells, Array.getElem?_toList, Nat.zero_add, Lib.zeros24_at _ (by omega), getElem!_pos _ j hj]
  simp
theorem base10_at (u g : Nat) (w : World) (B : Blk w g Lib.zeros24.toList 133) (hs : ¬ u < 100) (hu : u < 18446744073709551616) :
    Calls Tryd.prog 91 #[.slice (some ⟨g, 0, none⟩) (Lib.nDigits u) 24, .int .u64 u] w fun e w' => e = .returned (.tuple #[]) ∧ Below g w w' ∧
      (convert 60 9 (.slice (some ⟨g, 0, none⟩) (Lib.nDigits u) 24)).run Tryd.prog w' = .ok (.string ⟨(Lib.decDigits u).toArray⟩) w' := by
  have hnd20 : Lib.nDigits u ≤ 20 := by have := Lib.numDigits_eq u (by omega) hu; split at this <;> omega
  have hH := blk_holds B (Lib.nDigits u) (by omega)
  have hfmt := Tryd.internal_strconv_formatBase10 g 0 24 u (Array.replicate (Lib.nDigits u) 0) w hH (by rw [Array.size_replicate]; exact Lib.lt_pow_nDigits u) hu (by rw [Array.size_replicate]; omega)
  rw [Array.size_replicate] at hfmt
  refine hfmt.mono ?_
  rintro e w' ⟨rfl, k, v', dk, rfl, hF⟩
  refine ⟨rfl, below_drewN (below_putRow _ (Below.refl _ _) _ _ _ (Nat.le_refl _)), ?_⟩
  have h := run_convert_bytes_back (P := Tryd.prog) ((putRow (fun (b : UInt8) => Value.int .u8 (b.toNat : Int)) w g 0 dk).drewN k) 60 9 5 ⟨g, 0, none⟩ 24 (Lib.decDigits u) Tryd.underlying60 Tryd.underlying5 Tryd.underlying9 (fun j hj => by
    rw [Lib.row_is_numeral hF j hj, Lib.add_plain, World.cell?_drewN]
    exact cell?_putRow (fun (b : UInt8) => Value.int .u8 (b.toNat : Int)) _ g 0 _ dk hH (by rw [hF.size, Array.size_replicate]) j (by rw [hF.size]; rw [Lib.decDigits_length] at hj; exact hj))
  rw [Lib.decDigits_length] at h
  exact h
end Go.Proofs.YtdapbegadhcpcaaDoor
/- Decimal digits, nine at a time. Plain mathematics. -/
namespace Go.Proofs.YtdapbegadhcpcaaDoorM
set_option linter.unusedVariables false
set_option linter.unusedSimpArgs false
open Go.Lib
/-- just k digits -/
def padD : Nat → Nat → List UInt8
  | 0, _ => []
  | k + 1, r => padD k (r / 10) ++ [UInt8.ofNat (48 + r % 10)]
theorem decDigits_big {u : Nat} (h : ¬ u < 10) : decDigits u = decDigits (u / 10) ++ [UInt8.ofNat (48 + u % 10)] := by rw [decDigits, dif_neg h]
theorem dec_split : ∀ (k v : Nat), 0 < v / 10 ^ k → decDigits v = decDigits (v / 10 ^ k) ++ padD k (v % 10 ^ k)
  | 0, v, _ => by simp [padD]
  | k + 1, v, h => by
    have e1 : v / 10 ^ (k + 1) = v / 10 / 10 ^ k := by rw [Nat.pow_succ, Nat.mul_comm, Nat.div_div_eq_div_mul]
    have e2 : v % 10 ^ (k + 1) / 10 = v / 10 % 10 ^ k := by rw [Nat.pow_succ, Nat.mul_comm, Nat.mod_mul_right_div_self]
    have e3 : v % 10 ^ (k + 1) % 10 = v % 10 := by rw [Nat.pow_succ]; exact Nat.mod_mul_left_mod _ _ _
    have hv : ¬ v < 10 := by
      intro hlt
      rw [e1, Nat.div_eq_of_lt hlt] at h
      simp at h
    rw [e1] at h ⊢
    rw [decDigits_big hv, dec_split k (v / 10) h, padD, e2, e3, List.append_assoc]
theorem padD_eq : ∀ (k r : Nat), r < 10 ^ (k + 1) → padD (k + 1) r = List.replicate (k + 1 - (decDigits r).length) 48 ++ decDigits r
  | 0, r, h => by
    have h10 : r < 10 := by simpa using h
    rw [decDigits_one h10]
    simp [padD, Nat.mod_eq_of_lt h10]
  | k + 1, r, h => by
    rw [padD]
    by_cases h10 : r < 10
    · rw [Nat.div_eq_of_lt h10, padD_eq k 0 (Nat.pow_pos (by omega)), decDigits_one h10, decDigits_one (by omega), Nat.mod_eq_of_lt h10]
      simp only [List.length_singleton, List.append_assoc]
      rw [show k + 1 + 1 - 1 = (k + 1 - 1) + 1 by omega, List.replicate_succ', List.append_assoc]
      rfl
    · rw [padD_eq k (r / 10) (by rw [Nat.div_lt_iff_lt_mul (by omega)]; rwa [Nat.pow_succ] at h), decDigits_big h10, List.append_assoc]
      simp
theorem padD_len : ∀ k r, (padD k r).length = k
  | 0, _ => rfl
  | k + 1, r => by simp [padD, padD_len k]
theorem dec_len9 (r : Nat) (h : r < 1000000000) : (decDigits r).length ≤ 9 := by
  have h1 := padD_eq 8 r (by simpa using h)
  have h2 := congrArg List.length h1
  rw [padD_len, List.length_append] at h2
  omega
/-- the text of limbs of nine digits, the lowest first -/
def joinL : List (List UInt8) → List UInt8
  | [] => []
  | [x] => x
  | x :: y :: l => joinL (y :: l) ++ (List.replicate (9 - x.length) 48 ++ x)
theorem joinL_dec (v : Nat) (hv : 0 < v) : joinL ((digB 1000000000 v).map decDigits) = decDigits v := by
  induction v using Nat.strongRecOn with
  | ind v ih =>
    rw [digB_pos _ _ (by omega) hv]
    by_cases h : v < 1000000000
    · rw [Nat.div_eq_of_lt h, digB_zero, Nat.mod_eq_of_lt h]; rfl
    · have hq : 0 < v / 1000000000 := Nat.div_pos (by omega) (by omega)
      have hi := ih (v / 1000000000) (Nat.div_lt_self hv (by omega)) hq
      rw [digB_pos _ _ (by omega) hq] at hi ⊢
      rw [List.map_cons, List.map_cons, joinL, ← List.map_cons, hi]
      rw [dec_split 9 v (by simpa using hq), padD_eq 8 _ (Nat.mod_lt _ (by omega))]
theorem joinL_cons (x : List UInt8) (l : List (List UInt8)) (h : l ≠ []) : joinL (x :: l) = joinL l ++ (List.replicate (9 - x.length) 48 ++ x) := by
  cases l with
  | nil => exact absurd rfl h
  | cons y l => rfl
theorem joinL_len : ∀ l : List (List UInt8), (∀ x ∈ l, x.length ≤ 9) → (joinL l).length ≤ 9 * l.length
  | [], _ => by simp [joinL]
  | [x], h => by simpa [joinL] using h x (by simp)
  | x :: y :: l, h => by
    have h1 := joinL_len (y :: l) (fun z hz => h z (List.mem_cons_of_mem _ hz))
    have h2 := h x (by simp)
    simp only [joinL, List.length_append, List.length_replicate, List.length_cons] at *
    omega
theorem decL_dec (v : Nat) : (decL v).map UInt8.ofNat = decDigits v := by
  rcases Nat.eq_zero_or_pos v with rfl | hv
  · rw [decL, if_pos rfl, decDigits_one (by omega)]; rfl
  · rw [decL_pos hv]
    induction v using Nat.strongRecOn with
    | ind v ih =>
      rw [digB_pos _ _ (by omega) hv]
      by_cases h : v < 10
      · rw [Nat.div_eq_of_lt h, digB_zero, Nat.mod_eq_of_lt h, decDigits_one h]; rfl
      · rw [decDigits_big h, ← ih (v / 10) (Nat.div_lt_self hv (by omega)) (Nat.div_pos (by omega) (by omega))]
        simp
theorem pow32_le (n : Nat) : (4294967296 : Nat) ^ n ≤ 1000000000 ^ (2 * n) := by
  rw [Nat.pow_mul]; exact Nat.pow_le_pow_left (by omega) n
theorem dig9_len (l : List Nat) (h : ∀ x ∈ l, x < 4294967296) : (digB 1000000000 (valB 4294967296 l)).length ≤ 2 * l.length :=
  digB_len_lt 1000000000 (by omega) _ _ (Nat.lt_of_lt_of_le (valB_lt 4294967296 (by omega) l h) (pow32_le _))
theorem piece_step {β : Type} (f : Nat → β) (x : Nat) (hx : 0 < x) (E bs : List β) (h : E = bs ++ (digB 1000000000 x).map f) : E = (bs ++ [f (x % 1000000000)]) ++ (digB 1000000000 (x / 1000000000)).map f := by
  rw [h, digB_pos 1000000000 x (by omega) hx, List.append_assoc]; rfl
end Go.Proofs.YtdapbegadhcpcaaDoorM
/- nat.Text: the decimal digits. -/
namespace Go.Proofs.YtdapbegadhcpcaaDoor
open Go.RowKit Go.Proofs.YtdapbegadhcpcaaDoorL Go.Proofs.YtdapbegadhcpcaaDoorM
set_option linter.unusedVariables false
set_option linter.unusedSimpArgs false
theorem infoT : (Tryd.prog.info? 9).map (fun i => (i.zero, i.size, i.bytes)) = some (some (.string ⟨#[]⟩), 1, 16) := by kernel_rfl
def encT (x : List UInt8) : List Value := [.string ⟨x.toArray⟩]
def valT (x : List UInt8) : Value := .string ⟨x.toArray⟩
theorem encT_one : ∀ x, encT x = [valT x] := fun _ => rfl
theorem lenT : ∀ x, (encT x).length = 1 := fun _ => rfl
theorem oneT : ∀ x, ∀ u ∈ encT x, u.oneCell' = true := fun x => by simp [encT, Value.oneCell']
theorem Rd.t {w : World} {b off : Nat} {l : List (List UInt8)} (f : Rd encT 1 w (some ⟨b, off, none⟩) l) (i : Nat) (hi : i < l.length) : w.cell? ⟨b, off + i, none⟩ = some (.string ⟨l[i].toArray⟩) := by
  have := f.cell i hi 0 _ rfl
  simpa using this
end Go.Proofs.YtdapbegadhcpcaaDoor
/- How many binary digits. Plain mathematics. -/
namespace Go.Proofs.YtdapbegadhcpcaaDoorM
set_option linter.unusedVariables false
set_option linter.unusedSimpArgs false
/-- how many binary digits -/
def bitN (v : Nat) : Nat := (digB 2 v).length
theorem bitN_zero : bitN 0 = 0 := by rw [bitN, digB_zero]; rfl
theorem bitN_eq_zero (v : Nat) : bitN v = 0 ↔ v = 0 := by
  rw [bitN, List.length_eq_zero_iff]; exact digB_eq_nil 2 v (by omega)
theorem bitN_unique (v k : Nat) (h1 : 2 ^ k ≤ v) (h2 : v < 2 ^ (k + 1)) : bitN v = k + 1 := by
  have a := digB_len_ge 2 (by omega) k v h1
  have b := digB_len_lt 2 (by omega) (k + 1) v h2
  unfold bitN; omega
theorem bitN_lt (v : Nat) : v < 2 ^ bitN v := by
  have := valB_lt 2 (by omega) (digB 2 v) (digB_lt 2 (by omega) v)
  rwa [digB_val 2 (by omega)] at this
theorem bitN_ge (v : Nat) (h : 0 < v) : 2 ^ (bitN v - 1) ≤ v := by
  rcases Nat.lt_or_ge v (2 ^ (bitN v - 1)) with h1 | h1
  · exfalso
    have h2 := digB_len_lt 2 (by omega) _ v h1
    have h3 : bitN v ≠ 0 := fun e => by rw [bitN_eq_zero] at e; omega
    unfold bitN at *
    omega
  · exact h1
theorem bitN_half (x : Nat) (h : 0 < x) : bitN x = 1 + bitN (x / 2) := by
  unfold bitN; rw [digB_pos 2 x (by omega) h]; simp; omega
theorem bitLen_bitN (x : Nat) (h : x < 2 ^ 64) : Lib.bitLen x = bitN x := by
  induction x using Nat.strongRecOn with
  | ind x ih =>
    rcases Nat.eq_zero_or_pos x with rfl | hx
    · rw [bitN_zero]; rfl
    · rw [Lib.bitLen_half x (by omega) h, bitN_half x hx, ih (x / 2) (Nat.div_lt_self hx (by omega)) (by omega)]
/-- the top limb tells it -/
theorem bitN_top (k : Nat) (L : List Nat) (hL : ∀ x ∈ L, x < 2 ^ k) (top : Nat) (ht : 0 < top) : bitN (valB (2 ^ k) (L ++ [top])) = k * L.length + bitN top := by
  have h1 := valB_lt (2 ^ k) (Nat.pow_pos (by omega)) L hL
  rw [valB_snoc]
  have h2 := bitN_lt top
  have h3 := bitN_ge top ht
  have h4 : bitN top ≠ 0 := fun e => by rw [bitN_eq_zero] at e; omega
  obtain ⟨t, h5⟩ : ∃ t, bitN top = t + 1 := ⟨bitN top - 1, by omega⟩
  rw [h5] at h2 h3 ⊢
  rw [← Nat.pow_mul] at h1 ⊢
  rw [Nat.add_sub_cancel] at h3
  have e1 : 2 ^ (k * L.length + t) = 2 ^ (k * L.length) * 2 ^ t := Nat.pow_add ..
  have e2 : 2 ^ (k * L.length + (t + 1)) = 2 ^ (k * L.length) * 2 ^ (t + 1) := Nat.pow_add ..
  have m1 : 2 ^ (k * L.length) * 2 ^ t ≤ 2 ^ (k * L.length) * top := Nat.mul_le_mul_left _ h3
  have m2 : 2 ^ (k * L.length) * (top + 1) ≤ 2 ^ (k * L.length) * 2 ^ (t + 1) := Nat.mul_le_mul_left _ h2
  rw [Nat.mul_add, Nat.mul_one] at m2
  have := bitN_unique (valB (2 ^ k) L + 2 ^ (k * L.length) * top) (k * L.length + t) (by omega) (by rw [show k * L.length + t + 1 = k * L.length + (t + 1) by omega]; omega)
  omega
theorem bitN_limbs (k v : Nat) (hk : 0 < k) (h : digB (2 ^ k) v ≠ []) : bitN v = k * ((digB (2 ^ k) v).length - 1) + bitN ((digB (2 ^ k) v).getLast h) := by
  have hB : 1 < 2 ^ k := Nat.one_lt_two_pow (by omega)
  have h0 := digB_canon (2 ^ k) hB v _ (List.getLast?_eq_some_getLast h)
  have h1 := bitN_top k ((digB (2 ^ k) v).dropLast) (fun x hx => digB_lt (2 ^ k) hB v x ((List.dropLast_sublist _).subset hx)) ((digB (2 ^ k) v).getLast h) (by omega)
  rw [List.dropLast_concat_getLast, digB_val _ hB, List.length_dropLast] at h1
  exact h1
theorem bitN_le (k v : Nat) (hk : 0 < k) : bitN v ≤ k * (digB (2 ^ k) v).length := by
  have hB : 1 < 2 ^ k := Nat.one_lt_two_pow (by omega)
  refine digB_len_lt 2 (by omega) _ _ ?_
  have := valB_lt (2 ^ k) (by omega) (digB (2 ^ k) v) (digB_lt _ hB v)
  rwa [digB_val _ hB, ← Nat.pow_mul] at this
end Go.Proofs.YtdapbegadhcpcaaDoorM
/- nat.Bits; package num's size, number, Text. -/
namespace Go.Proofs.YtdapbegadhcpcaaDoor
open Go.RowKit Go.Proofs.YtdapbegadhcpcaaDoorL Go.Proofs.YtdapbegadhcpcaaDoorM
set_option linter.unusedVariables false
set_option linter.unusedSimpArgs false
set_option maxHeartbeats 400000 in
theorem bits_any (l : List Nat) (n : Nat) (hn : l.length = n) (A : Option Addr) (c : Nat) (w : World) (hr : Rd encU 1 w A l) (hl : ∀ x ∈ l, x < 4294967296) (hc : n ≤ c) (hm : n ≤ 281474976710656) :
    Calls Tryd.prog 81 #[.slice A n c] w fun e w' => e = .returned (.int .i64 ((bitN (valB 4294967296 l) : Nat) : Int)) ∧ w = w' := by
  subst hn
  obtain ⟨V, hV⟩ : ∃ V, V = valB 4294967296 l := ⟨_, rfl⟩
  rw [← hV]
  obtain ⟨L, hL⟩ : ∃ L, L = digB 4294967296 V := ⟨_, rfl⟩
  have htr : As (trimL l = L) := ⟨by rw [hL, hV]; exact trimL_dig 4294967296 (by omega) l hl⟩
  have hLe : L.length ≤ l.length := by rw [← htr.out]; exact trimL_le l
  have hrL : Rd encU 1 w A L := by have := Rd.trim hr; rwa [htr.out] at this
  have htrim := trim_any l A c w hr hc (by omega)
  rw [htr.out] at htrim
  have Htrim := As.mk htrim
  by_cases h0 : L.length = 0
  · have hb0 : As (bitN V = 0) := ⟨by rw [bitN_eq_zero, ← digB_eq_nil 4294967296 V (by omega), ← hL]; exact List.eq_nil_of_length_eq_zero h0⟩
    have hz : ((L.length : Int) == 0) = true := by simp; exact List.eq_nil_of_length_eq_zero h0
    clear hL hV h0 htrim
    go_enter Tryd.func81, Tryd.ntmps81
    go_wp2_with (go_at_call 61; (with_reducible refine Htrim.out.mono ?_); rintro e w1 ⟨rfl, rfl⟩)
    go_ret
    exact ⟨by rw [hb0.out]; rfl, rfl⟩
  · have hne : L ≠ [] := fun h => h0 (by rw [h]; rfl)
    have hz : ((L.length : Int) == 0) = false := by simp; exact hne
    obtain ⟨m, hm1⟩ : ∃ m, L.length = m + 1 := ⟨L.length - 1, by omega⟩
    obtain ⟨b, off, rfl⟩ := hr.get (ne_nil_of_lt (i := m) (by omega))
    have hcell := Rd.u hrL m (by omega)
    obtain ⟨x, hx⟩ : ∃ x, x = L[m] := ⟨_, rfl⟩
    rw [← hx] at hcell
    have hx2 : x < 4294967296 := by rw [hx]; have := List.getElem_mem (show m < L.length by omega); exact (hL ▸ digB_lt 4294967296 (by omega) V) _ this
    have hbits : As (bitN V = 32 * m + bitN x) := ⟨by
      have hk := bitN_limbs 32 V (by omega) (by rw [show (2 : Nat) ^ 32 = 4294967296 from rfl, ← hL]; exact hne)
      simp only [show (2 : Nat) ^ 32 = 4294967296 from rfl, ← hL] at hk
      rw [hk, hm1, Nat.add_sub_cancel, List.getLast_eq_getElem, hx]
      simp only [hm1, Nat.add_sub_cancel]⟩
    have hlen32 := Tryd.bits_Len32 (x : Int) w (by omega) (by omega)
    rw [Int.toNat_natCast, bitLen_bitN x (by omega)] at hlen32
    have hbx : bitN x ≤ 32 := digB_len_lt 2 (by omega) 32 x (by omega)
    have Hlen := As.mk hlen32
    have Hm := As.mk hm1
    have hml : m < 281474976710656 := by omega
    have em : ((L.length : Int) - 1) = (m : Int) := by omega
    have hmL : m < L.length := by omega
    have hmc : m < c := by omega
    clear hx hL hV h0 htrim hlen32 hm1 hne
    go_enter Tryd.func81, Tryd.ntmps81
    go_wp2_with (first
      | (go_at_call 61; (with_reducible refine Htrim.out.mono ?_); rintro e w1 ⟨rfl, rfl⟩)
      | (go_at_call 86; (with_reducible refine Hlen.out.mono ?_); rintro e w1 ⟨rfl, rfl⟩))
    go_ret
    exact ⟨by rw [hbits.out]; go_num, rfl⟩
/-- what of a list is asked: it reads as l, its numbers are limbs -/
structure Lim (w : World) (A : Option Addr) (c : Nat) (l : List Nat) : Prop where
  rd : Rd encU 1 w A l
  lt : ∀ x ∈ l, x < 4294967296
  cap : l.length ≤ c
  none : A = none → c = 0
  max : l.length ≤ 274877906944
theorem Lim.below {w w1 : World} {A : Option Addr} {c : Nat} {l : List Nat} (h : Lim w A c l) (hb : Below w.heap.size w w1) : Lim w1 A c l := ⟨h.rd.below hb, h.lt, h.cap, h.none, h.max⟩
set_option maxHeartbeats 400000 in
theorem sbits_any (l : List Nat) (A : Option Addr) (c : Nat) (w : World) (h : Lim w A c l) :
    Calls Tryd.prog 71 #[.agg #[.slice A l.length c]] w (Gives w fun v w' => v = .int .i64 ((bitN (valB 4294967296 l) : Nat) : Int)) := by
  go_enter Tryd.func71, Tryd.ntmps71
  go_wp2_with (first
    | ((with_reducible refine g_dst 1 ?_); go_must (refine ev_box 1 rfl (cs := [.slice A l.length c]) (by rfl) ?_); intro g w1 hb1 B1 hg1; have C1 := B1.cells)
    | (go_at_call 81; (with_reducible refine (bits_any l _ rfl _ _ _ (h.below hb1).rd h.lt h.cap (Nat.le_trans h.max (by omega))).mono ?_); rintro e w2 ⟨rfl, rfl⟩))
  go_ret
  exact ⟨_, rfl, rfl, hb1⟩
set_option maxHeartbeats 400000 in
theorem szero_any (l : List Nat) (A : Option Addr) (c : Nat) (w : World) (h : Lim w A c l) :
    Calls Tryd.prog 62 #[.agg #[.slice A l.length c]] w (Gives w fun v w' => v = .bool (decide (valB 4294967296 l = 0))) := by
  have hz : As (((bitN (valB 4294967296 l) : Int) == 0) = decide (valB 4294967296 l = 0)) := ⟨by
    rw [Bool.eq_iff_iff]; simp [bitN_eq_zero]⟩
  go_enter Tryd.func62, Tryd.ntmps62
  go_wp2_with (first
    | ((with_reducible refine g_dst 1 ?_); go_must (refine ev_box 1 rfl (cs := [.slice A l.length c]) (by rfl) ?_); intro g w1 hb1 B1 hg1; have C1 := B1.cells)
    | (go_at_call 71; (with_reducible refine (sbits_any l _ _ _ (h.below hb1)).mono ?_); rintro e w2 ⟨v2, rfl, rfl, hb2⟩))
  go_ret
  exact ⟨_, rfl, by rw [← hz.out]; rfl, bthen hb1 hb2⟩
theorem infoNumber : (Tryd.prog.info? 85).map (fun i => (i.zero, i.size, i.bytes)) = some (some (.agg #[.slice none 0 0, .bool false]), 2, 32) := by kernel_rfl
/-- the sign as a number -/
def sgn (neg : Bool) (v : Nat) : Int := if v = 0 then 0 else if neg then -1 else 1
/-- the text of a number with its sign -/
def numT (neg : Bool) (v : Nat) : List UInt8 := if neg = true ∧ v ≠ 0 then 45 :: Lib.decDigits v else Lib.decDigits v
theorem run_add_lists {P : Program} (w : World) (x y : List UInt8) (h : x.length + y.length ≤ 9223372036854775807) : (Op.stringOp .add ⟨x.toArray⟩ ⟨y.toArray⟩).run P w = .ok (.string ⟨(x ++ y).toArray⟩) w := by
  rw [run_string_add_sum w _ _ (by simp [ByteArray.size]; omega), ByteArray.mk_append_mk]
theorem dec_len (l : List Nat) (h : ∀ x ∈ l, x < 4294967296) (hm : l.length ≤ 274877906944) : (Lib.decDigits (valB 4294967296 l)).length ≤ 4947802324992 := by
  rcases Nat.eq_zero_or_pos (valB 4294967296 l) with h0 | h0
  · rw [h0, Lib.decDigits_one (by omega)]; simp
  · rw [← joinL_dec _ h0]
    refine Nat.le_trans (joinL_len _ (fun x hx => ?_)) ?_
    · obtain ⟨r, hr, rfl⟩ := List.mem_map.1 hx
      exact dec_len9 r (digB_lt 1000000000 (by omega) _ r hr)
    · rw [List.length_map]
      have := dig9_len l h
      omega
end Go.Proofs.YtdapbegadhcpcaaDoor
