/- What lists of limbs, and lists of such lists, that are handed in read as. -/
import Derived.Test.YtbdcjlikjpdhfaaDoorRows
import Derived.Test.YtbdcjlikjpdhfaaDoorRow
import Derived.Test.YtbdcjlikjpdhfaaDoorCards
import Derived.Test.YtbdcjlikjpdhfaaDoorTie
import Derived.Deep.DeepHandedRow
import Derived.Lib.LaidTab
import Derived.Stop.LaidErr
import Derived.Test.YtbdcjlikjpdhfaaDoorNatK
namespace Go.Proofs.YtbdcjlikjpdhfaaDoor
open Go.RowKit Go.Proofs.YtbdcjlikjpdhfaaDoorL Go.Proofs.YtbdcjlikjpdhfaaDoorM Go.ChangeShapes Go.WideShapes Go.ChangeAt Go.Deep
set_option linter.unusedVariables false
set_option linter.unusedSimpArgs false
variable {H : Type} {enc : TypeId × Value → H}
theorem bulk_one {H : Type} (d : DataW H) : 1 ≤ Rows.uptoBulk d := by
  cases d with
  | lit l => cases l <;> simp [Rows.uptoBulk]
  | nil => simp [Rows.uptoBulk]
  | ptr d => simp [Rows.uptoBulk]
  | slice elems spare => simp [Rows.uptoBulk]
  | agg parts => simp [Rows.uptoBulk]
  | iface t d => simp [Rows.uptoBulk]
  | map entries => simp [Rows.uptoBulk]
  | held h => simp [Rows.uptoBulk]
theorem bulk_mem {H : Type} {d : DataW H} : ∀ {l : List (DataW H)}, d ∈ l → Rows.uptoBulk d ≤ Rows.uptoBulkAll l
  | x :: l, h => by
    rw [Rows.uptoBulkAll]
    rcases List.mem_cons.1 h with rfl | h
    · omega
    · have := bulk_mem h; omega
theorem bulk_len {H : Type} : ∀ l : List (DataW H), l.length ≤ Rows.uptoBulkAll l
  | [] => by simp
  | x :: l => by
    have := bulk_len l
    have := bulk_one x
    rw [Rows.uptoBulkAll, List.length_cons]; omega
theorem slice_dec {α : Type} [Inhabited α] {en : α → List Value} {sz : Nat} {w : World} {t e : TypeId} (ht : Tryd.prog.underlying t = some (.slice e)) (hC : Tryd.prog.cellsOf e = sz) (hsz : 0 < sz) {fuel : Nat} (R : α → DataW H → Prop)
    (dec : ∀ n, n < fuel → ∀ cs y, DataW.trod enc Tryd.prog w 0 (fun _ => true) true n e cs = some y → ∃ x, cs = en x ∧ R x y.1) {cs : List Value} {x : DataW H × List MemPlace} (h : DataW.trod enc Tryd.prog w 0 (fun _ => true) true fuel t cs = some x) :
    ∃ (A : Option Addr) (l : List α) (cap : Nat) (ds : List (DataW H)), cs = [.slice A l.length cap] ∧ Rd en sz w A l ∧ l.length ≤ cap ∧ (A = none → cap = 0) ∧ ds.length = l.length ∧ (∀ (i : Nat) (x : α) (d : DataW H), l[i]? = some x → ds[i]? = some d → R x d) ∧ Rows.uptoBulkAll ds + 1 ≤ Rows.uptoBulk x.1 := by
  rcases DataW.trod_slice ht h with ⟨rfl, rfl⟩ | ⟨a, len, cap, elems, rest, n, hf, rfl, rfl, hb, hlc, hm, hel, hat, _, _⟩
  · exact ⟨none, [], 0, [], rfl, Rd.nil _ _ _ _, Nat.le_refl _, fun _ => rfl, rfl, fun i x d h => by simp at h, by simp [Rows.uptoBulkAll, Rows.uptoBulk]⟩
  · have hch : ∀ i, i < len → ∃ x : α, w.cells? 0 (a.add (i * Tryd.prog.cellsOf e)) (Tryd.prog.cellsOf e) = some (en x) ∧ ∀ y, elems[i]? = some y → R x y.1 := fun i hi => by
      have h1 := hat i hi
      have h2 : elems[i]? = some elems[i] := List.getElem?_eq_getElem (by omega)
      rw [h2] at h1
      obtain ⟨cs', h3, h4⟩ := Option.bind_eq_some_iff.1 h1
      obtain ⟨x, rfl, hR⟩ := dec n (by omega) _ _ h4
      refine ⟨x, h3, fun y hy => ?_⟩
      rw [h2] at hy
      cases hy
      exact hR
    obtain ⟨f, hfx⟩ := choose_lt (α := α) (p := fun i x => w.cells? 0 (a.add (i * Tryd.prog.cellsOf e)) (Tryd.prog.cellsOf e) = some (en x) ∧ ∀ y, elems[i]? = some y → R x y.1) hch
    have hlen : ((List.range len).map f).length = len := by simp
    refine ⟨some a, (List.range len).map f, cap, elems.map (·.1), by rw [hlen], ?_, by rw [hlen]; exact hlc, (fun h => by cases h), by rw [hlen, List.length_map, hel], fun i x d hx hd => ?_, by simp only [Rows.uptoBulk]; omega⟩
    · refine ⟨fun hn => ?_⟩
      have h0 : 0 < len := by
        rcases Nat.eq_zero_or_pos len with e | e
        · subst e; exact absurd rfl hn
        · exact e
      obtain ⟨b, off, spot⟩ := a
      have hsp : spot = none := by
        obtain ⟨_, hl, hc⟩ := World.cells?_some (hfx 0 h0).1
        have := hc 0 (by rw [hC]; exact hsz)
        rw [List.getElem?_eq_getElem (by rw [hl, hC]; exact hsz)] at this
        simpa [Addr.add] using World.cell?_spot this
      subst hsp
      refine ⟨b, off, rfl, fun i x hx j v hv => ?_⟩
      rw [List.getElem?_map] at hx
      have hi : i < len := by
        rcases Nat.lt_or_ge i len with hlt | hge
        · exact hlt
        · rw [List.getElem?_eq_none (by simpa using hge)] at hx; simp at hx
      rw [List.getElem?_range hi] at hx
      simp only [Option.map_some, Option.some.injEq] at hx
      subst hx
      obtain ⟨_, hl, hc⟩ := World.cells?_some (hfx i hi).1
      have hj : j < (en (f i)).length := (List.getElem?_eq_some_iff.1 hv).1
      have := hc j (by omega)
      rw [hv, hC, Addr.add_lit, Addr.add_lit] at this
      exact this
    · rw [List.getElem?_map] at hx hd
      have hi : i < len := by
        rcases Nat.lt_or_ge i len with hlt | hge
        · exact hlt
        · rw [List.getElem?_eq_none (by simpa using hge)] at hx; simp at hx
      rw [List.getElem?_range hi] at hx
      simp only [Option.map_some, Option.some.injEq] at hx
      subst hx
      cases he : elems[i]? with
      | none => rw [he] at hd; cases hd
      | some y =>
        rw [he] at hd
        simp only [Option.map_some, Option.some.injEq] at hd
        subst hd
        exact (hfx i hi).2 y he
theorem cellsU : Tryd.prog.cellsOf 36 = 1 := by kernel_rfl
theorem cL : Tryd.prog.cellsOf 22 = 1 := by kernel_rfl
theorem limbs_dec {w : World} {fuel : Nat} {cs : List Value} {x : DataW H × List MemPlace} (h : DataW.trod enc Tryd.prog w 0 (fun _ => true) true fuel 22 cs = some x) :
    ∃ (A : Option Addr) (l : List Nat) (c : Nat), cs = [.slice A l.length c] ∧ Rd encU 1 w A l ∧ (∀ x ∈ l, x < 4294967296) ∧ l.length ≤ c ∧ (A = none → c = 0) ∧ l.length + 1 ≤ Rows.uptoBulk x.1 := by
  obtain ⟨A, l, c, ds, rfl, hr, hc, hA, hdl, hR, hb⟩ := slice_dec (enc := enc) (α := Nat) (en := encU) Tryd.underlying22 cellsU (by omega) (fun (x : Nat) (d : DataW H) => x < 4294967296) (fun n hn cs y hy => by
    obtain ⟨k, rfl, _, hw⟩ := DataW.trod_int Tryd.underlying36 hy
    have hk : 0 ≤ k ∧ k < 4294967296 := by
      have hmin : IntKind.u32.min = 0 := by decide
      have hmax : IntKind.u32.max = 4294967295 := by decide
      simp only [Lit.wf, hmin, hmax, Bool.and_eq_true, decide_eq_true_eq] at hw
      omega
    exact ⟨k.toNat, by rw [encU, Int.toNat_of_nonneg hk.1], by omega⟩) h
  refine ⟨A, l, c, rfl, hr, fun x hx => ?_, hc, hA, ?_⟩
  · obtain ⟨i, hi, rfl⟩ := List.getElem_of_mem hx
    exact hR i _ ds[i] (List.getElem?_eq_getElem hi) (List.getElem?_eq_getElem (by omega))
  · have := bulk_len ds
    omega
set_option maxRecDepth 100000 in
theorem openU {W : World} {base : Nat} {v : Value} {d : DataW H} {p : List MemPlace} (hv : Value.okWide Tryd.prog W .any base 22 v) (h : DataW.Trod enc Tryd.prog W 0 (fun _ => true) true 22 v d p) :
    ∃ (A : Option Addr) (l : List Nat) (c : Nat), v = .slice A l.length c ∧ l.length + 1 ≤ Rows.uptoBulk d ∧ (Rows.uptoBulk d ≤ 1048576 → Lim W A c l) := by
  obtain ⟨A', n', c', rfl⟩ := okWide_slice Tryd.underlying22 hv
  obtain ⟨fuel, hf⟩ := h
  obtain ⟨A, l, c, e, hr, hl, hc, hA, hb⟩ := limbs_dec hf
  simp [Value.cells] at e
  obtain ⟨rfl, rfl, rfl⟩ := e
  simp only at hb
  exact ⟨_, l, _, rfl, hb, fun hk => ⟨hr, hl, hc, hA, by omega⟩⟩
instance : Inhabited Sl := ⟨⟨none, 0, []⟩⟩
theorem sl_of {w : World} {fuel : Nat} {cs : List Value} {x : DataW H × List MemPlace} (h : DataW.trod enc Tryd.prog w 0 (fun _ => true) true fuel 22 cs = some x) :
    ∃ s : Sl, cs = encS s ∧ s.l.length + 1 ≤ Rows.uptoBulk x.1 ∧ (Rows.uptoBulk x.1 ≤ 1048576 → s.Good w) := by
  obtain ⟨A, l, c, rfl, hr, hl, hc, hA, hb⟩ := limbs_dec h
  exact ⟨⟨A, c, l⟩, rfl, hb, fun hk => ⟨hr, hl, hc, by show l.length ≤ _; omega, hA⟩⟩
theorem sum_lensS {R : Sl → DataW H → Prop} (hR : ∀ x d, R x d → x.l.length + 1 ≤ Rows.uptoBulk d) : ∀ (l : List Sl) (ds : List (DataW H)), ds.length = l.length → (∀ (i : Nat) (x : Sl) (d : DataW H), l[i]? = some x → ds[i]? = some d → R x d) → l.length + lens (l.map Sl.l) ≤ Rows.uptoBulkAll ds
  | [], ds, _, _ => by simp [lens]
  | x :: l, [], h, _ => by simp at h
  | x :: l, d :: ds, h, hp => by
    have h1 := sum_lensS hR l ds (by simpa using h) (fun i y e hy he => hp (i + 1) y e (by simpa using hy) (by simpa using he))
    have h2 := hR x d (hp 0 x d rfl rfl)
    rw [List.map_cons, lens, Rows.uptoBulkAll, List.length_cons]; omega
theorem cLL : Tryd.prog.cellsOf 22 = 1 := by kernel_rfl
set_option maxRecDepth 100000 in
theorem openUs {W : World} {base : Nat} {v : Value} {d : DataW H} {p : List MemPlace} (hv : Value.okWide Tryd.prog W .any base 23 v) (h : DataW.Trod enc Tryd.prog W 0 (fun _ => true) true 23 v d p) :
    ∃ (A : Option Addr) (l : List Sl) (c : Nat), v = .slice A l.length c ∧ Rd encS 1 W A l ∧ l.length ≤ c ∧ (A = none → c = 0) ∧ l.length + lens (l.map Sl.l) + 1 ≤ Rows.uptoBulk d ∧ (Rows.uptoBulk d ≤ 1048576 → ∀ y ∈ l, y.Good W) := by
  obtain ⟨A', n', c', rfl⟩ := okWide_slice Tryd.underlying23 hv
  obtain ⟨fuel, hf⟩ := h
  obtain ⟨A, l, c, ds, e, hr, hc, hA, hdl, hR, hb⟩ := slice_dec (enc := enc) (α := Sl) (en := encS) Tryd.underlying23 cLL (by omega) (fun x d => x.l.length + 1 ≤ Rows.uptoBulk d ∧ (Rows.uptoBulk d ≤ 1048576 → x.Good W)) (fun n hn cs y hy => sl_of hy) hf
  simp [Value.cells] at e
  obtain ⟨rfl, rfl, rfl⟩ := e
  have hw := sum_lensS (fun x d h => h.1) l ds hdl hR
  simp only at hb
  refine ⟨_, l, _, rfl, hr, hc, hA, by omega, fun hk x hx => ?_⟩
  obtain ⟨i, hi, rfl⟩ := List.getElem_of_mem hx
  have h1 := hR i _ ds[i] (List.getElem?_eq_getElem hi) (List.getElem?_eq_getElem (by omega))
  exact h1.2 (by have := bulk_mem (List.getElem_mem (show i < ds.length by omega)); omega)
set_option maxRecDepth 100000 in
theorem openI {W : World} {base : Nat} {v : Value} {d : DataW H} {p : List MemPlace} (hv : Value.okWide Tryd.prog W .any base 3 v) (h : DataW.Trod enc Tryd.prog W 0 (fun _ => true) true 3 v d p) :
    ∃ n : Int, v = .int .i64 n ∧ (-9223372036854775808 ≤ n ∧ n ≤ 9223372036854775807) := by
  obtain ⟨n, rfl⟩ := okWide_int Tryd.underlying3 hv
  obtain ⟨fuel, hf⟩ := h
  obtain ⟨k, e, _, hw⟩ := DataW.trod_int Tryd.underlying3 hf
  simp [Value.cells] at e
  subst e
  have hmin : IntKind.i64.min = -9223372036854775808 := by decide
  have hmax : IntKind.i64.max = 9223372036854775807 := by decide
  simp only [Lit.wf, hmin, hmax, Bool.and_eq_true, decide_eq_true_eq] at hw
  exact ⟨n, rfl, hw⟩
theorem ownK : ownKnob Tryd.prog.godebug = none := by kernel_rfl
theorem gTab : Tryd.prog.globalNamed "internal/strconv.uint64pow10" = some 2 := by kernel_rfl
theorem gTabType : (Tryd.prog.globals[2]?).map (·.type) = some 109 := by kernel_rfl
theorem cellsTab : Tryd.prog.cellsOf 109 = 20 := by kernel_rfl
theorem cells64 : Tryd.prog.cellsOf 51 = 1 := by kernel_rfl
theorem laidOut : laidOutB Tryd.prog = true := by kernel_rfl
theorem tab_of {W : World} (h : laidMetH Tryd.prog Rows.natSumsRow.laid W) : Tab W := by
  have h1 : laidMet Tryd.prog Rows.natSumsRow.laid W := h
  exact Lib.tabIs_of_head gTab gTabType Tryd.underlying109 Tryd.underlying51 cells64 cellsTab h1.tail.tail
def litCells : DataW Unit → Array Value
  | .agg l => (l.map fun d => match d with | .lit (.int k n) => Value.int k n | _ => undef).toArray
  | _ => #[]
def layTab (h : Array Obj) (g : Nat) (cs : Array Value) : Array Obj := h.modify g fun
  | .cells _ t frozen => .cells cs t frozen
  | o => o
noncomputable def low : Nat := (World.holding Tryd.prog default ⟨#[], #[], []⟩).heap.size
noncomputable def laidWorld (os : Os) : World :=
  let w0 := World.holding Tryd.prog os ⟨#[.cells #[.string ⟨#[118, 97, 108, 117, 101, 32, 111, 117, 116, 32, 111, 102, 32, 114, 97, 110, 103, 101]⟩] 116, .cells #[.string ⟨#[105, 110, 118, 97, 108, 105, 100, 32, 115, 121, 110, 116, 97, 120]⟩] 116], #[], []⟩
  { w0 with heap := layTab (layTab (layTab (layTab (layTab w0.heap 2 (litCells Rows.laid_internal_strconv_uint64pow10)) 4 (litCells Rows.laid_math_bits_deBruijn32tab)) 5 (litCells Rows.laid_math_bits_deBruijn64tab)) 1 #[.iface 114 (.pointer (some ⟨low, 0, none⟩))]) 0 #[.iface 114 (.pointer (some ⟨low + 1, 0, none⟩))] }
end Go.Proofs.YtbdcjlikjpdhfaaDoor
