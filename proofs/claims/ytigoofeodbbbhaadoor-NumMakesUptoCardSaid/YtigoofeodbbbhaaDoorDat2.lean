/- What numbers and lists of numbers that are handed in read as. -/
import Derived.Test.YtigoofeodbbbhaaDoorRows
import Derived.Test.YtigoofeodbbbhaaDoorRow
import Derived.Test.YtigoofeodbbbhaaDoorCards
import Derived.Test.YtigoofeodbbbhaaDoorTie
import Derived.Deep.DeepHandedRow
import Derived.Lib.LaidTab
import Derived.Stop.LaidErr
import Derived.Test.YtigoofeodbbbhaaDoorNum6
namespace Go.Proofs.YtigoofeodbbbhaaDoor
open Go.RowKit Go.Proofs.YtigoofeodbbbhaaDoorL Go.Proofs.YtigoofeodbbbhaaDoorM Go.ChangeShapes Go.WideShapes Go.ChangeAt Go.Deep
set_option linter.unusedVariables false
set_option linter.unusedSimpArgs false
variable {H : Type} {enc : TypeId × Value → H}
theorem bulk_one {H : Type} (d : DataW H) : 1 ≤ Rows.uptoBulk d := by
  cases d with
  | lit l => cases l <;> simp [Rows.uptoBulk]
  | nil => simp [Rows.uptoBulk]
  | ptr d => simp [Rows.uptoBulk]
  | slice elems spare => simp [Rows.uptoBulk]
  | agg parts => simp [Rows.uptoBulk]
  | iface t d => simp [Rows.uptoBulk]
  | map entries => simp [Rows.uptoBulk]
  | held h => simp [Rows.uptoBulk]
theorem bulk_mem {H : Type} {d : DataW H} : ∀ {l : List (DataW H)}, d ∈ l → Rows.uptoBulk d ≤ Rows.uptoBulkAll l
  | x :: l, h => by
    rw [Rows.uptoBulkAll]
    rcases List.mem_cons.1 h with rfl | h
    · omega
    · have := bulk_mem h; omega
theorem bulk_len {H : Type} : ∀ l : List (DataW H), l.length ≤ Rows.uptoBulkAll l
  | [] => by simp
  | x :: l => by
    have := bulk_len l
    have := bulk_one x
    rw [Rows.uptoBulkAll, List.length_cons]; omega
theorem slice_dec {α : Type} [Inhabited α] {en : α → List Value} {sz : Nat} {w : World} {t e : TypeId} (ht : Tryd.prog.underlying t = some (.slice e)) (hC : Tryd.prog.cellsOf e = sz) (hsz : 0 < sz) {fuel : Nat} (R : α → DataW H → Prop)
    (dec : ∀ n, n < fuel → ∀ cs y, DataW.trod enc Tryd.prog w 0 (fun _ => true) true n e cs = some y → ∃ x, cs = en x ∧ R x y.1) {cs : List Value} {x : DataW H × List MemPlace} (h : DataW.trod enc Tryd.prog w 0 (fun _ => true) true fuel t cs = some x) :
    ∃ (A : Option Addr) (l : List α) (cap : Nat) (ds : List (DataW H)), cs = [.slice A l.length cap] ∧ Rd en sz w A l ∧ l.length ≤ cap ∧ (A = none → cap = 0) ∧ ds.length = l.length ∧ (∀ (i : Nat) (x : α) (d : DataW H), l[i]? = some x → ds[i]? = some d → R x d) ∧ Rows.uptoBulkAll ds + 1 ≤ Rows.uptoBulk x.1 := by
  rcases DataW.trod_slice ht h with ⟨rfl, rfl⟩ | ⟨a, len, cap, elems, rest, n, hf, rfl, rfl, hb, hlc, hm, hel, hat, _, _⟩
  · exact ⟨none, [], 0, [], rfl, Rd.nil _ _ _ _, Nat.le_refl _, fun _ => rfl, rfl, fun i x d h => by simp at h, by simp [Rows.uptoBulkAll, Rows.uptoBulk]⟩
  · have hch : ∀ i, i < len → ∃ x : α, w.cells? 0 (a.add (i * Tryd.prog.cellsOf e)) (Tryd.prog.cellsOf e) = some (en x) ∧ ∀ y, elems[i]? = some y → R x y.1 := fun i hi => by
      have h1 := hat i hi
      have h2 : elems[i]? = some elems[i] := List.getElem?_eq_getElem (by omega)
      rw [h2] at h1
      obtain ⟨cs', h3, h4⟩ := Option.bind_eq_some_iff.1 h1
      obtain ⟨x, rfl, hR⟩ := dec n (by omega) _ _ h4
      refine ⟨x, h3, fun y hy => ?_⟩
      rw [h2] at hy
      cases hy
      exact hR
    obtain ⟨f, hfx⟩ := choose_lt (α := α) (p := fun i x => w.cells? 0 (a.add (i * Tryd.prog.cellsOf e)) (Tryd.prog.cellsOf e) = some (en x) ∧ ∀ y, elems[i]? = some y → R x y.1) hch
    have hlen : ((List.range len).map f).length = len := by simp
    refine ⟨some a, (List.range len).map f, cap, elems.map (·.1), by rw [hlen], ?_, by rw [hlen]; exact hlc, (fun h => by cases h), by rw [hlen, List.length_map, hel], fun i x d hx hd => ?_, by simp only [Rows.uptoBulk]; omega⟩
    · refine ⟨fun hn => ?_⟩
      have h0 : 0 < len := by
        rcases Nat.eq_zero_or_pos len with e | e
        · subst e; exact absurd rfl hn
        · exact e
      obtain ⟨b, off, spot⟩ := a
      have hsp : spot = none := by
        obtain ⟨_, hl, hc⟩ := World.cells?_some (hfx 0 h0).1
        have := hc 0 (by rw [hC]; exact hsz)
        rw [List.getElem?_eq_getElem (by rw [hl, hC]; exact hsz)] at this
        simpa [Addr.add] using World.cell?_spot this
      subst hsp
      refine ⟨b, off, rfl, fun i x hx j v hv => ?_⟩
      rw [List.getElem?_map] at hx
      have hi : i < len := by
        rcases Nat.lt_or_ge i len with hlt | hge
        · exact hlt
        · rw [List.getElem?_eq_none (by simpa using hge)] at hx; simp at hx
      rw [List.getElem?_range hi] at hx
      simp only [Option.map_some, Option.some.injEq] at hx
      subst hx
      obtain ⟨_, hl, hc⟩ := World.cells?_some (hfx i hi).1
      have hj : j < (en (f i)).length := (List.getElem?_eq_some_iff.1 hv).1
      have := hc j (by omega)
      rw [hv, hC, Addr.add_lit, Addr.add_lit] at this
      exact this
    · rw [List.getElem?_map] at hx hd
      have hi : i < len := by
        rcases Nat.lt_or_ge i len with hlt | hge
        · exact hlt
        · rw [List.getElem?_eq_none (by simpa using hge)] at hx; simp at hx
      rw [List.getElem?_range hi] at hx
      simp only [Option.map_some, Option.some.injEq] at hx
      subst hx
      cases he : elems[i]? with
      | none => rw [he] at hd; cases hd
      | some y =>
        rw [he] at hd
        simp only [Option.map_some, Option.some.injEq] at hd
        subst hd
        exact (hfx i hi).2 y he
theorem c24 : Tryd.prog.cellsOf 26 = 2 := by kernel_rfl
theorem cB : Tryd.prog.cellsOf 4 = 1 := by kernel_rfl
theorem cU : Tryd.prog.cellsOf 62 = 1 := by kernel_rfl
theorem cL : Tryd.prog.cellsOf 24 = 1 := by kernel_rfl
theorem limbs_dec {w : World} {fuel : Nat} {cs : List Value} {x : DataW H × List MemPlace} (h : DataW.trod enc Tryd.prog w 0 (fun _ => true) true fuel 24 cs = some x) :
    ∃ (A : Option Addr) (l : List Nat) (c : Nat), cs = [.slice A l.length c] ∧ Rd encU 1 w A l ∧ (∀ x ∈ l, x < 4294967296) ∧ l.length ≤ c ∧ (A = none → c = 0) ∧ l.length + 1 ≤ Rows.uptoBulk x.1 := by
  obtain ⟨A, l, c, ds, rfl, hr, hc, hA, hdl, hR, hb⟩ := slice_dec (enc := enc) (α := Nat) (en := encU) Tryd.underlying24 cU (by omega) (fun (x : Nat) (d : DataW H) => x < 4294967296) (fun n hn cs y hy => by
    obtain ⟨k, rfl, _, hw⟩ := DataW.trod_int Tryd.underlying62 hy
    have hk : 0 ≤ k ∧ k < 4294967296 := by
      have hmin : IntKind.u32.min = 0 := by decide
      have hmax : IntKind.u32.max = 4294967295 := by decide
      simp only [Lit.wf, hmin, hmax, Bool.and_eq_true, decide_eq_true_eq] at hw
      omega
    exact ⟨k.toNat, by rw [encU, Int.toNat_of_nonneg hk.1], by omega⟩) h
  refine ⟨A, l, c, rfl, hr, fun x hx => ?_, hc, hA, ?_⟩
  · obtain ⟨i, hi, rfl⟩ := List.getElem_of_mem hx
    exact hR i _ ds[i] (List.getElem?_eq_getElem hi) (List.getElem?_eq_getElem (by omega))
  · have := bulk_len ds
    omega
theorem len2 {l : List Value} (h : l.length = 2) : ∃ a b, l = [a, b] := by
  match l, h with
  | [a, b], _ => exact ⟨a, b, rfl⟩
instance : Inhabited LN := ⟨⟨false, none, 0, []⟩⟩
/-- WHAT IS READ AS A NUMBER IS ONE -/
theorem ln_of {w : World} {fuel : Nat} {cs : List Value} {x : DataW H × List MemPlace} (h : DataW.trod enc Tryd.prog w 0 (fun _ => true) true fuel 26 cs = some x) :
    ∃ y : LN, cs = encN y ∧ y.mag.length + 3 ≤ Rows.uptoBulk x.1 ∧ (Rows.uptoBulk x.1 ≤ 1048576 → LimN w y) := by
  obtain ⟨ys, n2, rfl, rfl, hcs2, hyl, hy⟩ := DataW.trod_struct Tryd.underlying26 h
  rw [c24] at hcs2
  obtain ⟨u0, u1, rfl⟩ := len2 hcs2
  obtain ⟨y0, y1, rfl⟩ : ∃ y0 y1, ys = [y0, y1] := by
    match ys, hyl with
    | [y0, y1], _ => exact ⟨y0, y1, rfl⟩
  have g0 : DataW.trod enc Tryd.prog w 0 (fun _ => true) true n2 4 (([u0, u1].drop 0).take (Tryd.prog.cellsOf 4)) = some y0 := hy 0 _ rfl
  have g1 : DataW.trod enc Tryd.prog w 0 (fun _ => true) true n2 24 (([u0, u1].drop 1).take (Tryd.prog.cellsOf 24)) = some y1 := hy 1 _ rfl
  rw [cB] at g0
  rw [cL] at g1
  obtain ⟨neg, e3, rfl⟩ := DataW.trod_bool Tryd.underlying4 g0
  obtain ⟨A, mag, c, e3', hmr, hml, hmc, hmA, hmb⟩ := limbs_dec g1
  simp only [List.drop_zero, List.take_succ_cons, List.take_zero, List.drop_succ_cons, List.cons.injEq, and_true] at e3 e3'
  subst e3 e3'
  refine ⟨⟨neg, A, c, mag⟩, rfl, ?_, fun hb => ?_⟩
  · simp only [List.map_cons, List.map_nil, Rows.uptoBulk, Rows.uptoBulkAll]; omega
  · simp only [List.map_cons, List.map_nil, Rows.uptoBulk, Rows.uptoBulkAll] at hb
    exact ⟨hmr, hml, hmc, hmA, by show mag.length ≤ _; omega⟩
set_option maxRecDepth 100000 in
theorem openN {W : World} {base : Nat} {v : Value} {d : DataW H} {p : List MemPlace} (hv : Value.okWide Tryd.prog W .any base 26 v) (h : DataW.Trod enc Tryd.prog W 0 (fun _ => true) true 26 v d p) :
    ∃ x : LN, v = .agg (encN x).toArray ∧ x.mag.length + 3 ≤ Rows.uptoBulk d ∧ (Rows.uptoBulk d ≤ 1048576 → LimN W x) := by
  obtain ⟨cs, rfl, hsz⟩ := okWide_struct Tryd.underlying26 hv
  obtain ⟨fuel, hf⟩ := h
  obtain ⟨x, hx, h1, h2⟩ := ln_of (fuel := fuel) (cs := cs.toList) hf
  exact ⟨x, by rw [← show cs.toList.toArray = cs from by simp, hx], h1, h2⟩
theorem sum_lens {R : LN → DataW H → Prop} (hR : ∀ x d, R x d → x.mag.length + 3 ≤ Rows.uptoBulk d) : ∀ (l : List LN) (ds : List (DataW H)), ds.length = l.length → (∀ (i : Nat) (x : LN) (d : DataW H), l[i]? = some x → ds[i]? = some d → R x d) → l.length + lens (l.map LN.mag) ≤ Rows.uptoBulkAll ds
  | [], ds, _, _ => by simp [lens]
  | x :: l, [], h, _ => by simp at h
  | x :: l, d :: ds, h, hp => by
    have h1 := sum_lens hR l ds (by simpa using h) (fun i y e hy he => hp (i + 1) y e (by simpa using hy) (by simpa using he))
    have h2 := hR x d (hp 0 x d rfl rfl)
    rw [List.map_cons, lens, Rows.uptoBulkAll, List.length_cons]; omega
set_option maxRecDepth 100000 in
theorem openNs {W : World} {base : Nat} {v : Value} {d : DataW H} {p : List MemPlace} (hv : Value.okWide Tryd.prog W .any base 22 v) (h : DataW.Trod enc Tryd.prog W 0 (fun _ => true) true 22 v d p) :
    ∃ (A : Option Addr) (l : List LN) (c : Nat), v = .slice A l.length c ∧ Rd encN 2 W A l ∧ l.length ≤ c ∧ (A = none → c = 0) ∧ l.length + lens (l.map LN.mag) + 1 ≤ Rows.uptoBulk d ∧ (Rows.uptoBulk d ≤ 1048576 → ∀ y ∈ l, LimN W y) := by
  obtain ⟨A', n', c', rfl⟩ := okWide_slice Tryd.underlying22 hv
  obtain ⟨fuel, hf⟩ := h
  obtain ⟨A, l, c, ds, e, hr, hc, hA, hdl, hR, hb⟩ := slice_dec (enc := enc) (α := LN) (en := encN) Tryd.underlying22 c24 (by omega) (fun x d => x.mag.length + 3 ≤ Rows.uptoBulk d ∧ (Rows.uptoBulk d ≤ 1048576 → LimN W x)) (fun n hn cs y hy => ln_of hy) hf
  simp [Value.cells] at e
  obtain ⟨rfl, rfl, rfl⟩ := e
  have hw := sum_lens (fun x d h => h.1) l ds hdl hR
  simp only at hb
  refine ⟨_, l, _, rfl, hr, hc, hA, by omega, fun hk x hx => ?_⟩
  obtain ⟨i, hi, rfl⟩ := List.getElem_of_mem hx
  have h1 := hR i _ ds[i] (List.getElem?_eq_getElem hi) (List.getElem?_eq_getElem (by omega))
  exact h1.2 (by have := bulk_mem (List.getElem_mem (show i < ds.length by omega)); omega)
set_option maxRecDepth 100000 in
theorem openI64 {W : World} {base : Nat} {v : Value} {d : DataW H} {p : List MemPlace} (hv : Value.okWide Tryd.prog W .any base 2 v) (h : DataW.Trod enc Tryd.prog W 0 (fun _ => true) true 2 v d p) :
    ∃ n : Int, v = .int .i64 n ∧ (-9223372036854775808 ≤ n ∧ n ≤ 9223372036854775807) := by
  obtain ⟨n, rfl⟩ := okWide_int Tryd.underlying2 hv
  obtain ⟨fuel, hf⟩ := h
  obtain ⟨k, e, _, hw⟩ := DataW.trod_int Tryd.underlying2 hf
  simp [Value.cells] at e
  subst e
  have hmin : IntKind.i64.min = -9223372036854775808 := by decide
  have hmax : IntKind.i64.max = 9223372036854775807 := by decide
  simp only [Lit.wf, hmin, hmax, Bool.and_eq_true, decide_eq_true_eq] at hw
  exact ⟨n, rfl, hw⟩
theorem ownK : ownKnob Tryd.prog.godebug = none := by kernel_rfl
theorem gTab : Tryd.prog.globalNamed "internal/strconv.uint64pow10" = some 2 := by kernel_rfl
theorem gTabType : (Tryd.prog.globals[2]?).map (·.type) = some 136 := by kernel_rfl
theorem cellsTab : Tryd.prog.cellsOf 136 = 20 := by kernel_rfl
theorem cells64 : Tryd.prog.cellsOf 63 = 1 := by kernel_rfl
theorem laidOut : laidOutB Tryd.prog = true := by kernel_rfl
theorem tab_of {W : World} (h : laidMetH Tryd.prog Rows.numSumsRow.laid W) : Tab W := by
  have h1 : laidMet Tryd.prog Rows.numSumsRow.laid W := h
  exact Lib.tabIs_of_head (rest := []) gTab gTabType Tryd.underlying136 Tryd.underlying63 cells64 cellsTab h1.tail.tail
def litCells : DataW Unit → Array Value
  | .agg l => (l.map fun d => match d with | .lit (.int k n) => Value.int k n | _ => undef).toArray
  | _ => #[]
def layTab (h : Array Obj) (g : Nat) (cs : Array Value) : Array Obj := h.modify g fun
  | .cells _ t frozen => .cells cs t frozen
  | o => o
noncomputable def laidWorld (os : Os) : World :=
  { World.holding Tryd.prog os ⟨#[], #[], []⟩ with heap := layTab (layTab (layTab (World.holding Tryd.prog os ⟨#[], #[], []⟩).heap 2 (litCells Rows.laid_internal_strconv_uint64pow10)) 4 (litCells Rows.laid_math_bits_deBruijn32tab)) 5 (litCells Rows.laid_math_bits_deBruijn64tab) }
end Go.Proofs.YtigoofeodbbbhaaDoor
