import Derived.Test.YtdapbegadhcpcaaDoorDat5
import Derived.Test.YtdapbegadhcpcaaDoorMA
/- Lists of texts and of numbers that are handed in. -/
namespace Go.Proofs.YtdapbegadhcpcaaDoor
open Go.RowKit Go.Proofs.YtdapbegadhcpcaaDoorL Go.Proofs.YtdapbegadhcpcaaDoorM Go.ChangeShapes Go.WideShapes Go.ChangeAt Go.Deep
set_option linter.unusedVariables false
set_option linter.unusedSimpArgs false
section
variable {H : Type} {enc : TypeId × Value → H}
theorem bulk_one {H : Type} (d : DataW H) : 1 ≤ Rows.uptoBulk d := by
  cases d with
  | lit l => cases l <;> simp [Rows.uptoBulk]
  | nil => simp [Rows.uptoBulk]
  | ptr d => simp [Rows.uptoBulk]
  | slice elems spare => simp [Rows.uptoBulk]
  | agg parts => simp [Rows.uptoBulk]
  | iface t d => simp [Rows.uptoBulk]
  | map entries => simp [Rows.uptoBulk]
  | held h => simp [Rows.uptoBulk]
theorem bulk_mem {H : Type} {d : DataW H} : ∀ {l : List (DataW H)}, d ∈ l → Rows.uptoBulk d ≤ Rows.uptoBulkAll l
  | x :: l, h => by
    rw [Rows.uptoBulkAll]
    rcases List.mem_cons.1 h with rfl | h
    · omega
    · have := bulk_mem h; omega
theorem bulk_len {H : Type} : ∀ l : List (DataW H), l.length ≤ Rows.uptoBulkAll l
  | [] => by simp
  | x :: l => by
    have := bulk_len l
    have := bulk_one x
    rw [Rows.uptoBulkAll, List.length_cons]; omega
theorem slice_dec {α : Type} [Inhabited α] {en : α → List Value} {sz : Nat} {w : World} {t e : TypeId} (ht : Tryd.prog.underlying t = some (.slice e)) (hC : Tryd.prog.cellsOf e = sz) (hsz : 0 < sz) {fuel : Nat} (R : α → DataW H → Prop)
    (dec : ∀ n, n < fuel → ∀ cs y, DataW.trod enc Tryd.prog w 0 (fun _ => true) true n e cs = some y → ∃ x, cs = en x ∧ R x y.1) {cs : List Value} {x : DataW H × List MemPlace} (h : DataW.trod enc Tryd.prog w 0 (fun _ => true) true fuel t cs = some x) :
    ∃ (A : Option Addr) (l : List α) (cap : Nat) (ds : List (DataW H)), cs = [.slice A l.length cap] ∧ Rd en sz w A l ∧ l.length ≤ cap ∧ (A = none → cap = 0) ∧ ds.length = l.length ∧ (∀ (i : Nat) (x : α) (d : DataW H), l[i]? = some x → ds[i]? = some d → R x d) ∧ Rows.uptoBulkAll ds + 1 ≤ Rows.uptoBulk x.1 := by
  rcases DataW.trod_slice ht h with ⟨rfl, rfl⟩ | ⟨a, len, cap, elems, rest, n, hf, rfl, rfl, hb, hlc, hm, hel, hat, _, _⟩
  · exact ⟨none, [], 0, [], rfl, Rd.nil _ _ _ _, Nat.le_refl _, fun _ => rfl, rfl, fun i x d h => by simp at h, by simp [Rows.uptoBulkAll, Rows.uptoBulk]⟩
  · have hch : ∀ i, i < len → ∃ x : α, w.cells? 0 (a.add (i * Tryd.prog.cellsOf e)) (Tryd.prog.cellsOf e) = some (en x) ∧ ∀ y, elems[i]? = some y → R x y.1 := fun i hi => by
      have h1 := hat i hi
      have h2 : elems[i]? = some elems[i] := List.getElem?_eq_getElem (by omega)
      rw [h2] at h1
      obtain ⟨cs', h3, h4⟩ := Option.bind_eq_some_iff.1 h1
      obtain ⟨x, rfl, hR⟩ := dec n (by omega) _ _ h4
      refine ⟨x, h3, fun y hy => ?_⟩
      rw [h2] at hy
      cases hy
      exact hR
    obtain ⟨f, hfx⟩ := choose_lt (α := α) (p := fun i x => w.cells? 0 (a.add (i * Tryd.prog.cellsOf e)) (Tryd.prog.cellsOf e) = some (en x) ∧ ∀ y, elems[i]? = some y → R x y.1) hch
    have hlen : ((List.range len).map f).length = len := by simp
    refine ⟨some a, (List.range len).map f, cap, elems.map (·.1), by rw [hlen], ?_, by rw [hlen]; exact hlc, (fun h => by cases h), by rw [hlen, List.length_map, hel], fun i x d hx hd => ?_, by simp only [Rows.uptoBulk]; omega⟩
    · refine ⟨fun hn => ?_⟩
      have h0 : 0 < len := by
        rcases Nat.eq_zero_or_pos len with e | e
        · subst e; exact absurd rfl hn
        · exact e
      obtain ⟨b, off, spot⟩ := a
      have hsp : spot = none := by
        obtain ⟨_, hl, hc⟩ := World.cells?_some (hfx 0 h0).1
        have := hc 0 (by rw [hC]; exact hsz)
        rw [List.getElem?_eq_getElem (by rw [hl, hC]; exact hsz)] at this
        simpa [Addr.add] using World.cell?_spot this
      subst hsp
      refine ⟨b, off, rfl, fun i x hx j v hv => ?_⟩
      rw [List.getElem?_map] at hx
      have hi : i < len := by
        rcases Nat.lt_or_ge i len with hlt | hge
        · exact hlt
        · rw [List.getElem?_eq_none (by simpa using hge)] at hx; simp at hx
      rw [List.getElem?_range hi] at hx
      simp only [Option.map_some, Option.some.injEq] at hx
      subst hx
      obtain ⟨_, hl, hc⟩ := World.cells?_some (hfx i hi).1
      have hj : j < (en (f i)).length := (List.getElem?_eq_some_iff.1 hv).1
      have := hc j (by omega)
      rw [hv, hC, Addr.add_lit, Addr.add_lit] at this
      exact this
    · rw [List.getElem?_map] at hx hd
      have hi : i < len := by
        rcases Nat.lt_or_ge i len with hlt | hge
        · exact hlt
        · rw [List.getElem?_eq_none (by simpa using hge)] at hx; simp at hx
      rw [List.getElem?_range hi] at hx
      simp only [Option.map_some, Option.some.injEq] at hx
      subst hx
      cases he : elems[i]? with
      | none => rw [he] at hd; cases hd
      | some y =>
        rw [he] at hd
        simp only [Option.map_some, Option.some.injEq] at hd
        subst hd
        exact (hfx i hi).2 y he
def encBA : ByteArray → List Value := fun b => [.string b]
def encZI : Int → List Value := fun z => [.int .i64 z]
theorem lenBA : ∀ x, (encBA x).length = 1 := fun _ => rfl
theorem lenZI : ∀ x, (encZI x).length = 1 := fun _ => rfl
instance : Inhabited ByteArray := ⟨⟨#[]⟩⟩
theorem cellsStr : Tryd.prog.cellsOf 9 = 1 := by kernel_rfl
theorem cellsInt : Tryd.prog.cellsOf 3 = 1 := by kernel_rfl
set_option maxRecDepth 100000 in
theorem openTs {W : World} {base : Nat} {v : Value} {d : DataW H} {p : List MemPlace} (hv : Value.okWide Tryd.prog W .any base 35 v) (h : DataW.Trod enc Tryd.prog W 0 (fun _ => true) true 35 v d p) :
    ∃ (A : Option Addr) (l : List ByteArray) (c : Nat), v = .slice A l.length c ∧ Rd encBA 1 W A l ∧ l.length ≤ c := by
  obtain ⟨A', n', c', rfl⟩ := okWide_slice Tryd.underlying35 hv
  obtain ⟨fuel, hf⟩ := h
  obtain ⟨A, l, c, ds, e, hr, hc, hA, hdl, hR, hb⟩ := slice_dec (enc := enc) (α := ByteArray) (en := encBA) Tryd.underlying35 cellsStr (by omega) (fun x d => True) (fun n hn cs y hy => by
    obtain ⟨k, e, hd, _⟩ := DataW.trod_string Tryd.underlying9 hy
    exact ⟨k, e, trivial⟩) hf
  simp [Value.cells] at e
  obtain ⟨rfl, rfl, rfl⟩ := e
  exact ⟨_, l, _, rfl, hr, hc⟩
set_option maxRecDepth 100000 in
theorem openIs {W : World} {base : Nat} {v : Value} {d : DataW H} {p : List MemPlace} (hv : Value.okWide Tryd.prog W .any base 36 v) (h : DataW.Trod enc Tryd.prog W 0 (fun _ => true) true 36 v d p) :
    ∃ (A : Option Addr) (l : List Int) (c : Nat), v = .slice A l.length c ∧ Rd encZI 1 W A l ∧ l.length ≤ c ∧ ∀ z ∈ l, -9223372036854775808 ≤ z ∧ z ≤ 9223372036854775807 := by
  obtain ⟨A', n', c', rfl⟩ := okWide_slice Tryd.underlying36 hv
  obtain ⟨fuel, hf⟩ := h
  obtain ⟨A, l, c, ds, e, hr, hc, hA, hdl, hR, hb⟩ := slice_dec (enc := enc) (α := Int) (en := encZI) Tryd.underlying36 cellsInt (by omega) (fun x d => -9223372036854775808 ≤ x ∧ x ≤ 9223372036854775807) (fun n hn cs y hy => by
    obtain ⟨k, e, _, hw⟩ := DataW.trod_int Tryd.underlying3 hy
    have hmin : IntKind.i64.min = -9223372036854775808 := by decide
    have hmax : IntKind.i64.max = 9223372036854775807 := by decide
    simp only [Lit.wf, hmin, hmax, Bool.and_eq_true, decide_eq_true_eq] at hw
    exact ⟨k, e, hw⟩) hf
  simp [Value.cells] at e
  obtain ⟨rfl, rfl, rfl⟩ := e
  refine ⟨_, l, _, rfl, hr, hc, fun x hx => ?_⟩
  obtain ⟨i, hi, rfl⟩ := List.getElem_of_mem hx
  exact hR i _ ds[i] (List.getElem?_eq_getElem hi) (List.getElem?_eq_getElem (by omega))
end
end Go.Proofs.YtdapbegadhcpcaaDoor
