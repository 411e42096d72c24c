/- What a datum that is handed in reads as: its tree. -/
import Derived.Test.YtgeokccfobmeiaaDoorRows
import Derived.Test.YtgeokccfobmeiaaDoorRow
import Derived.Test.YtgeokccfobmeiaaDoorLaw6c
namespace Go.Proofs.YtgeokccfobmeiaaDoor
open Go.RowKit Go.Proofs.YtgeokccfobmeiaaDoorL Go.Proofs.YtgeokccfobmeiaaDoorM Go.ChangeShapes Go.WideShapes Go.ChangeAt Go.Deep
set_option linter.unusedVariables false
set_option linter.unusedSimpArgs false
variable {H : Type} {enc : TypeId × Value → H}
theorem bulk_one {H : Type} (d : DataW H) : 1 ≤ Rows.uptoBulk d := by
  cases d with
  | lit l => cases l <;> simp [Rows.uptoBulk]
  | nil => simp [Rows.uptoBulk]
  | ptr d => simp [Rows.uptoBulk]
  | slice elems spare => simp [Rows.uptoBulk]
  | agg parts => simp [Rows.uptoBulk]
  | iface t d => simp [Rows.uptoBulk]
  | map entries => simp [Rows.uptoBulk]
  | held h => simp [Rows.uptoBulk]
theorem bulk_mem {H : Type} {d : DataW H} : ∀ {l : List (DataW H)}, d ∈ l → Rows.uptoBulk d ≤ Rows.uptoBulkAll l
  | x :: l, h => by
    rw [Rows.uptoBulkAll]
    rcases List.mem_cons.1 h with rfl | h
    · omega
    · have := bulk_mem h; omega
theorem bulk_len {H : Type} : ∀ l : List (DataW H), l.length ≤ Rows.uptoBulkAll l
  | [] => by simp
  | x :: l => by
    have := bulk_len l
    have := bulk_one x
    rw [Rows.uptoBulkAll, List.length_cons]; omega
theorem slice_dec {α : Type} [Inhabited α] {en : α → List Value} {sz : Nat} {w : World} {t e : TypeId} (ht : Tryd.prog.underlying t = some (.slice e)) (hC : Tryd.prog.cellsOf e = sz) (hsz : 0 < sz) {fuel : Nat} (R : α → DataW H → Prop)
    (dec : ∀ n, n < fuel → ∀ cs y, DataW.trod enc Tryd.prog w 0 (fun _ => true) true n e cs = some y → ∃ x, cs = en x ∧ R x y.1) {cs : List Value} {x : DataW H × List MemPlace} (h : DataW.trod enc Tryd.prog w 0 (fun _ => true) true fuel t cs = some x) :
    ∃ (A : Option Addr) (l : List α) (cap : Nat) (ds : List (DataW H)), cs = [.slice A l.length cap] ∧ Rd en sz w A l ∧ l.length ≤ cap ∧ (A = none → cap = 0) ∧ ds.length = l.length ∧ (∀ (i : Nat) (x : α) (d : DataW H), l[i]? = some x → ds[i]? = some d → R x d) ∧ Rows.uptoBulkAll ds + 1 ≤ Rows.uptoBulk x.1 := by
  rcases DataW.trod_slice ht h with ⟨rfl, rfl⟩ | ⟨a, len, cap, elems, rest, n, hf, rfl, rfl, hb, hlc, hm, hel, hat, _, _⟩
  · exact ⟨none, [], 0, [], rfl, Rd.nil _ _ _ _, Nat.le_refl _, fun _ => rfl, rfl, fun i x d h => by simp at h, by simp [Rows.uptoBulkAll, Rows.uptoBulk]⟩
  · have hch : ∀ i, i < len → ∃ x : α, w.cells? 0 (a.add (i * Tryd.prog.cellsOf e)) (Tryd.prog.cellsOf e) = some (en x) ∧ ∀ y, elems[i]? = some y → R x y.1 := fun i hi => by
      have h1 := hat i hi
      have h2 : elems[i]? = some elems[i] := List.getElem?_eq_getElem (by omega)
      rw [h2] at h1
      obtain ⟨cs', h3, h4⟩ := Option.bind_eq_some_iff.1 h1
      obtain ⟨x, rfl, hR⟩ := dec n (by omega) _ _ h4
      refine ⟨x, h3, fun y hy => ?_⟩
      rw [h2] at hy
      cases hy
      exact hR
    obtain ⟨f, hfx⟩ := choose_lt (α := α) (p := fun i x => w.cells? 0 (a.add (i * Tryd.prog.cellsOf e)) (Tryd.prog.cellsOf e) = some (en x) ∧ ∀ y, elems[i]? = some y → R x y.1) hch
    have hlen : ((List.range len).map f).length = len := by simp
    refine ⟨some a, (List.range len).map f, cap, elems.map (·.1), by rw [hlen], ?_, by rw [hlen]; exact hlc, (fun h => by cases h), by rw [hlen, List.length_map, hel], fun i x d hx hd => ?_, by simp only [Rows.uptoBulk]; omega⟩
    · refine ⟨fun hn => ?_⟩
      have h0 : 0 < len := by
        rcases Nat.eq_zero_or_pos len with e | e
        · subst e; exact absurd rfl hn
        · exact e
      obtain ⟨b, off, spot⟩ := a
      have hsp : spot = none := by
        obtain ⟨_, hl, hc⟩ := World.cells?_some (hfx 0 h0).1
        have := hc 0 (by rw [hC]; exact hsz)
        rw [List.getElem?_eq_getElem (by rw [hl, hC]; exact hsz)] at this
        simpa [Addr.add] using World.cell?_spot this
      subst hsp
      refine ⟨b, off, rfl, fun i x hx j v hv => ?_⟩
      rw [List.getElem?_map] at hx
      have hi : i < len := by
        rcases Nat.lt_or_ge i len with hlt | hge
        · exact hlt
        · rw [List.getElem?_eq_none (by simpa using hge)] at hx; simp at hx
      rw [List.getElem?_range hi] at hx
      simp only [Option.map_some, Option.some.injEq] at hx
      subst hx
      obtain ⟨_, hl, hc⟩ := World.cells?_some (hfx i hi).1
      have hj : j < (en (f i)).length := (List.getElem?_eq_some_iff.1 hv).1
      have := hc j (by omega)
      rw [hv, hC, Addr.add_lit, Addr.add_lit] at this
      exact this
    · rw [List.getElem?_map] at hx hd
      have hi : i < len := by
        rcases Nat.lt_or_ge i len with hlt | hge
        · exact hlt
        · rw [List.getElem?_eq_none (by simpa using hge)] at hx; simp at hx
      rw [List.getElem?_range hi] at hx
      simp only [Option.map_some, Option.some.injEq] at hx
      subst hx
      cases he : elems[i]? with
      | none => rw [he] at hd; cases hd
      | some y =>
        rw [he] at hd
        simp only [Option.map_some, Option.some.injEq] at hd
        subst hd
        exact (hfx i hi).2 y he
theorem sum_wt {R : LD → DataW H → Prop} (hR : ∀ x d, R x d → wtD x ≤ Rows.uptoBulk d) : ∀ (l : List LD) (ds : List (DataW H)), ds.length = l.length → (∀ (i : Nat) (x : LD) (d : DataW H), l[i]? = some x → ds[i]? = some d → R x d) → wtAll l ≤ Rows.uptoBulkAll ds
  | [], ds, _, _ => by simp [wtAll]
  | x :: l, [], h, _ => by simp at h
  | x :: l, d :: ds, h, hp => by
    have h1 := sum_wt hR l ds (by simpa using h) (fun i y e hy he => hp (i + 1) y e (by simpa using hy) (by simpa using he))
    have h2 := hR x d (hp 0 x d rfl rfl)
    rw [wtAll, Rows.uptoBulkAll]; omega
instance : Inhabited LD := ⟨.mk 0 0 false none 0 [] [] none 0 [] none 0 []⟩
theorem c27 : Tryd.prog.cellsOf 27 = 7 := by kernel_rfl
theorem c24 : Tryd.prog.cellsOf 24 = 2 := by kernel_rfl
theorem cI : Tryd.prog.cellsOf 3 = 1 := by kernel_rfl
theorem cS : Tryd.prog.cellsOf 9 = 1 := by kernel_rfl
theorem cB : Tryd.prog.cellsOf 4 = 1 := by kernel_rfl
theorem cU : Tryd.prog.cellsOf 52 = 1 := by kernel_rfl
theorem cL : Tryd.prog.cellsOf 22 = 1 := by kernel_rfl
theorem cD : Tryd.prog.cellsOf 25 = 1 := by kernel_rfl
theorem limbs_dec {w : World} {fuel : Nat} {cs : List Value} {x : DataW H × List MemPlace} (h : DataW.trod enc Tryd.prog w 0 (fun _ => true) true fuel 22 cs = some x) :
    ∃ (A : Option Addr) (l : List Nat) (c : Nat), cs = [.slice A l.length c] ∧ Rd encU 1 w A l ∧ (∀ x ∈ l, x < 4294967296) ∧ l.length ≤ c ∧ (A = none → c = 0) ∧ l.length + 1 ≤ Rows.uptoBulk x.1 := by
  obtain ⟨A, l, c, ds, rfl, hr, hc, hA, hdl, hR, hb⟩ := slice_dec (enc := enc) (α := Nat) (en := encU) Tryd.underlying22 cU (by omega) (fun (x : Nat) (d : DataW H) => x < 4294967296) (fun n hn cs y hy => by
    obtain ⟨k, rfl, _, hw⟩ := DataW.trod_int Tryd.underlying52 hy
    have hk : 0 ≤ k ∧ k < 4294967296 := by
      have hmin : IntKind.u32.min = 0 := by decide
      have hmax : IntKind.u32.max = 4294967295 := by decide
      simp only [Lit.wf, hmin, hmax, Bool.and_eq_true, decide_eq_true_eq] at hw
      omega
    exact ⟨k.toNat, by rw [encU, Int.toNat_of_nonneg hk.1], by omega⟩) h
  refine ⟨A, l, c, rfl, hr, fun x hx => ?_, hc, hA, ?_⟩
  · obtain ⟨i, hi, rfl⟩ := List.getElem_of_mem hx
    exact hR i _ ds[i] (List.getElem?_eq_getElem hi) (List.getElem?_eq_getElem (by omega))
  · have := bulk_len ds
    omega
theorem len7 {l : List Value} (h : l.length = 7) : ∃ a b c d e f g, l = [a, b, c, d, e, f, g] := by
  match l, h with
  | [a, b, c, d, e, f, g], _ => exact ⟨a, b, c, d, e, f, g, rfl⟩
theorem len2 {l : List Value} (h : l.length = 2) : ∃ a b, l = [a, b] := by
  match l, h with
  | [a, b], _ => exact ⟨a, b, rfl⟩
/-- WHAT IS READ AS A DATUM IS ONE -/
theorem ld_of {w : World} : ∀ (fuel : Nat) (cs : List Value) (x : DataW H × List MemPlace), DataW.trod enc Tryd.prog w 0 (fun _ => true) true fuel 27 cs = some x → ∃ y : LD, cs = encD y ∧ wtD y ≤ Rows.uptoBulk x.1 ∧ (Rows.uptoBulk x.1 ≤ 1048576 → Good w y) := by
  intro fuel
  induction fuel using Nat.strongRecOn with
  | ind fuel ih =>
    intro cs x h
    obtain ⟨xs, n, rfl, rfl, hcs, hxl, hx⟩ := DataW.trod_struct Tryd.underlying27 h
    rw [c27] at hcs
    obtain ⟨v0, v1, v2, v3, v4, v5, v6, rfl⟩ := len7 hcs
    obtain ⟨x0, x1, x2, x3, x4, x5, rfl⟩ : ∃ x0 x1 x2 x3 x4 x5, xs = [x0, x1, x2, x3, x4, x5] := by
      match xs, hxl with
      | [x0, x1, x2, x3, x4, x5], _ => exact ⟨x0, x1, x2, x3, x4, x5, rfl⟩
    have f0 : DataW.trod enc Tryd.prog w 0 (fun _ => true) true n 3 (([v0, v1, v2, v3, v4, v5, v6].drop 0).take (Tryd.prog.cellsOf 3)) = some x0 := hx 0 _ rfl
    rw [cI] at f0
    change DataW.trod enc Tryd.prog w 0 (fun _ => true) true n 3 [v0] = some x0 at f0
    have f1 : DataW.trod enc Tryd.prog w 0 (fun _ => true) true n 3 (([v0, v1, v2, v3, v4, v5, v6].drop 1).take (Tryd.prog.cellsOf 3)) = some x1 := hx 1 _ rfl
    rw [cI] at f1
    change DataW.trod enc Tryd.prog w 0 (fun _ => true) true n 3 [v1] = some x1 at f1
    have f2 : DataW.trod enc Tryd.prog w 0 (fun _ => true) true n 24 (([v0, v1, v2, v3, v4, v5, v6].drop 2).take (Tryd.prog.cellsOf 24)) = some x2 := hx 2 _ rfl
    rw [c24] at f2
    change DataW.trod enc Tryd.prog w 0 (fun _ => true) true n 24 [v2, v3] = some x2 at f2
    have f3 : DataW.trod enc Tryd.prog w 0 (fun _ => true) true n 9 (([v0, v1, v2, v3, v4, v5, v6].drop 4).take (Tryd.prog.cellsOf 9)) = some x3 := hx 3 _ rfl
    rw [cS] at f3
    change DataW.trod enc Tryd.prog w 0 (fun _ => true) true n 9 [v4] = some x3 at f3
    have f4 : DataW.trod enc Tryd.prog w 0 (fun _ => true) true n 25 (([v0, v1, v2, v3, v4, v5, v6].drop 5).take (Tryd.prog.cellsOf 25)) = some x4 := hx 4 _ rfl
    rw [cD] at f4
    change DataW.trod enc Tryd.prog w 0 (fun _ => true) true n 25 [v5] = some x4 at f4
    have f5 : DataW.trod enc Tryd.prog w 0 (fun _ => true) true n 25 (([v0, v1, v2, v3, v4, v5, v6].drop 6).take (Tryd.prog.cellsOf 25)) = some x5 := hx 5 _ rfl
    rw [cD] at f5
    change DataW.trod enc Tryd.prog w 0 (fun _ => true) true n 25 [v6] = some x5 at f5
    clear hx h hxl hcs
    obtain ⟨kind, e0, rfl, _⟩ := DataW.trod_int Tryd.underlying3 f0
    obtain ⟨nn, e1, rfl, hwf⟩ := DataW.trod_int Tryd.underlying3 f1
    obtain ⟨s, e3, rfl, _⟩ := DataW.trod_string Tryd.underlying9 f3
    obtain ⟨ys, n2, rfl, rfl, _, hyl, hy⟩ := DataW.trod_struct Tryd.underlying24 f2
    obtain ⟨y0, y1, rfl⟩ : ∃ y0 y1, ys = [y0, y1] := by
      match ys, hyl with
      | [y0, y1], _ => exact ⟨y0, y1, rfl⟩
    have g0 : DataW.trod enc Tryd.prog w 0 (fun _ => true) true n2 4 (([v2, v3].drop 0).take (Tryd.prog.cellsOf 4)) = some y0 := hy 0 _ rfl
    rw [cB] at g0
    change DataW.trod enc Tryd.prog w 0 (fun _ => true) true n2 4 [v2] = some y0 at g0
    have g1 : DataW.trod enc Tryd.prog w 0 (fun _ => true) true n2 22 (([v2, v3].drop 1).take (Tryd.prog.cellsOf 22)) = some y1 := hy 1 _ rfl
    rw [cL] at g1
    change DataW.trod enc Tryd.prog w 0 (fun _ => true) true n2 22 [v3] = some y1 at g1
    obtain ⟨neg, e2, rfl⟩ := DataW.trod_bool Tryd.underlying4 g0
    obtain ⟨A, mag, c, e3', hmr, hml, hmc, hmA, hmb⟩ := limbs_dec g1
    have dec : ∀ m, m < n2 + 1 → ∀ cs y, DataW.trod enc Tryd.prog w 0 (fun _ => true) true m 27 cs = some y → ∃ x, cs = encD x ∧ (wtD x ≤ Rows.uptoBulk y.1 ∧ (Rows.uptoBulk y.1 ≤ 1048576 → Good w x)) := fun m hm cs y hy => ih m (by omega) cs y hy
    obtain ⟨Ai, items, ci, di, e5, hir, hic, hiA, hil, hiR, hib⟩ := slice_dec (enc := enc) (α := LD) (en := encD) Tryd.underlying25 c27 (by omega) (fun x d => wtD x ≤ Rows.uptoBulk d ∧ (Rows.uptoBulk d ≤ 1048576 → Good w x)) dec f4
    obtain ⟨Ar, rest, cr, dr, e6, hrr, hrc, hrA, hrl, hrR, hrb⟩ := slice_dec (enc := enc) (α := LD) (en := encD) Tryd.underlying25 c27 (by omega) (fun x d => wtD x ≤ Rows.uptoBulk d ∧ (Rows.uptoBulk d ≤ 1048576 → Good w x)) dec f5
    have hwi := sum_wt (fun x d h => h.1) items di hil hiR
    have hwr := sum_wt (fun x d h => h.1) rest dr hrl hrR
    simp only [List.cons.injEq, and_true] at e0 e1 e2 e3 e3' e5 e6
    subst e0 e1 e2 e3 e3' e5 e6
    have hbulk : Rows.uptoBulk (DataW.agg ([((DataW.lit (.int .i64 kind) : DataW H), ([] : List MemPlace)), (.lit (.int .i64 nn), []), (.agg ([((DataW.lit (.bool neg) : DataW H), ([] : List MemPlace)), y1].map (·.1)), [((DataW.lit (.bool neg) : DataW H), ([] : List MemPlace)), y1].flatMap (·.2)), (.lit (.string s.data.toList), []), x4, x5].map (·.1))) = 1 + (1 + ((1 + (Rows.uptoBulk y1.1 + 0) + 1) + ((s.data.toList.length + 1) + (Rows.uptoBulk x4.1 + (Rows.uptoBulk x5.1 + 0))))) + 1 := by
      simp only [List.map_cons, List.map_nil, Rows.uptoBulk, Rows.uptoBulkAll]
    refine ⟨.mk kind nn neg A c mag s.data.toList Ai ci items Ar cr rest, rfl, ?_, fun hb => ?_⟩
    · rw [hbulk, wtD]; omega
    · rw [hbulk] at hb
      have hmin : IntKind.i64.min = -9223372036854775808 := by decide
      have hmax : IntKind.i64.max = 9223372036854775807 := by decide
      simp only [Lit.wf, hmin, hmax, Bool.and_eq_true, decide_eq_true_eq] at hwf
      refine .mk hwf.1 hwf.2 ⟨hmr, hml, hmc, hmA, by omega⟩ hir hic hiA hrr hrc hrA (fun x hx => ?_) (fun x hx => ?_)
      · obtain ⟨i, hi, rfl⟩ := List.getElem_of_mem hx
        have h1 := hiR i _ di[i] (List.getElem?_eq_getElem hi) (List.getElem?_eq_getElem (by omega))
        exact h1.2 (by have := bulk_mem (List.getElem_mem (show i < di.length by omega)); omega)
      · obtain ⟨i, hi, rfl⟩ := List.getElem_of_mem hx
        have h1 := hrR i _ dr[i] (List.getElem?_eq_getElem hi) (List.getElem?_eq_getElem (by omega))
        exact h1.2 (by have := bulk_mem (List.getElem_mem (show i < dr.length by omega)); omega)
end Go.Proofs.YtgeokccfobmeiaaDoor
