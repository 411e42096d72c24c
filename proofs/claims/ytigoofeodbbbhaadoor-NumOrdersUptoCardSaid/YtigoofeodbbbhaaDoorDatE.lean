/- Dat3 OpenT, in one text. -/
import Derived.Test.YtigoofeodbbbhaaDoorDat2
import Derived.Test.YtigoofeodbbbhaaDoorRow
import Derived.Test.YtigoofeodbbbhaaDoorCards
import Derived.Test.YtigoofeodbbbhaaDoorTie
import Derived.Deep.DeepHandedRow
import Derived.Test.YtigoofeodbbbhaaDoorMath
import Derived.Test.YtigoofeodbbbhaaDoorProg
import Derived.Test.YtigoofeodbbbhaaDoorRows
/- A start world where the errors of strconv lie too. -/
namespace Go.Proofs.YtigoofeodbbbhaaDoor
open Go.RowKit Go.Proofs.YtigoofeodbbbhaaDoorL Go.Proofs.YtigoofeodbbbhaaDoorM Go.ChangeShapes Go.WideShapes Go.ChangeAt Go.Deep
theorem tab_ofE {W : World} (h : laidMetH Tryd.prog Rows.numTextsRow.laid W) : Tab W := by
  have h1 : laidMet Tryd.prog Rows.numTextsRow.laid W := h
  exact Lib.tabIs_of_head gTab gTabType Tryd.underlying136 Tryd.underlying63 cells64 cellsTab h1.tail.tail
noncomputable def lowE : Nat := (World.holding Tryd.prog default ⟨#[], #[], []⟩).heap.size
noncomputable def laidWorldE (os : Os) : World :=
  let w0 := World.holding Tryd.prog os ⟨#[.cells #[.string ⟨#[118, 97, 108, 117, 101, 32, 111, 117, 116, 32, 111, 102, 32, 114, 97, 110, 103, 101]⟩] 143, .cells #[.string ⟨#[105, 110, 118, 97, 108, 105, 100, 32, 115, 121, 110, 116, 97, 120]⟩] 143], #[], []⟩
  { w0 with heap := layTab (layTab (layTab (layTab (layTab w0.heap 2 (litCells Rows.laid_internal_strconv_uint64pow10)) 4 (litCells Rows.laid_math_bits_deBruijn32tab)) 5 (litCells Rows.laid_math_bits_deBruijn64tab)) 1 #[.iface 141 (.pointer (some ⟨lowE, 0, none⟩))]) 0 #[.iface 141 (.pointer (some ⟨lowE + 1, 0, none⟩))] }
end Go.Proofs.YtigoofeodbbbhaaDoor
/- A string among the arguments, opened. -/
namespace Go.Proofs.YtigoofeodbbbhaaDoor
open Go.RowKit Go.Proofs.YtigoofeodbbbhaaDoorL Go.Proofs.YtigoofeodbbbhaaDoorM Go.ChangeShapes Go.WideShapes Go.ChangeAt Go.Deep
set_option maxRecDepth 100000
set_option linter.unusedVariables false
set_option linter.unusedSimpArgs false
variable {H : Type} {enc : TypeId × Value → H}
theorem openT {W : World} {base : Nat} {v : Value} {d : DataW H} {p : List MemPlace} (hv : Value.okWide Tryd.prog W .any base 9 v) (h : DataW.Trod enc Tryd.prog W 0 (fun _ => true) true 9 v d p) :
    ∃ s : ByteArray, v = .string s ∧ s.size + 1 ≤ Rows.uptoBulk d := by
  obtain ⟨s, rfl⟩ := okWide_string Tryd.underlying9 hv
  obtain ⟨fuel, hf⟩ := h
  obtain ⟨k, e, hd, _⟩ := DataW.trod_string Tryd.underlying9 hf
  simp [Value.cells] at e
  subst e
  simp only [Prod.mk.injEq] at hd
  obtain ⟨rfl, _⟩ := hd
  refine ⟨_, rfl, ?_⟩
  simp only [Rows.uptoBulk]
  simp
end Go.Proofs.YtigoofeodbbbhaaDoor
