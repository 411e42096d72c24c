/- A string among the arguments, opened. -/
import Derived.Test.YtbdcjlikjpdhfaaDoorRow
import Derived.Test.YtbdcjlikjpdhfaaDoorCards
import Derived.Test.YtbdcjlikjpdhfaaDoorTie
import Derived.Deep.DeepHandedRow
import Derived.Test.YtbdcjlikjpdhfaaDoorMath
import Derived.Test.YtbdcjlikjpdhfaaDoorProg
import Derived.Test.YtbdcjlikjpdhfaaDoorRows
namespace Go.Proofs.YtbdcjlikjpdhfaaDoor
open Go.RowKit Go.Proofs.YtbdcjlikjpdhfaaDoorL Go.Proofs.YtbdcjlikjpdhfaaDoorM Go.ChangeShapes Go.WideShapes Go.ChangeAt Go.Deep
set_option maxRecDepth 100000
set_option linter.unusedVariables false
set_option linter.unusedSimpArgs false
variable {H : Type} {enc : TypeId × Value → H}
theorem openT {W : World} {base : Nat} {v : Value} {d : DataW H} {p : List MemPlace} (hv : Value.okWide Tryd.prog W .any base 9 v) (h : DataW.Trod enc Tryd.prog W 0 (fun _ => true) true 9 v d p) :
    ∃ s : ByteArray, v = .string s ∧ s.size + 1 ≤ Rows.uptoBulk d := by
  obtain ⟨s, rfl⟩ := okWide_string Tryd.underlying9 hv
  obtain ⟨fuel, hf⟩ := h
  obtain ⟨k, e, hd, _⟩ := DataW.trod_string Tryd.underlying9 hf
  simp [Value.cells] at e
  subst e
  simp only [Prod.mk.injEq] at hd
  obtain ⟨rfl, _⟩ := hd
  refine ⟨_, rfl, ?_⟩
  simp only [Rows.uptoBulk]
  simp
end Go.Proofs.YtbdcjlikjpdhfaaDoor
