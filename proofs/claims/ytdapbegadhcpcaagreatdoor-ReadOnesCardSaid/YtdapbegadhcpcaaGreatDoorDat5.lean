/- A part of the proof. -/
import Derived.Test.YtdapbegadhcpcaaGreatDoorRows
import Derived.Test.YtdapbegadhcpcaaGreatDoorRow
import Derived.Test.YtdapbegadhcpcaaGreatDoorCards
import Derived.Test.YtdapbegadhcpcaaGreatDoorTie
import Derived.Deep.DeepHandedRow
set_option linter.unusedVariables false
set_option linter.unusedSimpArgs false
namespace Go.Proofs.YtdapbegadhcpcaaGreatDoor
open Go.RowKit Go.Proofs.YtdapbegadhcpcaaGreatDoorL Go.ChangeShapes Go.WideShapes Go.ChangeAt Go.Deep
section
variable {H : Type} {enc : TypeId × Value → H}
set_option maxRecDepth 100000 in
theorem openI {W : World} {base : Nat} {v : Value} {d : DataW H} {p : List MemPlace} (hv : Value.okWide Tryz.prog W .any base 3 v) (h : DataW.Trod enc Tryz.prog W 0 (fun _ => true) true 3 v d p) :
 ∃ n : Int, v = .int .i64 n ∧ (-9223372036854775808 ≤ n ∧ n ≤ 9223372036854775807) := by
 obtain ⟨n, rfl⟩ := okWide_int Tryz.underlying3 hv
 obtain ⟨fuel, hf⟩ := h
 obtain ⟨k, e, _, hw⟩ := DataW.trod_int Tryz.underlying3 hf
 simp [Value.cells] at e
 subst e
 have hmin : IntKind.i64.min = -9223372036854775808 := by decide
 have hmax : IntKind.i64.max = 9223372036854775807 := by decide
 simp only [Lit.wf, hmin, hmax, Bool.and_eq_true, decide_eq_true_eq] at hw
 exact ⟨n, rfl, hw⟩
end
section
set_option maxRecDepth 100000
variable {H : Type} {enc : TypeId × Value → H}
theorem openT {W : World} {base : Nat} {v : Value} {d : DataW H} {p : List MemPlace} (hv : Value.okWide Tryz.prog W .any base 9 v) (h : DataW.Trod enc Tryz.prog W 0 (fun _ => true) true 9 v d p) :
 ∃ s : ByteArray, v = .string s ∧ s.size + 1 ≤ Rows.uptoBulk d := by
 obtain ⟨s, rfl⟩ := okWide_string Tryz.underlying9 hv
 obtain ⟨fuel, hf⟩ := h
 obtain ⟨k, e, hd, _⟩ := DataW.trod_string Tryz.underlying9 hf
 simp [Value.cells] at e
 subst e
 simp only [Prod.mk.injEq] at hd
 obtain ⟨rfl, _⟩ := hd
 refine ⟨_, rfl, ?_⟩
 simp only [Rows.uptoBulk]
 simp
end
theorem ownK : ownKnob Tryz.prog.godebug = none := by kernel_rfl
theorem laidOut : laidOutB Tryz.prog = true := by kernel_rfl
def litCells : DataW Unit → Array Value
 | .agg l => (l.map fun d => match d with | .lit (.int k n) => Value.int k n | _ => undef).toArray
 | _ => #[]
def layTab (h : Array Obj) (g : Nat) (cs : Array Value) : Array Obj := h.modify g fun
 | .cells _ t frozen => .cells cs t frozen
 | o => o
noncomputable def low : Nat := (World.holding Tryz.prog default ⟨#[], #[], []⟩).heap.size
noncomputable def laidWorld (os : Os) : World :=
 let w0 := World.holding Tryz.prog os ⟨#[.cells #[.string ⟨#[118, 97, 108, 117, 101, 32, 111, 117, 116, 32, 111, 102, 32, 114, 97, 110, 103, 101]⟩] 133, .cells #[.string ⟨#[105, 110, 118, 97, 108, 105, 100, 32, 115, 121, 110, 116, 97, 120]⟩] 133], #[], []⟩
 { w0 with heap := layTab (layTab (layTab (layTab (layTab w0.heap 3 (litCells Rows.laid_internal_strconv_uint64pow10)) 4 (litCells Rows.laid_math_bits_deBruijn32tab)) 5 (litCells Rows.laid_math_bits_deBruijn64tab)) 2 #[.iface 131 (.pointer (some ⟨low, 0, none⟩))]) 1 #[.iface 131 (.pointer (some ⟨low + 1, 0, none⟩))] }
end Go.Proofs.YtdapbegadhcpcaaGreatDoor
