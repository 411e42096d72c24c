import Derived.Test.YtgeokccfobmeiaaGreatDoorRows
import Derived.Test.YtgeokccfobmeiaaGreatDoorRow
import Derived.Test.YtgeokccfobmeiaaGreatDoorCards
import Derived.Test.YtgeokccfobmeiaaGreatDoorTie
import Derived.Test.YtgeokccfobmeiaaGreatDoorMC
import Derived.Deep.DeepHandedRow
import Derived.Lib.LaidTab
import Derived.Stop.LaidErr
/- The world in which a law of layer 6 begins; texts and bytes handed in. -/
namespace Go.Proofs.YtgeokccfobmeiaaGreatDoor
open Go.RowKit Go.Proofs.YtgeokccfobmeiaaGreatDoorL Go.Proofs.YtgeokccfobmeiaaGreatDoorM Go.ChangeShapes Go.WideShapes Go.ChangeAt Go.Deep
set_option linter.unusedVariables false
set_option linter.unusedSimpArgs false
section
set_option maxRecDepth 100000
variable {H : Type} {enc : TypeId × Value → H}
theorem openT {W : World} {base : Nat} {v : Value} {d : DataW H} {p : List MemPlace} (hv : Value.okWide Tryz.prog W .any base 9 v) (h : DataW.Trod enc Tryz.prog W 0 (fun _ => true) true 9 v d p) :
    ∃ s : ByteArray, v = .string s ∧ s.size + 1 ≤ Rows.uptoBulk d := by
  obtain ⟨s, rfl⟩ := okWide_string Tryz.underlying9 hv
  obtain ⟨fuel, hf⟩ := h
  obtain ⟨k, e, hd, _⟩ := DataW.trod_string Tryz.underlying9 hf
  simp [Value.cells] at e
  subst e
  simp only [Prod.mk.injEq] at hd
  obtain ⟨rfl, _⟩ := hd
  refine ⟨_, rfl, ?_⟩
  simp only [Rows.uptoBulk]
  simp
theorem openB {W : World} {base : Nat} {v : Value} {d : DataW H} {p : List MemPlace} (hv : Value.okWide Tryz.prog W .any base 5 v) (h : DataW.Trod enc Tryz.prog W 0 (fun _ => true) true 5 v d p) :
    ∃ n : UInt8, v = .int .u8 (n.toNat : Int) := by
  obtain ⟨n, rfl⟩ := okWide_int Tryz.underlying5 hv
  obtain ⟨fuel, hf⟩ := h
  obtain ⟨k, e, _, hw⟩ := DataW.trod_int Tryz.underlying5 hf
  simp [Value.cells] at e
  subst e
  have hmin : IntKind.u8.min = 0 := by decide
  have hmax : IntKind.u8.max = 255 := by decide
  simp only [Lit.wf, hmin, hmax, Bool.and_eq_true, decide_eq_true_eq] at hw
  refine ⟨UInt8.ofNat n.toNat, ?_⟩
  rw [UInt8.toNat_ofNat', Nat.mod_eq_of_lt (by omega), Int.toNat_of_nonneg hw.1]
end
theorem ownK : ownKnob Tryz.prog.godebug = none := by kernel_rfl
theorem gTab : Tryz.prog.globalNamed "internal/strconv.uint64pow10" = some 1 := by kernel_rfl
theorem gTabType : (Tryz.prog.globals[1]?).map (·.type) = some 135 := by kernel_rfl
theorem cellsTab : Tryz.prog.cellsOf 135 = 20 := by kernel_rfl
theorem cells64 : Tryz.prog.cellsOf 85 = 1 := by kernel_rfl
theorem laidOut : laidOutB Tryz.prog = true := by kernel_rfl
theorem tab_of {W : World} (h : laidMetH Tryz.prog Rows.showTextsRow.laid W) : Tab W := by
  have h1 : laidMet Tryz.prog Rows.showTextsRow.laid W := h
  exact Lib.tabIs_of_head gTab gTabType Tryz.underlying135 Tryz.underlying85 cells64 cellsTab h1.tail.tail
def litCells : DataW Unit → Array Value
  | .agg l => (l.map fun d => match d with | .lit (.int k n) => Value.int k n | _ => undef).toArray
  | _ => #[]
def layTab (h : Array Obj) (g : Nat) (cs : Array Value) : Array Obj := h.modify g fun
  | .cells _ t frozen => .cells cs t frozen
  | o => o
noncomputable def low : Nat := (World.holding Tryz.prog default ⟨#[], #[], []⟩).heap.size
noncomputable def laidWorld (os : Os) : World :=
  let w0 := World.holding Tryz.prog os ⟨#[.cells #[.string ⟨#[118, 97, 108, 117, 101, 32, 111, 117, 116, 32, 111, 102, 32, 114, 97, 110, 103, 101]⟩] 150, .cells #[.string ⟨#[105, 110, 118, 97, 108, 105, 100, 32, 115, 121, 110, 116, 97, 120]⟩] 150], #[], []⟩
  { w0 with heap := layTab (layTab (layTab (layTab (layTab w0.heap 1 (litCells Rows.laid_internal_strconv_uint64pow10)) 4 (litCells Rows.laid_math_bits_deBruijn32tab)) 5 (litCells Rows.laid_math_bits_deBruijn64tab)) 3 #[.iface 148 (.pointer (some ⟨low, 0, none⟩))]) 2 #[.iface 148 (.pointer (some ⟨low + 1, 0, none⟩))] }
end Go.Proofs.YtgeokccfobmeiaaGreatDoor
