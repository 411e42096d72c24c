/- How an outcome that is handed in reads: its five fields; a slice of outcomes. -/
import Derived.Test.YtbbnmlbalefnpaaJ2
import Derived.Test.YtbbnmlbalefnpaaRow
import Derived.ShutString
import Derived.ChangeOld
namespace Go.Proofs.Ytbbnmlbalefnpaa
open Go.RowKit Go.Proofs.YtbbnmlbalefnpaaL Go.ChangeShapes Go.WideShapes Go.ChangeAt
theorem own : ownKnob Try.prog.godebug = none := by kernel_rfl
theorem laidOut : laidOutB Try.prog = true := by kernel_rfl
theorem cells24 : Try.prog.cellsOf 24 = 5 := by kernel_rfl
theorem cells3 : Try.prog.cellsOf 3 = 1 := by kernel_rfl
theorem cells9 : Try.prog.cellsOf 9 = 1 := by kernel_rfl
theorem cells22 : Try.prog.cellsOf 22 = 1 := by kernel_rfl
instance : Inhabited Out := ⟨⟨0, ⟨#[]⟩, ⟨#[]⟩, 0, 0⟩⟩
theorem dec24 {H : Type} {enc : TypeId × Value → H} {w : World} {base : Nat} {spare : Nat → Bool} {held : Bool} (n : Nat) (cs : List Value) (y : DataW H × List MemPlace) (h : DataW.trod enc Try.prog w base spare held n 24 cs = some y) : ∃ x : Out, cs = encO x := by
  have hl := (struct_len Try.underlying24 h).trans cells24
  match cs, hl with
  | [c0, c1, c2, c3, c4], _ =>
    obtain ⟨_, _, h0⟩ := field_at Try.underlying24 h 0 rfl rfl cells3
    obtain ⟨_, _, h1⟩ := field_at Try.underlying24 h 1 rfl rfl cells9
    obtain ⟨_, _, h2⟩ := field_at Try.underlying24 h 2 rfl rfl cells9
    obtain ⟨_, _, h3⟩ := field_at Try.underlying24 h 3 rfl rfl cells22
    obtain ⟨_, _, h4⟩ := field_at Try.underlying24 h 4 rfl rfl cells3
    obtain ⟨a0, e0, _, _⟩ := DataW.trod_int Try.underlying3 h0
    obtain ⟨a1, e1, _, _⟩ := DataW.trod_string Try.underlying9 h1
    obtain ⟨a2, e2, _, _⟩ := DataW.trod_string Try.underlying9 h2
    obtain ⟨a3, e3, _, _⟩ := DataW.trod_int Try.underlying22 h3
    obtain ⟨a4, e4, _, _⟩ := DataW.trod_int Try.underlying3 h4
    simp at e0 e1 e2 e3 e4
    subst e0 e1 e2 e3 e4
    exact ⟨⟨a0, a1, a2, a3, a4⟩, rfl⟩
theorem open24 {H : Type} {enc : TypeId × Value → H} {W : World} {base : Nat} {v : Value} {d : DataW H} {p : List MemPlace} (hv : Value.okWide Try.prog W .any base 24 v) (h : DataW.Trod enc Try.prog W 0 (fun _ => true) true 24 v d p) :
    ∃ x : Out, v = .agg #[.int .i64 x.how, .string x.out, .string x.text, .int .i64 x.err, .int .i64 x.at_] := by
  obtain ⟨cs, rfl, hsz⟩ := okWide_struct Try.underlying24 hv
  obtain ⟨fuel, hf⟩ := h
  obtain ⟨x, hx⟩ := dec24 fuel cs.toList _ hf
  exact ⟨x, by rw [← show cs.toList.toArray = cs from by simp, hx]; rfl⟩
end Go.Proofs.Ytbbnmlbalefnpaa
