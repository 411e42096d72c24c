/- tandemref01.Div, Bits, Parse in the form of the laws. -/
import Derived.Test.YtbdcjlikjpdhfaaDoorNatK
import Derived.Test.YtbdcjlikjpdhfaaDoorRef6
namespace Go.Proofs.YtbdcjlikjpdhfaaDoor
open Go.RowKit Go.Proofs.YtbdcjlikjpdhfaaDoorL Go.Proofs.YtbdcjlikjpdhfaaDoorM
set_option linter.unusedVariables false
set_option linter.unusedSimpArgs false
section
variable {w : World} {L : List UR} {A A2 A3 : Option Addr} {n n2 n3 c c2 c3 V U T K K2 K3 : Nat} {can can2 can3 : Bool}
theorem rdivU0 (F : Us w L) (h : (⟨A, n, c, V, K, can⟩ : UR) ∈ L) (h' : (⟨A2, n2, c2, U, K2, can2⟩ : UR) ∈ L) (h0 : U = 0) :
    Calls Tryd.prog 33 #[.slice A n c, .slice A2 n2 c2] w (Gives w (fun v _ => v = .tuple #[.slice none 0 0, .slice none 0 0, .bool false])) := by
  obtain ⟨⟨l, h1, h2, h3, h4⟩, h5⟩ := F.out _ h
  obtain ⟨⟨m, k1, k2, k3, k4⟩, k5⟩ := F.out _ h'
  simp only at h1 h2 h3 h4 h5 k1 k2 k3 k4 k5
  subst h1 k1
  exact rDiv0_any l m A A2 c c2 w (UR.good h2) (UR.good k2) (by rw [k3, h0])
theorem rdivU (F : Us w L) (h : (⟨A, n, c, V, K, can⟩ : UR) ∈ L) (h' : (⟨A2, n2, c2, U, K2, can2⟩ : UR) ∈ L) (h0 : 0 < U) (hK : K ≤ 274877906944) :
    Calls Tryd.prog 33 #[.slice A n c, .slice A2 n2 c2] w (Gives w (fun v w' => ∃ q r, v = .tuple #[q, r, .bool true] ∧ LimRes w (V / U) K q w' ∧ LimRes w (V % U) K r w')) := by
  have g1 := (F.out _ h).lt
  obtain ⟨⟨l, h1, h2, h3, h4⟩, h5⟩ := F.out _ h
  obtain ⟨⟨m, k1, k2, k3, k4⟩, k5⟩ := F.out _ h'
  simp only at h1 h2 h3 h4 h5 k1 k2 k3 k4 k5 g1
  subst h1 k1
  have := rDiv_any l m A A2 c c2 w (UR.good h2) (UR.good k2) (by rw [k3]; exact h0)
  rw [h3, k3] at this
  refine this.mono ?_
  rintro e w' ⟨v, rfl, ⟨q, r, rfl, hq, hr⟩, hb⟩
  exact ⟨_, rfl, ⟨q, r, rfl, LimRes.of hq (Nat.lt_of_le_of_lt (Nat.div_le_self _ _) g1) hK, LimRes.of hr (Nat.lt_of_le_of_lt (Nat.mod_le _ _) g1) hK⟩, hb⟩
end
end Go.Proofs.YtbdcjlikjpdhfaaDoor
