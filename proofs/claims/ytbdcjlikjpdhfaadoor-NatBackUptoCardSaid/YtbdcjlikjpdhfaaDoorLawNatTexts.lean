/- NatTexts. -/
import Derived.Test.YtbdcjlikjpdhfaaDoorAwake1
import Derived.Test.YtbdcjlikjpdhfaaDoorParse2
import Derived.Test.YtbdcjlikjpdhfaaDoorMath7
namespace Go.Proofs.YtbdcjlikjpdhfaaDoor
open Go.RowKit Go.Proofs.YtbdcjlikjpdhfaaDoorL Go.Proofs.YtbdcjlikjpdhfaaDoorM
set_option linter.unusedVariables false
set_option linter.unusedSimpArgs false
theorem rbitsU {w : World} {L : List UR} {A : Option Addr} {n c V K : Nat} {can : Bool} (F : Us w L) (h : (⟨A, n, c, V, K, can⟩ : UR) ∈ L) (b : Nat) (hb : bitN V = b) :
    Calls Tryd.prog 24 #[.slice A n c] w (Gives w (fun v _ => v = .int .i64 (b : Int))) := by
  obtain ⟨⟨l, h1, h2, h3, h4⟩, h5⟩ := F.out _ h
  simp only at h1 h2 h3 h4 h5
  subst h1 hb h3
  exact rBits_any l A c w (UR.good h2)
theorem numV_ltU (s : ByteArray) (hd : ∀ c ∈ s.data.toList, isD c = true) : numV 0 s.data.toList < 4294967296 ^ s.size := by
  have h1 := numV_lt0 _ hd
  have hsl : s.data.toList.length = s.size := by rw [Array.length_toList]; rfl
  rw [hsl] at h1
  exact Nat.lt_of_lt_of_le h1 (Nat.pow_le_pow_left (by omega) _)
theorem parseU (s : ByteArray) (w : World) (hs : s.size ≤ 1073741824) (hd : ∀ c ∈ s.data.toList, isD c = true) (V : Nat) (hV : numV 0 s.data.toList = V) (b : Bool) (hb : decide (0 < s.size) = b) :
    Calls Tryd.prog 19 #[.string s] w (Gives w fun v w' => ∃ q, v = .tuple #[q, .bool b] ∧ LimRes w V s.size q w') := by
  have hlt := numV_ltU s hd
  subst hV hb
  refine (parse_yes s w hs hd).mono ?_
  rintro e w' ⟨v, rfl, ⟨q, rfl, ho⟩, hb⟩
  exact ⟨_, rfl, ⟨q, rfl, LimRes.of ho hlt (by omega)⟩, hb⟩
theorem rparseU (s : ByteArray) (w : World) (hs : s.size ≤ 1073741824) (hd : ∀ c ∈ s.data.toList, isD c = true) (V : Nat) (hV : numV 0 s.data.toList = V) (b : Bool) (hb : decide (0 < s.size) = b) :
    Calls Tryd.prog 20 #[.string s] w (Gives w fun v w' => ∃ q, v = .tuple #[q, .bool b] ∧ LimRes w V s.size q w') := by
  have hlt := numV_ltU s hd
  subst hV hb
  refine (rParse_yes s w hs hd).mono ?_
  rintro e w' ⟨v, rfl, ⟨q, rfl, ho⟩, hb⟩
  exact ⟨_, rfl, ⟨q, rfl, LimRes.of ho hlt (by omega)⟩, hb⟩
theorem sB_decL (n : Nat) : sB (decL n) = ⟨(Lib.decDigits n).toArray⟩ := by
  rw [← decL_dec]
  simp [sB, strOfNums]
set_option maxRecDepth 16000 in
set_option maxHeartbeats 8000000 in
theorem natTexts_any (l1 : List Nat) (s : ByteArray) (A1 : Option Addr) (c1 : Nat) (w : World) (htab : Tab w) (h1 : Lim w A1 c1 l1) (hl : l1.length + s.size ≤ 1048576) :
    Calls Tryd.prog 4 #[.slice A1 l1.length c1, .string s] w (Gives w fun v _ => v = .bool true) := by
  have HT := As.mk htab
  have hcur := Below.refl w.heap.size w
  obtain ⟨k1, V1, e1, f1, o1⟩ := UR.Ok.of h1
  have F := (Us.nil w).cons o1
  rw [e1] at hl ⊢
  clear htab h1 o1 f1 e1
  obtain ⟨T, hT⟩ : ∃ T, Lib.decDigits V1 = T := ⟨_, rfl⟩
  have HTx := As.mk hT
  have HRx : As (sB (decL V1) = ⟨T.toArray⟩) := ⟨by rw [sB_decL, hT]⟩
  obtain ⟨bn, hbn⟩ : ∃ bn, bitN V1 = bn := ⟨_, rfl⟩
  have Hb := As.mk hbn
  clear hbn hT
  by_cases hd : ∀ c ∈ s.data.toList, isD c = true
  · obtain ⟨b, hb⟩ : ∃ b, decide (0 < s.size) = b := ⟨_, rfl⟩
    obtain ⟨V, hV⟩ : ∃ V, numV 0 s.data.toList = V := ⟨_, rfl⟩
    have HP := As.mk (fun W => parseU s W (by omega) hd V hV b hb)
    have HR := As.mk (fun W => rparseU s W (by omega) hd V hV b hb)
    clear hd hb hV
    go_enter Tryd.func4, Tryd.ntmps4
    go_wp2_with (first
      | (go_at_call 19; (with_reducible refine (HP.out _).mono ?_); rintro e wn ⟨vn, rfl, ⟨qn, rfl, ⟨An, nn, cn, rfl, o, _⟩⟩, hb⟩; replace F := (F.below hb).cons o; replace hcur := bthen hcur hb; (try replace Bl := Bl.below hb); clear o hb)
      | (go_at_call 20; (with_reducible refine (HR.out _).mono ?_); rintro e wn ⟨vn, rfl, ⟨qn, rfl, ⟨An, nn, cn, rfl, o, _⟩⟩, hb⟩; replace F := (F.below hb).cons o; replace hcur := bthen hcur hb; (try replace Bl := Bl.below hb); clear o hb)
      | (go_at_call 14; (with_reducible refine (cU F (by repeat (first | exact List.mem_cons_self .. | apply List.mem_cons_of_mem))).mono ?_); rintro e wn ⟨vn, rfl, ⟨An, cn, rfl, o⟩, hb⟩; replace F := (F.below hb).cons o; replace hcur := bthen hcur hb; (try replace Bl := Bl.below hb); clear o hb)
      | (go_at_call 21; (with_reducible refine (textU F (by repeat (first | exact List.mem_cons_self .. | apply List.mem_cons_of_mem)) (HT.out.below hcur) _ HTx.out).mono ?_); rintro e wn ⟨vn, rfl, rfl, hb⟩; replace F := F.below hb; replace hcur := bthen hcur hb; (try replace Bl := Bl.below hb); clear hb)
      | (go_at_call 22; (with_reducible refine (rtextU F (by repeat (first | exact List.mem_cons_self .. | apply List.mem_cons_of_mem)) _ HRx.out).mono ?_); rintro e wn ⟨vn, rfl, rfl, hb⟩; replace F := F.below hb; replace hcur := bthen hcur hb; (try replace Bl := Bl.below hb); clear hb)
      | (go_at_call 23; (with_reducible refine (bitsU F (by repeat (first | exact List.mem_cons_self .. | apply List.mem_cons_of_mem)) _ Hb.out).mono ?_); rintro e wn ⟨rfl, rfl⟩)
      | (go_at_call 24; (with_reducible refine (rbitsU F (by repeat (first | exact List.mem_cons_self .. | apply List.mem_cons_of_mem)) _ Hb.out).mono ?_); rintro e wn ⟨vn, rfl, rfl, hb⟩; replace F := F.below hb; replace hcur := bthen hcur hb; (try replace Bl := Bl.below hb); clear hb)
      | (go_at_call 15; (with_reducible refine (sU F (by repeat (first | exact List.mem_cons_self .. | apply List.mem_cons_of_mem)) (by repeat (first | exact List.mem_cons_self .. | apply List.mem_cons_of_mem)) (by first | with_reducible rfl | rfl)).mono ?_); rintro e wn ⟨vn, rfl, rfl, hb⟩; replace F := F.below hb; replace hcur := bthen hcur hb; (try replace Bl := Bl.below hb); clear hb)
      | (go_at_call 18; (with_reducible refine (awake01_any _ (HT.out.below hcur)).mono ?_); rintro e wn ⟨vn, rfl, rfl, hb⟩; replace F := F.below hb; replace hcur := bthen hcur hb; (try replace Bl := Bl.below hb); clear hb))
    go_ret
    exact ⟨_, rfl, rfl, hcur⟩
  · have HP := As.mk (fun W => parse_no s W (by omega) hd)
    have HR := As.mk (fun W => rParse_no s W (by omega) hd)
    replace F := F.cons (UR.nil_ok w)
    clear hd
    go_enter Tryd.func4, Tryd.ntmps4
    go_wp2_with (first
      | (go_at_call 19; (with_reducible refine (HP.out _).mono ?_); rintro e wn ⟨vn, rfl, rfl, hb⟩; replace F := F.below hb; replace hcur := bthen hcur hb; (try replace Bl := Bl.below hb); clear hb)
      | (go_at_call 20; (with_reducible refine (HR.out _).mono ?_); rintro e wn ⟨vn, rfl, rfl, hb⟩; replace F := F.below hb; replace hcur := bthen hcur hb; (try replace Bl := Bl.below hb); clear hb)
      | (go_at_call 14; (with_reducible refine (cU F (by repeat (first | exact List.mem_cons_self .. | apply List.mem_cons_of_mem))).mono ?_); rintro e wn ⟨vn, rfl, ⟨An, cn, rfl, o⟩, hb⟩; replace F := (F.below hb).cons o; replace hcur := bthen hcur hb; (try replace Bl := Bl.below hb); clear o hb)
      | (go_at_call 21; (with_reducible refine (textU F (by repeat (first | exact List.mem_cons_self .. | apply List.mem_cons_of_mem)) (HT.out.below hcur) _ HTx.out).mono ?_); rintro e wn ⟨vn, rfl, rfl, hb⟩; replace F := F.below hb; replace hcur := bthen hcur hb; (try replace Bl := Bl.below hb); clear hb)
      | (go_at_call 22; (with_reducible refine (rtextU F (by repeat (first | exact List.mem_cons_self .. | apply List.mem_cons_of_mem)) _ HRx.out).mono ?_); rintro e wn ⟨vn, rfl, rfl, hb⟩; replace F := F.below hb; replace hcur := bthen hcur hb; (try replace Bl := Bl.below hb); clear hb)
      | (go_at_call 23; (with_reducible refine (bitsU F (by repeat (first | exact List.mem_cons_self .. | apply List.mem_cons_of_mem)) _ Hb.out).mono ?_); rintro e wn ⟨rfl, rfl⟩)
      | (go_at_call 24; (with_reducible refine (rbitsU F (by repeat (first | exact List.mem_cons_self .. | apply List.mem_cons_of_mem)) _ Hb.out).mono ?_); rintro e wn ⟨vn, rfl, rfl, hb⟩; replace F := F.below hb; replace hcur := bthen hcur hb; (try replace Bl := Bl.below hb); clear hb)
      | (go_at_call 15; (with_reducible refine (sU F (by repeat (first | exact List.mem_cons_self .. | apply List.mem_cons_of_mem)) (by repeat (first | exact List.mem_cons_self .. | apply List.mem_cons_of_mem)) (by first | with_reducible rfl | rfl)).mono ?_); rintro e wn ⟨vn, rfl, rfl, hb⟩; replace F := F.below hb; replace hcur := bthen hcur hb; (try replace Bl := Bl.below hb); clear hb)
      | (go_at_call 18; (with_reducible refine (awake01_any _ (HT.out.below hcur)).mono ?_); rintro e wn ⟨vn, rfl, rfl, hb⟩; replace F := F.below hb; replace hcur := bthen hcur hb; (try replace Bl := Bl.below hb); clear hb))
    go_ret
    exact ⟨_, rfl, rfl, hcur⟩
end Go.Proofs.YtbdcjlikjpdhfaaDoor
