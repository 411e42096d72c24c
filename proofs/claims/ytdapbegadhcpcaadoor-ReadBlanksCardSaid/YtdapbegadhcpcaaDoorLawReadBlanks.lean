import Derived.Test.YtdapbegadhcpcaaDoorMM
import Derived.Test.YtdapbegadhcpcaaDoorSames
import Derived.Test.YtdapbegadhcpcaaDoorDat5b
import Derived.Test.YtdapbegadhcpcaaDoorRead14
import Derived.Test.YtdapbegadhcpcaaDoorMJ
/- tandemlaw05.ReadBlanks. -/
namespace Go.Proofs.YtdapbegadhcpcaaDoor
open Go.RowKit Go.Proofs.YtdapbegadhcpcaaDoorL Go.Proofs.YtdapbegadhcpcaaDoorM
set_option linter.unusedVariables false
set_option linter.unusedSimpArgs false
/-- what stands behind p is read behind the data acc -/
def GapI (p : List UInt8) (acc : List DV) : Prop := ∀ rest r, AllR (p ++ rest) p.length acc r → AllR (p ++ rest) 0 [] r
theorem gapI_nil : GapI [] [] := fun rest r h => h
theorem gapI_step {p t : List UInt8} {acc m : List DV} (g : Nat) (h : GapI p acc) (ht : AllR t 0 [] (.ok m)) : GapI (p ++ (t ++ (10 :: gap g))) (acc ++ m) := fun rest r hr => by
  have e : p ++ (t ++ (10 :: gap g)) ++ rest = p ++ (t ++ (10 :: (gap g ++ rest))) := by simp
  rw [e] at hr ⊢
  refine h _ _ (all_gap (rest := rest) g ht ?_)
  rw [show p.length + (t.length + (1 + (gap g).length)) = (p ++ (t ++ (10 :: gap g))).length by simp; omega]
  exact hr
theorem gapI_end {p : List UInt8} {acc : List DV} (h : GapI p acc) : AllR p 0 [] (.ok acc) := by
  have := h [] (.ok acc) (by rw [List.append_nil]; exact .fin (.b_fin (bcls_ge (Nat.le_refl _))) (Nat.le_refl _))
  rwa [List.append_nil] at this
theorem all_err {s : List UInt8} {i : Nat} {acc : List DV} {r : Except (Nat × Nat) (List DV)} (h : AllR s i acc r) : ∀ {p c : Nat}, r = .error (p, c) → c ≠ 0 := by
  induction h with
  | err h1 => intro p c h; cases h; exact run_err h1 rfl
  | fin h1 h2 => intro p c h; cases h
  | bad h1 h2 h3 => intro p c h; cases h; exact run_err h3 rfl
  | more h1 h2 h3 h4 ih => intro p c h; exact ih h
/-- what stands in the loop -/
structure BL (w wr : World) (l : List ByteArray) (p : List UInt8) (k : Nat) (A : Option Addr) (c : Nat) (m : List LD) (acc : List DV) : Prop where
  its : Its wr.heap.size w.heap.size wr A c m acc
  low : Below w.heap.size w wr
  gap : GapI p acc
  pl : p.length ≤ k * 2020
  ml : m.length ≤ k * 65536
  kl : k ≤ l.length
  k12 : k ≤ 12
set_option maxRecDepth 100000 in
theorem BL.pass {w wr w1 : World} {l : List ByteArray} {p : List UInt8} {k : Nat} {A : Option Addr} {c : Nat} {m : List LD} {acc : List DV} (h : BL w wr l p k A c m acc) (hb : Below wr.heap.size wr w1) (h1 : k < l.length) (h2 : k < 12) : BL w w1 l p (k + 1) A c m acc :=
  ⟨(h.its.below hb (Nat.le_refl _)).more hb.size, bthen h.low hb, h.gap, by have := h.pl; omega, by rw [Nat.succ_mul]; exact Nat.le_trans h.ml (Nat.le_add_right _ _), h1, h2⟩
/-- what a text reads as -/
theorem all_two (T : ByteArray) : (∃ p c : Nat, c ≠ 0 ∧ ∀ w : World, Calls Tryd.prog 7 #[.string T] w (Gives w fun v _ => v = .tuple #[.slice none 0 0, .int .i64 (p : Int), .int .i64 (c : Int)])) ∨
    (T.size ≤ 65536 ∧ ∃ l2, AllR T.data.toList 0 [] (.ok l2)) := by
  by_cases hT : T.size ≤ 65536
  · obtain ⟨q, hq⟩ := all_ex T.data.toList (T.data.toList.length + 1) 0 [] (by omega)
    cases q with
    | ok l => exact .inr ⟨hT, l, hq⟩
    | error pc =>
      obtain ⟨p, c⟩ := pc
      by_cases hc : c = 0
      · exact absurd hc (all_err hq rfl)
      · exact .inl ⟨p, c, hc, fun w => (all_any (w := w) hT _ hq).mono fun e w' ⟨v, he, hv, hb⟩ => ⟨v, he, hv.1, hb⟩⟩
  · exact .inl ⟨0, 2, by decide, fun w => all_long hT⟩
/-- the walk -/
theorem ow_cap {α : Type} {enc : α → List Value} {sz : Nat} {e : TypeId} {base : Nat} {w : World} {A : Option Addr} {c : Nat} {l : List α} (f : Ow enc sz e base w (.slice A l.length c) l) : l.length ≤ c := by
  obtain ⟨A', c', e, h, _⟩ := f.form
  cases e
  exact h
set_option maxRecDepth 16000 in
set_option maxHeartbeats 16000000 in
theorem readBlanks_any (w : World) (l : List ByteArray) (A : Option Addr) (c : Nat) (hr : Rd encBA 1 w A l) (hc : l.length ≤ c) (gs : List Int) (Ag : Option Addr) (cg : Nat) (hg : Rd encZI 1 w Ag gs) (hcg : gs.length ≤ cg) (hz : ∀ z ∈ gs, -9223372036854775808 ≤ z ∧ z ≤ 9223372036854775807) :
    Calls Tryd.prog 4 #[.slice A l.length c, .slice Ag gs.length cg] w (Gives w fun v _ => v = .bool true) := by
  have HR := As.mk hr
  have HG := As.mk hg
  have HZ := As.mk hz
  clear hr hg hz
  go_enter Tryd.func4, Tryd.ntmps4
  go_wp2
  go_loopw [5, 6, 7] (fun s v i wr => ∃ (k : Nat) (p : List UInt8) (A6 : Option Addr) (c6 : Nat) (m : List LD) (acc : List DV), s = .string ⟨p.toArray⟩ ∧ v = .slice A6 m.length c6 ∧ i = .int .i64 (k : Int) ∧ As (BL w wr l p k A6 c6 m acc)) (fun _ _ i _ => l.length - (intOf i).toNat)
  case atStart => exact ⟨0, [], none, 0, [], [], rfl, rfl, rfl, ⟨⟨Its.nil _ _ _, Below.refl _ _, gapI_nil, by simp, by simp, Nat.zero_le _, by omega⟩⟩⟩
  case round =>
    obtain ⟨k, p, A6, c6, m, acc, rfl, rfl, rfl, HB⟩ := hrel
    by_cases h1 : k < l.length
    case neg =>
      have hk1 : ¬ (k : Int) < (l.length : Int) := by omega
      have hp65 : (⟨p.toArray⟩ : ByteArray).size ≤ 65536 := by have := HB.out.pl; have := HB.out.k12; simp [ByteArray.size]; omega
      have HA := As.mk (fun w => all_any (w := w) hp65 (.ok acc) (by simpa using gapI_end HB.out.gap))
      have hwt : ∀ y ∈ acc, wtV y ≤ 1099511627776 := fun y hy => by
        have h9 : wtT y ≤ 20 * p.length := all_wtT (gapI_end HB.out.gap) rfl (fun y hy => nomatch hy) y hy
        have h8 := wt_le y
        have := HB.out.pl
        have := HB.out.k12
        omega
      have HWT := As.mk hwt
      have hb0 := HB.out.low
      clear hwt hp65
      go_wp2_with (first
        | (go_at_call 7; (with_reducible refine (HA.out _).mono ?_); rintro e1 w1 ⟨v1, rfl, ⟨A1, c1, m1, rfl, hi, hm⟩, hb1⟩; have HI1 := As.mk hi; have HI6 := As.mk (HB.out.its.below hb1 (Nat.le_refl _)); have HM1 := As.mk hm; clear hi hm; replace hb1 := bthen hb0 hb1; have HS := As.mk (sameAll_any w1 m1 (fun x hx => same_ok w1 x (HI1.out.good x hx) (HWT.out _ (by rw [← HI1.out.same, erAll_map]; exact List.mem_map_of_mem hx))) A1 c1 (HI1.out.ow.rd lenD) (ow_cap HI1.out.ow) (by have := HM1.out; omega) m A6 c6 w1 (Below.refl _ _) (HI6.out.ow.rd lenD) HI6.out.good (by rw [HI6.out.same, HI1.out.same]) (ow_cap HI6.out.ow)))
        | (go_at_call 10; (with_reducible refine HS.out.mono ?_); rintro e2 w2 ⟨v2, rfl, rfl, hb2⟩; replace hb1 := bthen hb1 hb2)
        | (go_at_call 8; (with_reducible refine (awake_any _).mono ?_); rintro e3 w3 ⟨v3, rfl, rfl, hb3⟩; replace hb1 := bthen hb1 hb3))
      go_ret
      exact ⟨_, rfl, by simp, hb1⟩
    by_cases h2 : k < 12
    case neg =>
      have hk1 : (k : Int) < (l.length : Int) := by omega
      have hk2 : ¬ (k : Int) < 12 := by omega
      have hp65 : (⟨p.toArray⟩ : ByteArray).size ≤ 65536 := by have := HB.out.pl; have := HB.out.k12; simp [ByteArray.size]; omega
      have HA := As.mk (fun w => all_any (w := w) hp65 (.ok acc) (by simpa using gapI_end HB.out.gap))
      have hwt : ∀ y ∈ acc, wtV y ≤ 1099511627776 := fun y hy => by
        have h9 : wtT y ≤ 20 * p.length := all_wtT (gapI_end HB.out.gap) rfl (fun y hy => nomatch hy) y hy
        have h8 := wt_le y
        have := HB.out.pl
        have := HB.out.k12
        omega
      have HWT := As.mk hwt
      have hb0 := HB.out.low
      clear hwt hp65
      go_wp2_with (first
        | (go_at_call 7; (with_reducible refine (HA.out _).mono ?_); rintro e1 w1 ⟨v1, rfl, ⟨A1, c1, m1, rfl, hi, hm⟩, hb1⟩; have HI1 := As.mk hi; have HI6 := As.mk (HB.out.its.below hb1 (Nat.le_refl _)); have HM1 := As.mk hm; clear hi hm; replace hb1 := bthen hb0 hb1; have HS := As.mk (sameAll_any w1 m1 (fun x hx => same_ok w1 x (HI1.out.good x hx) (HWT.out _ (by rw [← HI1.out.same, erAll_map]; exact List.mem_map_of_mem hx))) A1 c1 (HI1.out.ow.rd lenD) (ow_cap HI1.out.ow) (by have := HM1.out; omega) m A6 c6 w1 (Below.refl _ _) (HI6.out.ow.rd lenD) HI6.out.good (by rw [HI6.out.same, HI1.out.same]) (ow_cap HI6.out.ow)))
        | (go_at_call 10; (with_reducible refine HS.out.mono ?_); rintro e2 w2 ⟨v2, rfl, rfl, hb2⟩; replace hb1 := bthen hb1 hb2)
        | (go_at_call 8; (with_reducible refine (awake_any _).mono ?_); rintro e3 w3 ⟨v3, rfl, rfl, hb3⟩; replace hb1 := bthen hb1 hb3))
      go_ret
      exact ⟨_, rfl, by simp, hb1⟩
    have hk1 : (k : Int) < (l.length : Int) := by omega
    have hk2 : (k : Int) < 12 := by omega
    obtain ⟨b, off, rfl⟩ := HR.out.get (ne_nil_of_lt h1)
    obtain ⟨tl, htl⟩ : ∃ tl : List UInt8, l[k] = ⟨tl.toArray⟩ := ⟨l[k].data.toList, by simp⟩
    have hS : ∀ W, Below w.heap.size w W → W.cell? ⟨b, off + k, none⟩ = some (.string ⟨tl.toArray⟩) := fun W hW => by
      have q := (HR.out.below hW).cell k h1 0 _ rfl
      rw [htl] at q
      simpa using q
    have HSS := As.mk hS
    have cw := hS _ HB.out.low
    clear hS htl
    rcases all_two ⟨tl.toArray⟩ with ⟨pp, cc, hcc, hA⟩ | ⟨hsz, l2, hl2⟩
    · have HA := As.mk hA
      have hz : ((cc : Int) != 0) = true := by simpa using hcc
      clear hA hcc
      go_wp2_with (first
        | (go_at_call 7; (with_reducible refine (HA.out _).mono ?_); rintro e1 w1 ⟨v1, rfl, rfl, hb1⟩))
      go_roundw
      case rel => exact ⟨k + 1, p, A6, c6, m, acc, rfl, rfl, by go_num, ⟨HB.out.pass hb1 h1 h2⟩⟩
      case measure => simp [intOf]; omega
    · have HA := As.mk (fun w => all_any (w := w) hsz (.ok l2) hl2)
      have HT2 := As.mk hl2
      have hlow := As.mk HB.out.low
      replace HT2 : As (AllR tl 0 [] (.ok l2)) := ⟨by simpa using hl2⟩
      clear hl2 hsz
      by_cases h20 : tl.length ≤ 2000
      case neg =>
        have h20i : (2000 : Int) < (tl.length : Int) := by omega
        go_wp2_with (first
          | (go_at_call 7; (with_reducible refine (HA.out _).mono ?_); rintro e1 w1 ⟨v1, rfl, ⟨A2, c2, m2, rfl, hi, hm⟩, hb1⟩; have cw1 := HSS.out _ (bthen hlow.out hb1); clear hi hm))
        go_roundw
        case rel => exact ⟨k + 1, p, A6, c6, m, acc, rfl, rfl, by go_num, ⟨HB.out.pass hb1 h1 h2⟩⟩
        case measure => simp [intOf]; omega
      have h20i : ¬ (2000 : Int) < (tl.length : Int) := by omega
      have hbase := As.mk hlow.out.size
      obtain ⟨G, hG, hG5, hGk⟩ : ∃ G : Nat, As (G < 5) ∧ As (∀ (hk : k < gs.length), gs[k] % 5 = (G : Int)) ∧ As (¬ k < gs.length → G = 0) := by
        by_cases h : k < gs.length
        · have := Int.emod_lt_of_pos gs[k] (show (0 : Int) < 5 by decide)
          have := Int.emod_nonneg gs[k] (show (5 : Int) ≠ 0 by decide)
          exact ⟨(gs[k] % 5).toNat, ⟨by omega⟩, ⟨fun _ => by omega⟩, ⟨fun h' => absurd h h'⟩⟩
        · exact ⟨0, ⟨by decide⟩, ⟨fun h' => absurd h' h⟩, ⟨fun _ => rfl⟩⟩
      have APP : ∀ (Q : Prop), Q → Q := fun _ q => q
      clear APP
      obtain ⟨P1, HP1⟩ : ∃ P, As (P = p ++ tl) := ⟨_, ⟨rfl⟩⟩
      obtain ⟨P2, HP2⟩ : ∃ P, As (P = P1 ++ [10]) := ⟨_, ⟨rfl⟩⟩
      have HL2 : As (P2.length ≤ k * 2020 + 2001) := ⟨by have := HB.out.pl; rw [HP2.out, HP1.out]; simp; omega⟩
      have a1 : ∀ w : World, (Op.stringOp .add ⟨p.toArray⟩ ⟨tl.toArray⟩).run Tryd.prog w = .ok (.string ⟨P1.toArray⟩) w := fun w => by rw [HP1.out]; exact run_add_lists w p tl (by have := HB.out.pl; omega)
      have a2 : ∀ w : World, (Op.stringOp .add ⟨P1.toArray⟩ ⟨#[10]⟩).run Tryd.prog w = .ok (.string ⟨P2.toArray⟩) w := fun w => by rw [HP2.out]; exact run_add_lists w P1 [10] (by have := HB.out.pl; rw [HP1.out]; simp; omega)
      by_cases hgk : k < gs.length
      · have hgki : (k : Int) < (gs.length : Int) := by omega
        obtain ⟨bg, og, rfl⟩ := HG.out.get (ne_nil_of_lt hgk)
        obtain ⟨z, hz⟩ : ∃ z, gs[k] = z := ⟨_, rfl⟩
        have HZ2 := As.mk (HZ.out _ (List.getElem_mem hgk))
        have HG2 := As.mk (hG5.out hgk)
        rw [hz] at HZ2 HG2
        have hS2 : ∀ W, Below w.heap.size w W → W.cell? ⟨bg, og + k, none⟩ = some (.int .i64 z) := fun W hW => by
          have q := (HG.out.below hW).cell k hgk 0 _ rfl
          rw [hz] at q
          simpa using q
        have HS2 := As.mk hS2
        clear hS2 hz hgk
        go_wp2_with (first
          | (go_at_call 7; (with_reducible refine (HA.out _).mono ?_); rintro e1 w1 ⟨v1, rfl, ⟨A2, c2, m2, rfl, hi, hm⟩, hb1⟩; have cw1 := HSS.out _ (bthen hlow.out hb1); have HI2 := As.mk hi; have HM2 := As.mk hm; have HI1 := As.mk (HB.out.its.below hb1 (Nat.le_refl _)); have hr2 := As.mk (hi.ow.rd lenD); have hn2 := As.mk hi.ow.none; clear hi hm; have hb1' := hb1)
          | ((with_reducible refine g_dst 46 ?_); go_must (refine ev_append2 46 rfl Tryd.underlying22 infoD rfl (by decide) rfl HI1.out.ow rfl (l2 := m2) rfl hr2.out lenD oneD hn2.out (by have := HM2.out; have := HB.out.ml; omega) (by have := HM2.out; have := HB.out.ml; simp only [maxLen]; omega) (Nat.le_trans hbase.out hb1'.size) ?_); intro v9 wn how hg9 hor9; obtain ⟨A9, c9, rfl, h91, h92⟩ := how.form; have hb9 := HI1.out.ow.grown (Below.refl w.heap.size _) hg9 (Nat.le_refl _) (Nat.le_trans hbase.out hb1'.size); have HI := As.mk (HI1.out.append hb1'.size hbase.out HI2.out.good (fun b hb => ⟨(HI2.out.low b hb).1, (HI2.out.low b hb).2.1⟩) HI2.out.same how hg9 hor9); replace hlow := As.mk ((bthen hlow.out hb1').trans hb9); have HML : As ((m ++ m2).length ≤ (k + 1) * 65536) := ⟨by have := HM2.out; have := HB.out.ml; rw [List.length_append, Nat.succ_mul]; omega⟩; clear how hg9 hor9 hb9 h91 h92 HI1 cw1;  have cg := HS2.out _ hlow.out)
          | (go_at_call 11; (with_reducible refine (place_any z 5 _ HZ2.out (by decide) G HG2.out).mono ?_); rintro e4 w4 ⟨rfl, rfl⟩))
        have hd := (Below.refl wn.heap.size wn).drew
        have hS : ∀ W, Below wn.heap.size wn W → W.cell? ⟨b, off + k, none⟩ = some (.string ⟨tl.toArray⟩) := fun W hW => HSS.out _ (bthen hlow.out hW)
        have hS0 := hS _ hd
        obtain h5 | h5 | h5 | h5 | h5 : G = 0 ∨ G = 1 ∨ G = 2 ∨ G = 3 ∨ G = 4 := by have := hG.out; omega
        · subst h5
          obtain ⟨P3, HP3⟩ : ∃ P, As (P = P2 ++ [32]) := ⟨_, ⟨rfl⟩⟩
          have a3 : ∀ w : World, (Op.stringOp .add ⟨P2.toArray⟩ ⟨#[32]⟩).run Tryd.prog w = .ok (.string ⟨P3.toArray⟩) w := fun w => by rw [HP3.out]; exact run_add_lists w P2 [32] (by have := HL2.out; simp; omega)
          refine wp_gen2 (fun Q7 hQ7 => ?_)
          refine wp_region_held_drew (S := fun W => W.cell? ⟨b, off + k, none⟩ = some (.string ⟨tl.toArray⟩)) (by kernel_rfl) (hS0) (fun hHeld => ?_)
          repeat' (first
            | ((with_reducible refine gI ?_); first
              | (refine st_lit (v := fun g => .slice (some ⟨g, 0, none⟩) 5 5) 63 (by kernel_rfl) (cs := [.string ⟨#[32]⟩, .string ⟨#[59, 32, 119, 111, 114, 100, 115, 10]⟩, .string ⟨#[35, 124, 32, 97, 32, 35, 124, 32, 98, 32, 124, 35, 32, 124, 35]⟩, .string ⟨#[35, 59, 40, 120, 32, 34, 121, 34, 41, 32]⟩, .string ⟨#[9, 13, 10]⟩]) (t := 9) (by kernel_rfl) ?_; intro g63 w5 hb5 B63 hg63; have C63 := B63.cells; replace hd := bthen hd hb5; refine hK.out _ _ (hS _ hd) (fun hHeld => ?_); clear hK K; (try simp only [Act.put, pA, pB, pC, pD, pE, pF]))
              | (refine st (v := .string ⟨#[32]⟩) (by kernel_rfl) (by go_simp; try (with_reducible rfl)) ?_; refine hK.out _ _ (hS _ hd) (fun hHeld => ?_); clear hK K; (try simp only [Act.put, pA, pB, pC, pD, pE, pF])))
            | ((with_reducible refine gW ?_); first
              | (refine tk (i := 0) (v := .string ⟨p.toArray⟩) rfl (by decide +kernel) (by kernel_rfl) (fun W hSw => by (go_simp; (try (with_reducible rfl)))) (by assumption) ?_; (try simp only [Act.put, pA, pB, pC, pD, pE, pF]))
              | (refine tk (i := 1) (v := .slice (some ⟨b, off, none⟩) l.length c) rfl (by decide +kernel) (by kernel_rfl) (fun W hSw => by (go_simp; (try (with_reducible rfl)))) (by assumption) ?_; (try simp only [Act.put, pA, pB, pC, pD, pE, pF]))
              | (refine tk (i := 2) (v := .int .i64 (k : Int)) rfl (by decide +kernel) (by kernel_rfl) (fun W hSw => by (go_simp; (try (with_reducible rfl)))) (by assumption) ?_; (try simp only [Act.put, pA, pB, pC, pD, pE, pF]))
              | (refine tk (i := 3) (v := .pointer (some ⟨b, off + k, none⟩)) rfl (by decide +kernel) (by kernel_rfl) (fun W hSw => by (go_simp; (try (with_reducible rfl)))) (by assumption) ?_; (try simp only [Act.put, pA, pB, pC, pD, pE, pF]))
              | (refine tk (i := 4) (v := .string ⟨tl.toArray⟩) rfl (by decide +kernel) (by kernel_rfl) (fun W hSw => by (go_simp; (try (with_reducible rfl)))) (by assumption) ?_; (try simp only [Act.put, pA, pB, pC, pD, pE, pF]))
              | (refine tk (i := 5) (v := .string ⟨P1.toArray⟩) rfl (by decide +kernel) (by kernel_rfl) (fun W hSw => by (go_simp; (try (with_reducible rfl)))) (by assumption) ?_; (try simp only [Act.put, pA, pB, pC, pD, pE, pF]))
              | (refine tk (i := 6) (v := .string ⟨P2.toArray⟩) rfl (by decide +kernel) (by kernel_rfl) (fun W hSw => by (go_simp; (try (with_reducible rfl)))) (by assumption) ?_; (try simp only [Act.put, pA, pB, pC, pD, pE, pF]))
              | (refine tk (i := 8) (v := .int .i64 0) rfl (by decide +kernel) (by kernel_rfl) (fun W hSw => by (go_simp; (try (with_reducible rfl)))) (by assumption) ?_; (try simp only [Act.put, pA, pB, pC, pD, pE, pF]))
              | (refine tk (i := 9) (v := .pointer (some ⟨g63, 0, none⟩)) rfl (by decide +kernel) (by kernel_rfl) (fun W hSw => by (go_simp; (try (with_reducible rfl)))) (by assumption) ?_; (try simp only [Act.put, pA, pB, pC, pD, pE, pF]))
              | (refine tk (i := 11) (v := .string ⟨P3.toArray⟩) rfl (by decide +kernel) (by kernel_rfl) (fun W hSw => by (go_simp; (try (with_reducible rfl)))) (by assumption) ?_; (try simp only [Act.put, pA, pB, pC, pD, pE, pF]))
              | (refine tk (i := 12) (v := .string ⟨P3.toArray⟩) rfl (by decide +kernel) (by kernel_rfl) (fun W hSw => by (go_simp; (try (with_reducible rfl)))) (by assumption) ?_; (try simp only [Act.put, pA, pB, pC, pD, pE, pF]))
              | refine wpAnyH_ready (rs := [7]) (by decide +kernel) (by simp) ?_
              | refine wpAnyH_ready (rs := [10]) (by decide +kernel) (by simp) ?_)
            | ((with_reducible refine gA ?_); first
              | exact AllReadyH.nil
              | (refine AllReadyH.cons (o := _) (by simp only [List.getElem?_toArray, List.getElem?_cons_succ, List.getElem?_cons_zero]; rfl) (fun K hK => ?_) ?_)))
          all_goals
            refine wpAnyH_done (by kernel_rfl) ?_ _
            refine NoPanic.normal ?_
            obtain ⟨rfl⟩ := hQ7
            go_wp2
            go_roundw
            case rel => exact ⟨k + 1, P3, A9, c9, m ++ m2, acc ++ l2, rfl, by rw [List.length_append], by go_num, ⟨⟨(HI.out.below hd (Nat.le_refl _)).more hd.size, bthen hlow.out hd, by rw [HP3.out, HP2.out, HP1.out, show ((p ++ tl) ++ [10]) ++ [32] = p ++ (tl ++ (10 :: gap 0)) by simp [gap]]; exact gapI_step 0 HB.out.gap HT2.out, by rw [HP3.out, List.length_append]; have := HL2.out; simp; omega, HML.out, h1, h2⟩⟩⟩
            case measure => simp [intOf]; omega
        · subst h5
          obtain ⟨P3, HP3⟩ : ∃ P, As (P = P2 ++ [59, 32, 119, 111, 114, 100, 115, 10]) := ⟨_, ⟨rfl⟩⟩
          have a3 : ∀ w : World, (Op.stringOp .add ⟨P2.toArray⟩ ⟨#[59, 32, 119, 111, 114, 100, 115, 10]⟩).run Tryd.prog w = .ok (.string ⟨P3.toArray⟩) w := fun w => by rw [HP3.out]; exact run_add_lists w P2 [59, 32, 119, 111, 114, 100, 115, 10] (by have := HL2.out; simp; omega)
          refine wp_gen2 (fun Q7 hQ7 => ?_)
          refine wp_region_held_drew (S := fun W => W.cell? ⟨b, off + k, none⟩ = some (.string ⟨tl.toArray⟩)) (by kernel_rfl) (hS0) (fun hHeld => ?_)
          repeat' (first
            | ((with_reducible refine gI ?_); first
              | (refine st_lit (v := fun g => .slice (some ⟨g, 0, none⟩) 5 5) 63 (by kernel_rfl) (cs := [.string ⟨#[32]⟩, .string ⟨#[59, 32, 119, 111, 114, 100, 115, 10]⟩, .string ⟨#[35, 124, 32, 97, 32, 35, 124, 32, 98, 32, 124, 35, 32, 124, 35]⟩, .string ⟨#[35, 59, 40, 120, 32, 34, 121, 34, 41, 32]⟩, .string ⟨#[9, 13, 10]⟩]) (t := 9) (by kernel_rfl) ?_; intro g63 w5 hb5 B63 hg63; have C63 := B63.cells; replace hd := bthen hd hb5; refine hK.out _ _ (hS _ hd) (fun hHeld => ?_); clear hK K; (try simp only [Act.put, pA, pB, pC, pD, pE, pF]))
              | (refine st (v := .string ⟨#[59, 32, 119, 111, 114, 100, 115, 10]⟩) (by kernel_rfl) (by go_simp; try (with_reducible rfl)) ?_; refine hK.out _ _ (hS _ hd) (fun hHeld => ?_); clear hK K; (try simp only [Act.put, pA, pB, pC, pD, pE, pF])))
            | ((with_reducible refine gW ?_); first
              | (refine tk (i := 0) (v := .string ⟨p.toArray⟩) rfl (by decide +kernel) (by kernel_rfl) (fun W hSw => by (go_simp; (try (with_reducible rfl)))) (by assumption) ?_; (try simp only [Act.put, pA, pB, pC, pD, pE, pF]))
              | (refine tk (i := 1) (v := .slice (some ⟨b, off, none⟩) l.length c) rfl (by decide +kernel) (by kernel_rfl) (fun W hSw => by (go_simp; (try (with_reducible rfl)))) (by assumption) ?_; (try simp only [Act.put, pA, pB, pC, pD, pE, pF]))
              | (refine tk (i := 2) (v := .int .i64 (k : Int)) rfl (by decide +kernel) (by kernel_rfl) (fun W hSw => by (go_simp; (try (with_reducible rfl)))) (by assumption) ?_; (try simp only [Act.put, pA, pB, pC, pD, pE, pF]))
              | (refine tk (i := 3) (v := .pointer (some ⟨b, off + k, none⟩)) rfl (by decide +kernel) (by kernel_rfl) (fun W hSw => by (go_simp; (try (with_reducible rfl)))) (by assumption) ?_; (try simp only [Act.put, pA, pB, pC, pD, pE, pF]))
              | (refine tk (i := 4) (v := .string ⟨tl.toArray⟩) rfl (by decide +kernel) (by kernel_rfl) (fun W hSw => by (go_simp; (try (with_reducible rfl)))) (by assumption) ?_; (try simp only [Act.put, pA, pB, pC, pD, pE, pF]))
              | (refine tk (i := 5) (v := .string ⟨P1.toArray⟩) rfl (by decide +kernel) (by kernel_rfl) (fun W hSw => by (go_simp; (try (with_reducible rfl)))) (by assumption) ?_; (try simp only [Act.put, pA, pB, pC, pD, pE, pF]))
              | (refine tk (i := 6) (v := .string ⟨P2.toArray⟩) rfl (by decide +kernel) (by kernel_rfl) (fun W hSw => by (go_simp; (try (with_reducible rfl)))) (by assumption) ?_; (try simp only [Act.put, pA, pB, pC, pD, pE, pF]))
              | (refine tk (i := 8) (v := .int .i64 1) rfl (by decide +kernel) (by kernel_rfl) (fun W hSw => by (go_simp; (try (with_reducible rfl)))) (by assumption) ?_; (try simp only [Act.put, pA, pB, pC, pD, pE, pF]))
              | (refine tk (i := 9) (v := .pointer (some ⟨g63, 1, none⟩)) rfl (by decide +kernel) (by kernel_rfl) (fun W hSw => by (go_simp; (try (with_reducible rfl)))) (by assumption) ?_; (try simp only [Act.put, pA, pB, pC, pD, pE, pF]))
              | (refine tk (i := 11) (v := .string ⟨P3.toArray⟩) rfl (by decide +kernel) (by kernel_rfl) (fun W hSw => by (go_simp; (try (with_reducible rfl)))) (by assumption) ?_; (try simp only [Act.put, pA, pB, pC, pD, pE, pF]))
              | (refine tk (i := 12) (v := .string ⟨P3.toArray⟩) rfl (by decide +kernel) (by kernel_rfl) (fun W hSw => by (go_simp; (try (with_reducible rfl)))) (by assumption) ?_; (try simp only [Act.put, pA, pB, pC, pD, pE, pF]))
              | refine wpAnyH_ready (rs := [7]) (by decide +kernel) (by simp) ?_
              | refine wpAnyH_ready (rs := [10]) (by decide +kernel) (by simp) ?_)
            | ((with_reducible refine gA ?_); first
              | exact AllReadyH.nil
              | (refine AllReadyH.cons (o := _) (by simp only [List.getElem?_toArray, List.getElem?_cons_succ, List.getElem?_cons_zero]; rfl) (fun K hK => ?_) ?_)))
          all_goals
            refine wpAnyH_done (by kernel_rfl) ?_ _
            refine NoPanic.normal ?_
            obtain ⟨rfl⟩ := hQ7
            go_wp2
            go_roundw
            case rel => exact ⟨k + 1, P3, A9, c9, m ++ m2, acc ++ l2, rfl, by rw [List.length_append], by go_num, ⟨⟨(HI.out.below hd (Nat.le_refl _)).more hd.size, bthen hlow.out hd, by rw [HP3.out, HP2.out, HP1.out, show ((p ++ tl) ++ [10]) ++ [59, 32, 119, 111, 114, 100, 115, 10] = p ++ (tl ++ (10 :: gap 1)) by simp [gap]]; exact gapI_step 1 HB.out.gap HT2.out, by rw [HP3.out, List.length_append]; have := HL2.out; simp; omega, HML.out, h1, h2⟩⟩⟩
            case measure => simp [intOf]; omega
        · subst h5
          obtain ⟨P3, HP3⟩ : ∃ P, As (P = P2 ++ [35, 124, 32, 97, 32, 35, 124, 32, 98, 32, 124, 35, 32, 124, 35]) := ⟨_, ⟨rfl⟩⟩
          have a3 : ∀ w : World, (Op.stringOp .add ⟨P2.toArray⟩ ⟨#[35, 124, 32, 97, 32, 35, 124, 32, 98, 32, 124, 35, 32, 124, 35]⟩).run Tryd.prog w = .ok (.string ⟨P3.toArray⟩) w := fun w => by rw [HP3.out]; exact run_add_lists w P2 [35, 124, 32, 97, 32, 35, 124, 32, 98, 32, 124, 35, 32, 124, 35] (by have := HL2.out; simp; omega)
          refine wp_gen2 (fun Q7 hQ7 => ?_)
          refine wp_region_held_drew (S := fun W => W.cell? ⟨b, off + k, none⟩ = some (.string ⟨tl.toArray⟩)) (by kernel_rfl) (hS0) (fun hHeld => ?_)
          repeat' (first
            | ((with_reducible refine gI ?_); first
              | (refine st_lit (v := fun g => .slice (some ⟨g, 0, none⟩) 5 5) 63 (by kernel_rfl) (cs := [.string ⟨#[32]⟩, .string ⟨#[59, 32, 119, 111, 114, 100, 115, 10]⟩, .string ⟨#[35, 124, 32, 97, 32, 35, 124, 32, 98, 32, 124, 35, 32, 124, 35]⟩, .string ⟨#[35, 59, 40, 120, 32, 34, 121, 34, 41, 32]⟩, .string ⟨#[9, 13, 10]⟩]) (t := 9) (by kernel_rfl) ?_; intro g63 w5 hb5 B63 hg63; have C63 := B63.cells; replace hd := bthen hd hb5; refine hK.out _ _ (hS _ hd) (fun hHeld => ?_); clear hK K; (try simp only [Act.put, pA, pB, pC, pD, pE, pF]))
              | (refine st (v := .string ⟨#[35, 124, 32, 97, 32, 35, 124, 32, 98, 32, 124, 35, 32, 124, 35]⟩) (by kernel_rfl) (by go_simp; try (with_reducible rfl)) ?_; refine hK.out _ _ (hS _ hd) (fun hHeld => ?_); clear hK K; (try simp only [Act.put, pA, pB, pC, pD, pE, pF])))
            | ((with_reducible refine gW ?_); first
              | (refine tk (i := 0) (v := .string ⟨p.toArray⟩) rfl (by decide +kernel) (by kernel_rfl) (fun W hSw => by (go_simp; (try (with_reducible rfl)))) (by assumption) ?_; (try simp only [Act.put, pA, pB, pC, pD, pE, pF]))
              | (refine tk (i := 1) (v := .slice (some ⟨b, off, none⟩) l.length c) rfl (by decide +kernel) (by kernel_rfl) (fun W hSw => by (go_simp; (try (with_reducible rfl)))) (by assumption) ?_; (try simp only [Act.put, pA, pB, pC, pD, pE, pF]))
              | (refine tk (i := 2) (v := .int .i64 (k : Int)) rfl (by decide +kernel) (by kernel_rfl) (fun W hSw => by (go_simp; (try (with_reducible rfl)))) (by assumption) ?_; (try simp only [Act.put, pA, pB, pC, pD, pE, pF]))
              | (refine tk (i := 3) (v := .pointer (some ⟨b, off + k, none⟩)) rfl (by decide +kernel) (by kernel_rfl) (fun W hSw => by (go_simp; (try (with_reducible rfl)))) (by assumption) ?_; (try simp only [Act.put, pA, pB, pC, pD, pE, pF]))
              | (refine tk (i := 4) (v := .string ⟨tl.toArray⟩) rfl (by decide +kernel) (by kernel_rfl) (fun W hSw => by (go_simp; (try (with_reducible rfl)))) (by assumption) ?_; (try simp only [Act.put, pA, pB, pC, pD, pE, pF]))
              | (refine tk (i := 5) (v := .string ⟨P1.toArray⟩) rfl (by decide +kernel) (by kernel_rfl) (fun W hSw => by (go_simp; (try (with_reducible rfl)))) (by assumption) ?_; (try simp only [Act.put, pA, pB, pC, pD, pE, pF]))
              | (refine tk (i := 6) (v := .string ⟨P2.toArray⟩) rfl (by decide +kernel) (by kernel_rfl) (fun W hSw => by (go_simp; (try (with_reducible rfl)))) (by assumption) ?_; (try simp only [Act.put, pA, pB, pC, pD, pE, pF]))
              | (refine tk (i := 8) (v := .int .i64 2) rfl (by decide +kernel) (by kernel_rfl) (fun W hSw => by (go_simp; (try (with_reducible rfl)))) (by assumption) ?_; (try simp only [Act.put, pA, pB, pC, pD, pE, pF]))
              | (refine tk (i := 9) (v := .pointer (some ⟨g63, 2, none⟩)) rfl (by decide +kernel) (by kernel_rfl) (fun W hSw => by (go_simp; (try (with_reducible rfl)))) (by assumption) ?_; (try simp only [Act.put, pA, pB, pC, pD, pE, pF]))
              | (refine tk (i := 11) (v := .string ⟨P3.toArray⟩) rfl (by decide +kernel) (by kernel_rfl) (fun W hSw => by (go_simp; (try (with_reducible rfl)))) (by assumption) ?_; (try simp only [Act.put, pA, pB, pC, pD, pE, pF]))
              | (refine tk (i := 12) (v := .string ⟨P3.toArray⟩) rfl (by decide +kernel) (by kernel_rfl) (fun W hSw => by (go_simp; (try (with_reducible rfl)))) (by assumption) ?_; (try simp only [Act.put, pA, pB, pC, pD, pE, pF]))
              | refine wpAnyH_ready (rs := [7]) (by decide +kernel) (by simp) ?_
              | refine wpAnyH_ready (rs := [10]) (by decide +kernel) (by simp) ?_)
            | ((with_reducible refine gA ?_); first
              | exact AllReadyH.nil
              | (refine AllReadyH.cons (o := _) (by simp only [List.getElem?_toArray, List.getElem?_cons_succ, List.getElem?_cons_zero]; rfl) (fun K hK => ?_) ?_)))
          all_goals
            refine wpAnyH_done (by kernel_rfl) ?_ _
            refine NoPanic.normal ?_
            obtain ⟨rfl⟩ := hQ7
            go_wp2
            go_roundw
            case rel => exact ⟨k + 1, P3, A9, c9, m ++ m2, acc ++ l2, rfl, by rw [List.length_append], by go_num, ⟨⟨(HI.out.below hd (Nat.le_refl _)).more hd.size, bthen hlow.out hd, by rw [HP3.out, HP2.out, HP1.out, show ((p ++ tl) ++ [10]) ++ [35, 124, 32, 97, 32, 35, 124, 32, 98, 32, 124, 35, 32, 124, 35] = p ++ (tl ++ (10 :: gap 2)) by simp [gap]]; exact gapI_step 2 HB.out.gap HT2.out, by rw [HP3.out, List.length_append]; have := HL2.out; simp; omega, HML.out, h1, h2⟩⟩⟩
            case measure => simp [intOf]; omega
        · subst h5
          obtain ⟨P3, HP3⟩ : ∃ P, As (P = P2 ++ [35, 59, 40, 120, 32, 34, 121, 34, 41, 32]) := ⟨_, ⟨rfl⟩⟩
          have a3 : ∀ w : World, (Op.stringOp .add ⟨P2.toArray⟩ ⟨#[35, 59, 40, 120, 32, 34, 121, 34, 41, 32]⟩).run Tryd.prog w = .ok (.string ⟨P3.toArray⟩) w := fun w => by rw [HP3.out]; exact run_add_lists w P2 [35, 59, 40, 120, 32, 34, 121, 34, 41, 32] (by have := HL2.out; simp; omega)
          refine wp_gen2 (fun Q7 hQ7 => ?_)
          refine wp_region_held_drew (S := fun W => W.cell? ⟨b, off + k, none⟩ = some (.string ⟨tl.toArray⟩)) (by kernel_rfl) (hS0) (fun hHeld => ?_)
          repeat' (first
            | ((with_reducible refine gI ?_); first
              | (refine st_lit (v := fun g => .slice (some ⟨g, 0, none⟩) 5 5) 63 (by kernel_rfl) (cs := [.string ⟨#[32]⟩, .string ⟨#[59, 32, 119, 111, 114, 100, 115, 10]⟩, .string ⟨#[35, 124, 32, 97, 32, 35, 124, 32, 98, 32, 124, 35, 32, 124, 35]⟩, .string ⟨#[35, 59, 40, 120, 32, 34, 121, 34, 41, 32]⟩, .string ⟨#[9, 13, 10]⟩]) (t := 9) (by kernel_rfl) ?_; intro g63 w5 hb5 B63 hg63; have C63 := B63.cells; replace hd := bthen hd hb5; refine hK.out _ _ (hS _ hd) (fun hHeld => ?_); clear hK K; (try simp only [Act.put, pA, pB, pC, pD, pE, pF]))
              | (refine st (v := .string ⟨#[35, 59, 40, 120, 32, 34, 121, 34, 41, 32]⟩) (by kernel_rfl) (by go_simp; try (with_reducible rfl)) ?_; refine hK.out _ _ (hS _ hd) (fun hHeld => ?_); clear hK K; (try simp only [Act.put, pA, pB, pC, pD, pE, pF])))
            | ((with_reducible refine gW ?_); first
              | (refine tk (i := 0) (v := .string ⟨p.toArray⟩) rfl (by decide +kernel) (by kernel_rfl) (fun W hSw => by (go_simp; (try (with_reducible rfl)))) (by assumption) ?_; (try simp only [Act.put, pA, pB, pC, pD, pE, pF]))
              | (refine tk (i := 1) (v := .slice (some ⟨b, off, none⟩) l.length c) rfl (by decide +kernel) (by kernel_rfl) (fun W hSw => by (go_simp; (try (with_reducible rfl)))) (by assumption) ?_; (try simp only [Act.put, pA, pB, pC, pD, pE, pF]))
              | (refine tk (i := 2) (v := .int .i64 (k : Int)) rfl (by decide +kernel) (by kernel_rfl) (fun W hSw => by (go_simp; (try (with_reducible rfl)))) (by assumption) ?_; (try simp only [Act.put, pA, pB, pC, pD, pE, pF]))
              | (refine tk (i := 3) (v := .pointer (some ⟨b, off + k, none⟩)) rfl (by decide +kernel) (by kernel_rfl) (fun W hSw => by (go_simp; (try (with_reducible rfl)))) (by assumption) ?_; (try simp only [Act.put, pA, pB, pC, pD, pE, pF]))
              | (refine tk (i := 4) (v := .string ⟨tl.toArray⟩) rfl (by decide +kernel) (by kernel_rfl) (fun W hSw => by (go_simp; (try (with_reducible rfl)))) (by assumption) ?_; (try simp only [Act.put, pA, pB, pC, pD, pE, pF]))
              | (refine tk (i := 5) (v := .string ⟨P1.toArray⟩) rfl (by decide +kernel) (by kernel_rfl) (fun W hSw => by (go_simp; (try (with_reducible rfl)))) (by assumption) ?_; (try simp only [Act.put, pA, pB, pC, pD, pE, pF]))
              | (refine tk (i := 6) (v := .string ⟨P2.toArray⟩) rfl (by decide +kernel) (by kernel_rfl) (fun W hSw => by (go_simp; (try (with_reducible rfl)))) (by assumption) ?_; (try simp only [Act.put, pA, pB, pC, pD, pE, pF]))
              | (refine tk (i := 8) (v := .int .i64 3) rfl (by decide +kernel) (by kernel_rfl) (fun W hSw => by (go_simp; (try (with_reducible rfl)))) (by assumption) ?_; (try simp only [Act.put, pA, pB, pC, pD, pE, pF]))
              | (refine tk (i := 9) (v := .pointer (some ⟨g63, 3, none⟩)) rfl (by decide +kernel) (by kernel_rfl) (fun W hSw => by (go_simp; (try (with_reducible rfl)))) (by assumption) ?_; (try simp only [Act.put, pA, pB, pC, pD, pE, pF]))
              | (refine tk (i := 11) (v := .string ⟨P3.toArray⟩) rfl (by decide +kernel) (by kernel_rfl) (fun W hSw => by (go_simp; (try (with_reducible rfl)))) (by assumption) ?_; (try simp only [Act.put, pA, pB, pC, pD, pE, pF]))
              | (refine tk (i := 12) (v := .string ⟨P3.toArray⟩) rfl (by decide +kernel) (by kernel_rfl) (fun W hSw => by (go_simp; (try (with_reducible rfl)))) (by assumption) ?_; (try simp only [Act.put, pA, pB, pC, pD, pE, pF]))
              | refine wpAnyH_ready (rs := [7]) (by decide +kernel) (by simp) ?_
              | refine wpAnyH_ready (rs := [10]) (by decide +kernel) (by simp) ?_)
            | ((with_reducible refine gA ?_); first
              | exact AllReadyH.nil
              | (refine AllReadyH.cons (o := _) (by simp only [List.getElem?_toArray, List.getElem?_cons_succ, List.getElem?_cons_zero]; rfl) (fun K hK => ?_) ?_)))
          all_goals
            refine wpAnyH_done (by kernel_rfl) ?_ _
            refine NoPanic.normal ?_
            obtain ⟨rfl⟩ := hQ7
            go_wp2
            go_roundw
            case rel => exact ⟨k + 1, P3, A9, c9, m ++ m2, acc ++ l2, rfl, by rw [List.length_append], by go_num, ⟨⟨(HI.out.below hd (Nat.le_refl _)).more hd.size, bthen hlow.out hd, by rw [HP3.out, HP2.out, HP1.out, show ((p ++ tl) ++ [10]) ++ [35, 59, 40, 120, 32, 34, 121, 34, 41, 32] = p ++ (tl ++ (10 :: gap 3)) by simp [gap]]; exact gapI_step 3 HB.out.gap HT2.out, by rw [HP3.out, List.length_append]; have := HL2.out; simp; omega, HML.out, h1, h2⟩⟩⟩
            case measure => simp [intOf]; omega
        · subst h5
          obtain ⟨P3, HP3⟩ : ∃ P, As (P = P2 ++ [9, 13, 10]) := ⟨_, ⟨rfl⟩⟩
          have a3 : ∀ w : World, (Op.stringOp .add ⟨P2.toArray⟩ ⟨#[9, 13, 10]⟩).run Tryd.prog w = .ok (.string ⟨P3.toArray⟩) w := fun w => by rw [HP3.out]; exact run_add_lists w P2 [9, 13, 10] (by have := HL2.out; simp; omega)
          refine wp_gen2 (fun Q7 hQ7 => ?_)
          refine wp_region_held_drew (S := fun W => W.cell? ⟨b, off + k, none⟩ = some (.string ⟨tl.toArray⟩)) (by kernel_rfl) (hS0) (fun hHeld => ?_)
          repeat' (first
            | ((with_reducible refine gI ?_); first
              | (refine st_lit (v := fun g => .slice (some ⟨g, 0, none⟩) 5 5) 63 (by kernel_rfl) (cs := [.string ⟨#[32]⟩, .string ⟨#[59, 32, 119, 111, 114, 100, 115, 10]⟩, .string ⟨#[35, 124, 32, 97, 32, 35, 124, 32, 98, 32, 124, 35, 32, 124, 35]⟩, .string ⟨#[35, 59, 40, 120, 32, 34, 121, 34, 41, 32]⟩, .string ⟨#[9, 13, 10]⟩]) (t := 9) (by kernel_rfl) ?_; intro g63 w5 hb5 B63 hg63; have C63 := B63.cells; replace hd := bthen hd hb5; refine hK.out _ _ (hS _ hd) (fun hHeld => ?_); clear hK K; (try simp only [Act.put, pA, pB, pC, pD, pE, pF]))
              | (refine st (v := .string ⟨#[9, 13, 10]⟩) (by kernel_rfl) (by go_simp; try (with_reducible rfl)) ?_; refine hK.out _ _ (hS _ hd) (fun hHeld => ?_); clear hK K; (try simp only [Act.put, pA, pB, pC, pD, pE, pF])))
            | ((with_reducible refine gW ?_); first
              | (refine tk (i := 0) (v := .string ⟨p.toArray⟩) rfl (by decide +kernel) (by kernel_rfl) (fun W hSw => by (go_simp; (try (with_reducible rfl)))) (by assumption) ?_; (try simp only [Act.put, pA, pB, pC, pD, pE, pF]))
              | (refine tk (i := 1) (v := .slice (some ⟨b, off, none⟩) l.length c) rfl (by decide +kernel) (by kernel_rfl) (fun W hSw => by (go_simp; (try (with_reducible rfl)))) (by assumption) ?_; (try simp only [Act.put, pA, pB, pC, pD, pE, pF]))
              | (refine tk (i := 2) (v := .int .i64 (k : Int)) rfl (by decide +kernel) (by kernel_rfl) (fun W hSw => by (go_simp; (try (with_reducible rfl)))) (by assumption) ?_; (try simp only [Act.put, pA, pB, pC, pD, pE, pF]))
              | (refine tk (i := 3) (v := .pointer (some ⟨b, off + k, none⟩)) rfl (by decide +kernel) (by kernel_rfl) (fun W hSw => by (go_simp; (try (with_reducible rfl)))) (by assumption) ?_; (try simp only [Act.put, pA, pB, pC, pD, pE, pF]))
              | (refine tk (i := 4) (v := .string ⟨tl.toArray⟩) rfl (by decide +kernel) (by kernel_rfl) (fun W hSw => by (go_simp; (try (with_reducible rfl)))) (by assumption) ?_; (try simp only [Act.put, pA, pB, pC, pD, pE, pF]))
              | (refine tk (i := 5) (v := .string ⟨P1.toArray⟩) rfl (by decide +kernel) (by kernel_rfl) (fun W hSw => by (go_simp; (try (with_reducible rfl)))) (by assumption) ?_; (try simp only [Act.put, pA, pB, pC, pD, pE, pF]))
              | (refine tk (i := 6) (v := .string ⟨P2.toArray⟩) rfl (by decide +kernel) (by kernel_rfl) (fun W hSw => by (go_simp; (try (with_reducible rfl)))) (by assumption) ?_; (try simp only [Act.put, pA, pB, pC, pD, pE, pF]))
              | (refine tk (i := 8) (v := .int .i64 4) rfl (by decide +kernel) (by kernel_rfl) (fun W hSw => by (go_simp; (try (with_reducible rfl)))) (by assumption) ?_; (try simp only [Act.put, pA, pB, pC, pD, pE, pF]))
              | (refine tk (i := 9) (v := .pointer (some ⟨g63, 4, none⟩)) rfl (by decide +kernel) (by kernel_rfl) (fun W hSw => by (go_simp; (try (with_reducible rfl)))) (by assumption) ?_; (try simp only [Act.put, pA, pB, pC, pD, pE, pF]))
              | (refine tk (i := 11) (v := .string ⟨P3.toArray⟩) rfl (by decide +kernel) (by kernel_rfl) (fun W hSw => by (go_simp; (try (with_reducible rfl)))) (by assumption) ?_; (try simp only [Act.put, pA, pB, pC, pD, pE, pF]))
              | (refine tk (i := 12) (v := .string ⟨P3.toArray⟩) rfl (by decide +kernel) (by kernel_rfl) (fun W hSw => by (go_simp; (try (with_reducible rfl)))) (by assumption) ?_; (try simp only [Act.put, pA, pB, pC, pD, pE, pF]))
              | refine wpAnyH_ready (rs := [7]) (by decide +kernel) (by simp) ?_
              | refine wpAnyH_ready (rs := [10]) (by decide +kernel) (by simp) ?_)
            | ((with_reducible refine gA ?_); first
              | exact AllReadyH.nil
              | (refine AllReadyH.cons (o := _) (by simp only [List.getElem?_toArray, List.getElem?_cons_succ, List.getElem?_cons_zero]; rfl) (fun K hK => ?_) ?_)))
          all_goals
            refine wpAnyH_done (by kernel_rfl) ?_ _
            refine NoPanic.normal ?_
            obtain ⟨rfl⟩ := hQ7
            go_wp2
            go_roundw
            case rel => exact ⟨k + 1, P3, A9, c9, m ++ m2, acc ++ l2, rfl, by rw [List.length_append], by go_num, ⟨⟨(HI.out.below hd (Nat.le_refl _)).more hd.size, bthen hlow.out hd, by rw [HP3.out, HP2.out, HP1.out, show ((p ++ tl) ++ [10]) ++ [9, 13, 10] = p ++ (tl ++ (10 :: gap 4)) by simp [gap]]; exact gapI_step 4 HB.out.gap HT2.out, by rw [HP3.out, List.length_append]; have := HL2.out; simp; omega, HML.out, h1, h2⟩⟩⟩
            case measure => simp [intOf]; omega
      · have hgki : ¬ (k : Int) < (gs.length : Int) := by omega
        obtain rfl : G = 0 := hGk.out hgk
        obtain ⟨P3, HP3⟩ : ∃ P, As (P = P2 ++ [32]) := ⟨_, ⟨rfl⟩⟩
        go_wp2_with (first
          | (go_at_call 7; (with_reducible refine (HA.out _).mono ?_); rintro e1 w1 ⟨v1, rfl, ⟨A2, c2, m2, rfl, hi, hm⟩, hb1⟩; have cw1 := HSS.out _ (bthen hlow.out hb1); have HI2 := As.mk hi; have HM2 := As.mk hm; have HI1 := As.mk (HB.out.its.below hb1 (Nat.le_refl _)); have hr2 := As.mk (hi.ow.rd lenD); have hn2 := As.mk hi.ow.none; clear hi hm; have hb1' := hb1)
          | ((with_reducible refine g_dst 46 ?_); go_must (refine ev_append2 46 rfl Tryd.underlying22 infoD rfl (by decide) rfl HI1.out.ow rfl (l2 := m2) rfl hr2.out lenD oneD hn2.out (by have := HM2.out; have := HB.out.ml; omega) (by have := HM2.out; have := HB.out.ml; simp only [maxLen]; omega) (Nat.le_trans hbase.out hb1'.size) ?_); intro v9 wn how hg9 hor9; obtain ⟨A9, c9, rfl, h91, h92⟩ := how.form; have hb9 := HI1.out.ow.grown (Below.refl w.heap.size _) hg9 (Nat.le_refl _) (Nat.le_trans hbase.out hb1'.size); have HI := As.mk (HI1.out.append hb1'.size hbase.out HI2.out.good (fun b hb => ⟨(HI2.out.low b hb).1, (HI2.out.low b hb).2.1⟩) HI2.out.same how hg9 hor9); replace hlow := As.mk ((bthen hlow.out hb1').trans hb9); have HML : As ((m ++ m2).length ≤ (k + 1) * 65536) := ⟨by have := HM2.out; have := HB.out.ml; rw [List.length_append, Nat.succ_mul]; omega⟩; clear how hg9 hor9 hb9 h91 h92 HI1 cw1))
        have hd := (Below.refl wn.heap.size wn).drew
        have hS : ∀ W, Below wn.heap.size wn W → W.cell? ⟨b, off + k, none⟩ = some (.string ⟨tl.toArray⟩) := fun W hW => HSS.out _ (bthen hlow.out hW)
        have hS0 := hS _ hd
        have a3 : ∀ w : World, (Op.stringOp .add ⟨P2.toArray⟩ ⟨#[32]⟩).run Tryd.prog w = .ok (.string ⟨P3.toArray⟩) w := fun w => by rw [HP3.out]; exact run_add_lists w P2 [32] (by have := HL2.out; simp; omega)
        refine wp_gen2 (fun Q7 hQ7 => ?_)
        refine wp_region_held_drew (S := fun W => W.cell? ⟨b, off + k, none⟩ = some (.string ⟨tl.toArray⟩)) (by kernel_rfl) (hS0) (fun hHeld => ?_)
        repeat' (first
          | ((with_reducible refine gI ?_); first
            | (refine st_lit (v := fun g => .slice (some ⟨g, 0, none⟩) 5 5) 63 (by kernel_rfl) (cs := [.string ⟨#[32]⟩, .string ⟨#[59, 32, 119, 111, 114, 100, 115, 10]⟩, .string ⟨#[35, 124, 32, 97, 32, 35, 124, 32, 98, 32, 124, 35, 32, 124, 35]⟩, .string ⟨#[35, 59, 40, 120, 32, 34, 121, 34, 41, 32]⟩, .string ⟨#[9, 13, 10]⟩]) (t := 9) (by kernel_rfl) ?_; intro g63 w5 hb5 B63 hg63; have C63 := B63.cells; replace hd := bthen hd hb5; refine hK.out _ _ (hS _ hd) (fun hHeld => ?_); clear hK K; (try simp only [Act.put, pA, pB, pC, pD, pE, pF]))
            | (refine st (v := .string ⟨#[32]⟩) (by kernel_rfl) (by go_simp; try (with_reducible rfl)) ?_; refine hK.out _ _ (hS _ hd) (fun hHeld => ?_); clear hK K; (try simp only [Act.put, pA, pB, pC, pD, pE, pF])))
          | ((with_reducible refine gW ?_); first
            | (refine tk (i := 0) (v := .string ⟨p.toArray⟩) rfl (by decide +kernel) (by kernel_rfl) (fun W hSw => by (go_simp; (try (with_reducible rfl)))) (by assumption) ?_; (try simp only [Act.put, pA, pB, pC, pD, pE, pF]))
            | (refine tk (i := 1) (v := .slice (some ⟨b, off, none⟩) l.length c) rfl (by decide +kernel) (by kernel_rfl) (fun W hSw => by (go_simp; (try (with_reducible rfl)))) (by assumption) ?_; (try simp only [Act.put, pA, pB, pC, pD, pE, pF]))
            | (refine tk (i := 2) (v := .int .i64 (k : Int)) rfl (by decide +kernel) (by kernel_rfl) (fun W hSw => by (go_simp; (try (with_reducible rfl)))) (by assumption) ?_; (try simp only [Act.put, pA, pB, pC, pD, pE, pF]))
            | (refine tk (i := 3) (v := .pointer (some ⟨b, off + k, none⟩)) rfl (by decide +kernel) (by kernel_rfl) (fun W hSw => by (go_simp; (try (with_reducible rfl)))) (by assumption) ?_; (try simp only [Act.put, pA, pB, pC, pD, pE, pF]))
            | (refine tk (i := 4) (v := .string ⟨tl.toArray⟩) rfl (by decide +kernel) (by kernel_rfl) (fun W hSw => by (go_simp; (try (with_reducible rfl)))) (by assumption) ?_; (try simp only [Act.put, pA, pB, pC, pD, pE, pF]))
            | (refine tk (i := 5) (v := .string ⟨P1.toArray⟩) rfl (by decide +kernel) (by kernel_rfl) (fun W hSw => by (go_simp; (try (with_reducible rfl)))) (by assumption) ?_; (try simp only [Act.put, pA, pB, pC, pD, pE, pF]))
            | (refine tk (i := 6) (v := .string ⟨P2.toArray⟩) rfl (by decide +kernel) (by kernel_rfl) (fun W hSw => by (go_simp; (try (with_reducible rfl)))) (by assumption) ?_; (try simp only [Act.put, pA, pB, pC, pD, pE, pF]))
            | (refine tk (i := 8) (v := .int .i64 0) rfl (by decide +kernel) (by kernel_rfl) (fun W hSw => by (go_simp; (try (with_reducible rfl)))) (by assumption) ?_; (try simp only [Act.put, pA, pB, pC, pD, pE, pF]))
            | (refine tk (i := 9) (v := .pointer (some ⟨g63, 0, none⟩)) rfl (by decide +kernel) (by kernel_rfl) (fun W hSw => by (go_simp; (try (with_reducible rfl)))) (by assumption) ?_; (try simp only [Act.put, pA, pB, pC, pD, pE, pF]))
            | (refine tk (i := 11) (v := .string ⟨P3.toArray⟩) rfl (by decide +kernel) (by kernel_rfl) (fun W hSw => by (go_simp; (try (with_reducible rfl)))) (by assumption) ?_; (try simp only [Act.put, pA, pB, pC, pD, pE, pF]))
            | (refine tk (i := 12) (v := .string ⟨P3.toArray⟩) rfl (by decide +kernel) (by kernel_rfl) (fun W hSw => by (go_simp; (try (with_reducible rfl)))) (by assumption) ?_; (try simp only [Act.put, pA, pB, pC, pD, pE, pF]))
            | refine wpAnyH_ready (rs := [7]) (by decide +kernel) (by simp) ?_
            | refine wpAnyH_ready (rs := [10]) (by decide +kernel) (by simp) ?_)
          | ((with_reducible refine gA ?_); first
            | exact AllReadyH.nil
            | (refine AllReadyH.cons (o := _) (by simp only [List.getElem?_toArray, List.getElem?_cons_succ, List.getElem?_cons_zero]; rfl) (fun K hK => ?_) ?_)))
        all_goals
          refine wpAnyH_done (by kernel_rfl) ?_ _
          refine NoPanic.normal ?_
          obtain ⟨rfl⟩ := hQ7
          go_wp2
          go_roundw
          case rel => exact ⟨k + 1, P3, A9, c9, m ++ m2, acc ++ l2, rfl, by rw [List.length_append], by go_num, ⟨⟨(HI.out.below hd (Nat.le_refl _)).more hd.size, bthen hlow.out hd, by rw [HP3.out, HP2.out, HP1.out, show ((p ++ tl) ++ [10]) ++ [32] = p ++ (tl ++ (10 :: gap 0)) by simp [gap]]; exact gapI_step 0 HB.out.gap HT2.out, by rw [HP3.out, List.length_append]; have := HL2.out; simp; omega, HML.out, h1, h2⟩⟩⟩
          case measure => simp [intOf]; omega
end Go.Proofs.YtdapbegadhcpcaaDoor
