/- nat.Text: the decimal digits. -/
import Derived.Test.YtigoofeodbbbhaaDoorFmt
import Derived.Test.YtigoofeodbbbhaaDoorMath6
import Derived.Lib.AppendIntMem
namespace Go.Proofs.YtigoofeodbbbhaaDoor
open Go.RowKit Go.Proofs.YtigoofeodbbbhaaDoorL Go.Proofs.YtigoofeodbbbhaaDoorM
set_option linter.unusedVariables false
set_option linter.unusedSimpArgs false
theorem infoT : (Tryd.prog.info? 9).map (fun i => (i.zero, i.size, i.bytes)) = some (some (.string ⟨#[]⟩), 1, 16) := by kernel_rfl
theorem infoBld : (Tryd.prog.info? 97).map (fun i => (i.zero, i.size, i.bytes)) = some (some (.agg #[.pointer none, .slice none 0 0]), 2, 32) := by kernel_rfl
def encT (x : List UInt8) : List Value := [.string ⟨x.toArray⟩]
def valT (x : List UInt8) : Value := .string ⟨x.toArray⟩
theorem encT_one : ∀ x, encT x = [valT x] := fun _ => rfl
theorem lenT : ∀ x, (encT x).length = 1 := fun _ => rfl
theorem oneT : ∀ x, ∀ u ∈ encT x, u.oneCell' = true := fun x => by simp [encT, Value.oneCell']
theorem Rd.t {w : World} {b off : Nat} {l : List (List UInt8)} (f : Rd encT 1 w (some ⟨b, off, none⟩) l) (i : Nat) (hi : i < l.length) : w.cell? ⟨b, off + i, none⟩ = some (.string ⟨l[i].toArray⟩) := by
  have := f.cell i hi 0 _ rfl
  simpa using this
theorem smallN (l : List Nat) (n : Nat) (hn : l.length = n) (A : Option Addr) (c : Nat) (w : World) (hr : Rd encU 1 w A l) (hl : ∀ x ∈ l, x < 4294967296) (hc : n ≤ c) (hm : n * 4 ≤ 140737488355328) :
    Calls Tryd.prog 76 #[.slice A n c, .int .u32 1000000000] w (Gives w fun v w' => ∃ q, v = .tuple #[q, .int .u32 ((valB 4294967296 l % 1000000000 : Nat) : Int)] ∧ Ow encU 1 62 w.heap.size w' q (digB 4294967296 (valB 4294967296 l / 1000000000))) := by
  subst hn
  exact small_any l A c 1000000000 w hr hl (by omega) (by omega) hc hm
theorem fmtN (u : Nat) (w : World) (hu : u < 18446744073709551616) (htab : Tab w) :
    Calls Tryd.prog 92 #[.int .u64 u, .int .i64 10] w (Gives w fun v w' => v = .string ⟨(Lib.decDigits u).toArray⟩) := fmtU_any u w hu htab
theorem rep0 (c : Nat) (w : World) (hc : c ≤ 9) : Calls Tryd.prog 94 #[.string ⟨#[48]⟩, .int .i64 c] w (Gives w fun v w' => v = .string ⟨(List.replicate c (48 : UInt8)).toArray⟩) := by
  refine (Tryd.strings_Repeat ⟨#[48]⟩ c w (by omega) (by show 1 * c ≤ _; omega)).mono ?_
  rintro e w' ⟨rfl, hb⟩
  refine ⟨_, rfl, ?_, hb⟩
  have : ∀ n, Lib.repeatL [48] n = List.replicate n (48 : UInt8) := fun n => by
    induction n with
    | zero => rfl
    | succ n ih => rw [Lib.repeatL, ih]; rfl
  rw [show (ByteArray.mk #[48]).data.toList = [48] from rfl, this]
def IsB (B b : Nat) (l : List UInt8) (w : World) : Prop := Lib.IsBuilder 97 5 B b (Lib.byteCells l) w
theorem bldW (B b : Nat) (l x : List UInt8) (w : World) (h : IsB B b l w) (hlen : l.length + x.length ≤ 140737488355328) (hBw : B ≤ w.heap.size) :
    Calls Tryd.prog 93 #[.pointer (some ⟨b, 0, none⟩), .string ⟨x.toArray⟩] w fun e w' => (∃ z : Int, e = .returned (.tuple #[.int .i64 z, .nilIface])) ∧ IsB B b (l ++ x) w' ∧ Below B w w' := by
  refine (bld_WriteString B b (Lib.byteCells l) ⟨x.toArray⟩ w h (by rw [show (Lib.byteCells l).length = l.length by simp [Lib.byteCells], show (ByteArray.mk x.toArray).size = x.length by simp [ByteArray.size]]; exact hlen) hBw).mono ?_
  rintro e w' ⟨rfl, h1, h2⟩
  refine ⟨⟨_, rfl⟩, .inr ?_, h2⟩
  rw [Lib.strCells_toArray] at h1
  rw [show Lib.byteCells (l ++ x) = Lib.byteCells l ++ Lib.byteCells x by simp [Lib.byteCells]]
  exact h1
theorem bldS (B b : Nat) (l : List UInt8) (w : World) (h : IsB B b l w) (hBw : B ≤ w.heap.size) :
    Calls Tryd.prog 95 #[.pointer (some ⟨b, 0, none⟩)] w fun e w' => e = .returned (.string ⟨l.toArray⟩) ∧ Below B w w' := Tryd.Builder_String_any B b l w h hBw
theorem blk_isB {w : World} {g B : Nat} (f : Blk w g [.pointer none, .slice none 0 0] 97) (hB : B ≤ g) : IsB B g [] w :=
  .inl ⟨hB, _, f.h, World.ownsRow_nil w B 5 1, by simp [Value.ownBlock]⟩
theorem IsB.below {B b : Nat} {l : List UInt8} {w w1 : World} (h : IsB B b l w) (hb : Below w.heap.size w w1) : IsB B b l w1 := by
  have key : ∀ p, Lib.BuilderAt 97 5 B b p (Lib.byteCells l) w → Lib.BuilderAt 97 5 B b p (Lib.byteCells l) w1 := fun p h => by
    have hlt := h.lt
    obtain ⟨h1, v, h2, h3, h4⟩ := h
    refine ⟨h1, v, (hb.block b hlt).trans h2, ⟨h3.1, ?_⟩, h4⟩
    rcases h3.2 with h5 | ⟨g, cap, cur, hv, hg, hh, r⟩
    · exact .inl h5
    · exact .inr ⟨g, cap, cur, hv, hg, (hb.block g (Array.getElem?_eq_some_iff.1 hh).1).trans hh, r⟩
  rcases h with h | h
  · exact .inl (key _ h)
  · exact .inr (key _ h)
set_option maxHeartbeats 1000000 in
theorem nText_any (l : List Nat) (n : Nat) (hn : l.length = n) (A : Option Addr) (c : Nat) (w : World) (htab : Tab w) (hr : Rd encU 1 w A l) (hl : ∀ x ∈ l, x < 4294967296) (hc : n ≤ c) (hA : A = none → c = 0) (hm : n ≤ 274877906944) :
    Calls Tryd.prog 65 #[.slice A n c] w (Gives w fun v w' => v = .string ⟨(Lib.decDigits (valB 4294967296 l)).toArray⟩) := by
  subst hn
  obtain ⟨V, hV⟩ : ∃ V, V = valB 4294967296 l := ⟨_, rfl⟩
  rw [← hV]
  have htr := trimL_dig 4294967296 (by omega) l hl
  rw [← hV] at htr
  have hlen : (digB 4294967296 V).length ≤ 274877906944 := by rw [← htr]; exact Nat.le_trans (trimL_le l) hm
  have h9 := dig9_len l hl
  rw [← hV] at h9
  obtain ⟨E, hE⟩ : ∃ E, E = (digB 1000000000 V).map Lib.decDigits := ⟨_, rfl⟩
  have hEl : E.length ≤ 549755813888 := by rw [hE, List.length_map]; omega
  have hE9 : As (∀ x ∈ E, x.length ≤ 9) := ⟨fun x hx => by
    rw [hE] at hx
    obtain ⟨r, hr, rfl⟩ := List.mem_map.1 hx
    exact dec_len9 r (digB_lt 1000000000 (by omega) V r hr)⟩
  have Htr := As.mk htr
  have HV := As.mk hV
  have HE := As.mk hE
  have HA := As.mk hA
  have HT := As.mk htab
  clear htr hV hE h9 hl hA htab
  go_enter Tryd.func65, Tryd.ntmps65
  go_wp2_with (go_at_call 75; (with_reducible refine (own_any l _ _ _ hr hc HA.out (by omega)).mono ?_); rintro e w1 ⟨v1, rfl, ho1, hb1⟩; rw [Htr.out] at ho1; obtain ⟨A1, c1, rfl, h11, h12⟩ := ho1.form)
  go_loopw [0, 3, 4] (fun v u y wr => ∃ x : Nat, ∃ ds : List (List UInt8), As (E = ds ++ (digB 1000000000 x).map Lib.decDigits) ∧ (digB 4294967296 x).length ≤ 274877906944 ∧ ds.length ≤ E.length ∧ Below w.heap.size w wr ∧ Ow encU 1 62 w.heap.size wr v (digB 4294967296 x) ∧ Ow encT 1 9 w.heap.size wr u ds) (fun v u y _ => E.length - vLen u)
  case atStart => exact ⟨V, [], ⟨HE.out⟩, hlen, by simp, hb1, ho1, Ow.nil _ _ _ _ _⟩
  case round =>
    obtain ⟨x, ds, hds, hxl, hdl, hb, ho, hot⟩ := hrel
    obtain ⟨A3, c3, rfl, h31, h32⟩ := ho.form
    obtain ⟨A4, c4, rfl, h41, h42⟩ := hot.form
    by_cases hx : x = 0
    · have hE : E = ds := by rw [hds.out, hx, digB_zero]; simp
      subst hE
      have hxz : (digB 4294967296 x).length = 0 := by rw [hx, digB_zero]; rfl
      clear hx hds
      by_cases h0 : E.length = 0
      · have hV0 : V = 0 := by
          have := congrArg List.length HE.out
          rw [h0, List.length_map] at this
          exact (digB_eq_nil 1000000000 V (by omega)).1 (List.eq_nil_of_length_eq_zero this.symm)
        have hdd : As (Lib.decDigits V = [48]) := ⟨by rw [hV0, Lib.decDigits_one (by omega)]; rfl⟩
        clear hV0
        go_wp2
        go_ret
        exact ⟨_, rfl, by rw [hdd.out]; rfl, hb⟩
      · have hz : ((E.length : Int) == 0) = false := by simp; intro h; exact h0 (by rw [h]; rfl)
        have hVp : 0 < V := by
          rcases Nat.eq_zero_or_pos V with h | h
          · exfalso; apply h0; rw [HE.out, h, digB_zero]; rfl
          · exact h
        have hJ : As (joinL E = Lib.decDigits V) := ⟨by rw [HE.out]; exact joinL_dec V hVp⟩
        have hJl : ∀ k, (joinL (E.drop k)).length ≤ 9 * E.length := fun k => Nat.le_trans (joinL_len _ (fun z hz => hE9.out z (List.mem_of_mem_drop hz))) (by rw [List.length_drop]; omega)
        have HJl := As.mk hJl
        clear h0 hJl
        have hrt := hot.rd lenT
        obtain ⟨wo, rfl⟩ : ∃ wo : World, wo = wr := ⟨_, rfl⟩
        go_wp2_with ((with_reducible refine g_dst 5 ?_); go_must (refine ev_alloc 5 rfl infoBld (cs := [.pointer none, .slice none 0 0]) rfl ?_); intro g w2 hb2 B2 hg2)
        go_loopw [6] (fun v wq => ∃ k : Nat, k ≤ E.length ∧ v = .int .i64 ((k : Int) - 1) ∧ Below wo.heap.size wo wq ∧ IsB wo.heap.size g (joinL (E.drop k)) wq) (fun v _ => (intOf v + 1).toNat)
        case atStart => exact ⟨E.length, by omega, by go_num, hb2, by rw [List.drop_length]; exact blk_isB B2 hg2⟩
        case round =>
          obtain ⟨k, hk, rfl, hb3, hB3⟩ := hrel
          cases k with
          | zero =>
            rw [List.drop_zero, hJ.out] at hB3
            go_wp2_with (go_at_call 95; (with_reducible refine (bldS _ g _ _ hB3 hb3.size).mono ?_); rintro e w4 ⟨rfl, hb4⟩)
            go_ret
            exact ⟨_, rfl, rfl, bthen hb (hb3.trans hb4)⟩
          | succ m =>
            obtain ⟨b, off, rfl⟩ := (hrt.below hb3).get (ne_nil_of_lt (i := m) (by omega))
            have hcell := Rd.t (hrt.below hb3) m (by omega)
            have hd := drop_cons_of_lt E m (by omega)
            have hx9 := hE9.out _ (List.getElem_mem (show m < E.length by omega))
            obtain ⟨y, hy⟩ : ∃ y, y = E[m] := ⟨_, rfl⟩
            rw [← hy] at hcell hd hx9
            by_cases hm2 : m + 1 < E.length
            · have hjc := joinL_cons y (E.drop (m + 1)) (List.ne_nil_of_length_pos (by rw [List.length_drop]; omega))
              rw [← hd, ← List.append_assoc] at hjc
              have hrep := fun w => rep0 (9 - y.length) w (by omega)
              have hpl : (List.replicate (9 - y.length) (48 : UInt8)).length ≤ 9 := by rw [List.length_replicate]; omega
              obtain ⟨pd, hpd⟩ : ∃ pd, pd = List.replicate (9 - y.length) (48 : UInt8) := ⟨_, rfl⟩
              rw [← hpd] at hjc hpl
              simp only [← hpd] at hrep
              have Hjc := As.mk hjc
              have Hy := As.mk hy
              have Hrep := As.mk hrep
              have e9 : (9 : Int) - (y.length : Int) = ((9 - y.length : Nat) : Int) := by omega
              clear hjc hd hy hpd hrep
              go_wp2_with (first
                | (go_at_call 94; (with_reducible refine (Hrep.out _).mono ?_); rintro e w4 ⟨v4, rfl, rfl, hb4⟩; replace hB3 := hB3.below hb4; have hbw4 := bthen hb3 hb4)
                | (go_at_call 93; (with_reducible refine (bldW _ g _ pd _ hB3 (by have := HJl.out (m + 1); omega) hbw4.size).mono ?_); rintro e w5 ⟨⟨z5, rfl⟩, hB5, hb5⟩; have hbw5 := hbw4.trans hb5; have hcell5 := Rd.t (hrt.below hbw5) m (by omega); rw [← Hy.out] at hcell5)
                | (go_at_call 93; (with_reducible refine (bldW _ g _ y _ hB5 (by have := HJl.out (m + 1); rw [List.length_append]; omega) hbw5.size).mono ?_); rintro e w6 ⟨⟨z6, rfl⟩, hB6, hb6⟩; have hbw6 := hbw5.trans hb6))
              go_roundw
              case rel => exact ⟨m, by omega, by go_num, hbw6, by rw [Hjc.out]; exact hB6⟩
              case measure => simp [intOf]
            · have hdn : E.drop (m + 1) = [] := List.drop_of_length_le (by omega)
              have hjy : As (joinL (E.drop m) = y) := ⟨by rw [hd, hdn]; rfl⟩
              rw [hdn] at hB3
              have hB3' : IsB wo.heap.size g [] wr := hB3
              clear hd hy hdn hB3
              go_wp2_with (go_at_call 93; (with_reducible refine (bldW _ g [] y _ hB3' (by simp; omega) hb3.size).mono ?_); rintro e w6 ⟨⟨z6, rfl⟩, hB6, hb6⟩; have hbw6 := hb3.trans hb6)
              go_roundw
              case rel => exact ⟨m, by omega, by go_num, hbw6, by rw [hjy.out]; exact hB6⟩
              case measure => simp [intOf]
    · have hxp : 0 < x := by omega
      have hn0 : 0 < (digB 4294967296 x).length := List.length_pos_iff.2 (fun h => hx ((digB_eq_nil 4294967296 x (by omega)).1 h))
      have hst := piece_step Lib.decDigits x hxp E ds hds.out
      obtain ⟨r, hr9⟩ : ∃ r, r = x % 1000000000 := ⟨_, rfl⟩
      have hr9' : r < 1000000000 := by omega
      obtain ⟨q, hq⟩ : ∃ q, q = x / 1000000000 := ⟨_, rfl⟩
      have hql : (digB 4294967296 q).length ≤ (digB 4294967296 x).length := digB_len_mono 4294967296 (by omega) _ _ (by omega)
      rw [← hr9, ← hq] at hst
      have hdl2 : ds.length + 1 ≤ E.length := by rw [hst]; simp
      have HST := As.mk hst
      have HX := As.mk hr9
      have HQ := As.mk hq
      have HB := As.mk (show (ds.length + 1) * 16 ≤ 140737488355328 from by omega)
      have HM := As.mk (show ds.length + 1 ≤ maxLen from by simp only [maxLen]; omega)
      have hlt := fun k hk => (hot.own.lt k hk).2
      clear hst hr9 hq
      go_wp2_with (first
        | (go_at_call 76; (with_reducible refine (smallN (digB 4294967296 x) _ rfl _ _ _ (ho.rd lenU) (digB_lt 4294967296 (by omega) x) h31 (by omega)).mono ?_); rintro e w4 ⟨v4, rfl, ⟨q4, rfl, ho4⟩, hb4⟩; rw [digB_val 4294967296 (by omega), ← HQ.out] at ho4; rw [digB_val 4294967296 (by omega), ← HX.out]; replace hot := hot.below hb4; have hbw4 := bthen hb hb4; obtain ⟨A5, c5, rfl, h51, h52⟩ := ho4.form)
        | (go_at_call 92; (with_reducible refine (fmtN r _ (by omega) (HT.out.below hbw4)).mono ?_); rintro e w5 ⟨v5, rfl, rfl, hb5⟩; replace hot := hot.below hb5; replace ho4 := ho4.below hb5; have hbw5 := bthen hbw4 hb5; clear hb5)
        | ((with_reducible refine g_dst 21 ?_); go_must (refine ev_lit (v := fun g => .slice (some ⟨g, 0, none⟩) 1 1) 21 rfl (cs := [valT (Lib.decDigits r)]) (t := 9) (by go_simp; rfl) ?_); intro g6 w6 hb6 B6 hg6; replace hot := hot.below hb6; replace ho4 := ho4.below hb6; have hbw6 := bthen hbw5 hb6; clear hb6)
        | ((with_reducible refine g_dst 22 ?_); go_must (refine ev_append 22 rfl Tryd.underlying92 infoT rfl (by decide) rfl hot rfl rfl (B6.rdm (l := [Lib.decDigits r]) encT_one) lenT oneT (fun h => by cases h) HB.out HM.out hbw6.size ?_); intro v7 w7 ho7 hg7; have hbw7 := hot.grown hbw6 hg7 (Nat.le_refl _) hbw6.size; replace ho4 := ho4.apart hg7 hlt hb.size; obtain ⟨A7, c7, rfl, h71, h72⟩ := ho7.form))
      go_roundw
      case rel => exact ⟨q, ds ++ [Lib.decDigits r], ⟨HST.out⟩, by omega, by simpa using hdl2, hbw7, ho4, by simpa using ho7⟩
      case measure => simp [vLen]; omega
end Go.Proofs.YtigoofeodbbbhaaDoor
