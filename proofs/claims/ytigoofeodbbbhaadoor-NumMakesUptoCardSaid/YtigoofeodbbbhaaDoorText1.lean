/- tandemref01.Text: the decimal digits. -/
import Derived.Test.YtigoofeodbbbhaaDoorRef3
import Derived.Test.YtigoofeodbbbhaaDoorMath5
import Derived.Laws.BytesArg
namespace Go.Proofs.YtigoofeodbbbhaaDoor
open Go.RowKit Go.Proofs.YtigoofeodbbbhaaDoorL Go.Proofs.YtigoofeodbbbhaaDoorM
set_option linter.unusedVariables false
set_option linter.unusedSimpArgs false
theorem infoB : (Tryd.prog.info? 5).map (fun i => (i.zero, i.size, i.bytes)) = some (some (.int .u8 0), 1, 1) := by kernel_rfl
def encB (x : Nat) : List Value := [.int .u8 x]
def valB8 (x : Nat) : Value := .int .u8 x
theorem encB_one : ∀ x, encB x = [valB8 x] := fun _ => rfl
theorem lenB : ∀ x, (encB x).length = 1 := fun _ => rfl
theorem oneB : ∀ x, ∀ u ∈ encB x, u.oneCell' = true := fun x => by simp [encB, Value.oneCell']
/-- a text of bytes -/
def sB (l : List Nat) : ByteArray := strOfNums (l.map Int.ofNat)
theorem Rd.b {w : World} {b off : Nat} {l : List Nat} (f : Rd encB 1 w (some ⟨b, off, none⟩) l) (i : Nat) (hi : i < l.length) : w.cell? ⟨b, off + i, none⟩ = some (.int .u8 (l[i] : Nat)) := by
  have := f.cell i hi 0 _ rfl
  simpa using this
theorem blk_rdp {α : Type} {enc : α → List Value} {f : α → Value} {w : World} {g : Nat} {l : List α} {tl : List Value} {e : TypeId} (B : Blk w g (l.map f ++ tl) e) (hf : ∀ x, enc x = [f x]) : Rd enc 1 w (some ⟨g, 0, none⟩) l := by
  refine ⟨fun _ => ⟨g, 0, rfl, fun i x hx j v hv => ?_⟩⟩
  have hi : i < l.length := (List.getElem?_eq_some_iff.1 hx).1
  rw [hf] at hv
  have hj : j = 0 := by
    have := (List.getElem?_eq_some_iff.1 hv).1
    simp at this; exact this
  subst hj
  rw [B.cells, Nat.zero_add, Nat.mul_one, Nat.add_zero, List.getElem?_append_left (by simpa using hi), List.getElem?_map, hx]
  simpa using hv
theorem conv_bytes {P : Program} {w : World} {src dst e : TypeId} {b off cap : Nat} {l : List Nat} (hs : P.underlying src = some (.slice e)) (he : P.underlying e = some (.int .u8)) (hd : P.underlying dst = some .string) (hr : Rd encB 1 w (some ⟨b, off, none⟩) l) :
    (convert src dst (.slice (some ⟨b, off, none⟩) l.length cap)).run P w = .ok (.string (sB l)) w := by
  refine run_convert_bytes_arg w src e hs he b off l.length cap (l.map Int.ofNat) (by simp) (fun i hi => ?_) dst hd
  rw [Rd.b hr i hi]
  simp [List.getD, List.getElem?_eq_getElem hi]
theorem rsmall_10 (l : List Nat) (n : Nat) (hn : l.length = n) (A : Option Addr) (c : Nat) (w : World) (hr : Rd encI 1 w A l) (hl : ∀ x ∈ l, x < 65536) (hc : n ≤ c) (hm : n ≤ 1099511627776) :
    Calls Tryd.prog 96 #[.slice A n c, .int .i64 10] w (Gives w fun v w' => ∃ q, v = .tuple #[q, .int .i64 ((valB 65536 l % 10 : Nat) : Int)] ∧ Ow encI 1 3 w.heap.size w' q (digB 65536 (valB 65536 l / 10))) :=
  rsmall_any l n hn A c 10 w hr hl (by omega) (by omega) hc hm
theorem half_len2 (l : List Nat) (h : ∀ x ∈ l, x < 4294967296) : (digB 65536 (valB 4294967296 l)).length ≤ 2 * l.length := by
  rw [← trim_halves l h, ← halves_len]
  exact trimL_le _
set_option maxHeartbeats 400000 in
theorem rText_any (l : List Nat) (n : Nat) (hn : l.length = n) (A : Option Addr) (c : Nat) (w : World) (hr : Rd encU 1 w A l) (hl : ∀ x ∈ l, x < 4294967296) (hc : n ≤ c) (hm : n ≤ 274877906944) :
    Calls Tryd.prog 66 #[.slice A n c] w (Gives w fun v w' => v = .string (sB (decL (valB 4294967296 l)))) := by
  subst hn
  obtain ⟨V, hV⟩ : ∃ V, V = valB 4294967296 l := ⟨_, rfl⟩
  have hlen := half_len2 l hl
  rw [← hV]
  rw [← hV] at hlen
  have hd := dig10_len (digB 65536 V) (digB_lt 65536 (by omega) V)
  rw [digB_val 65536 (by omega)] at hd
  have HV := As.mk hV
  have Hl := As.mk hl
  clear hV hl
  by_cases h0 : V = 0
  · have hdl : decL V = [48] := by rw [decL, if_pos h0]
    rw [hdl]
    have hnil : digB 65536 V = [] := by rw [h0, digB_zero]
    have Hnil := As.mk hnil
    clear hdl hnil h0
    go_enter Tryd.func66, Tryd.ntmps66
    go_wp2_with (go_at_call 81; (with_reducible refine (half_any l _ rfl _ _ _ hr Hl.out hc (by omega)).mono ?_); rintro e w2 ⟨v2, rfl, ho2, hb2⟩; rw [← HV.out, Hnil.out] at ho2; obtain ⟨A2, c2, rfl, h21, h22⟩ := ho2.form)
    go_ret
    exact ⟨_, rfl, rfl, hb2⟩
  · have hpos : 0 < V := by omega
    have hdl : decL V = ((digB 10 V).map (48 + ·)).reverse := decL_pos hpos
    rw [hdl]
    have hne : digB 65536 V ≠ [] := fun h => h0 ((digB_eq_nil 65536 V (by omega)).1 h)
    have hpl : 0 < (digB 65536 V).length := List.length_pos_iff.2 hne
    clear hdl h0
    obtain ⟨D, hD⟩ : ∃ D, D = (digB 10 V).map (48 + ·) := ⟨_, rfl⟩
    have hdD : D.length ≤ 5 * (digB 65536 V).length := by rw [hD, List.length_map]; exact hd
    have hd0 : 0 < D.length := by rw [hD, List.length_map, digB_pos 10 V (by omega) hpos]; simp
    rw [← hD]
    have HD := As.mk hD
    clear hD hd
    have hz : (((digB 65536 V).length : Int) == 0) = false := by simp; exact hne
    clear hne
    go_enter Tryd.func66, Tryd.ntmps66
    go_wp2_with (go_at_call 81; (with_reducible refine (half_any l _ rfl _ _ _ hr Hl.out hc (by omega)).mono ?_); rintro e w2 ⟨v2, rfl, ho2, hb2⟩; rw [← HV.out] at ho2; obtain ⟨A2, c2, rfl, h21, h22⟩ := ho2.form)
    go_loopw [3, 4, 5, 6] (fun v u y z wr => ∃ x : Nat, ∃ ds : List Nat, As (D = ds ++ (digB 10 x).map (48 + ·)) ∧ (digB 65536 x).length ≤ 549755813888 ∧ ds.length ≤ D.length ∧ Below w.heap.size w wr ∧ Ow encI 1 3 w.heap.size wr v (digB 65536 x) ∧ Ow encB 1 5 w.heap.size wr u ds) (fun v u y z _ => D.length - vLen u)
    case atStart => exact ⟨V, [], ⟨HD.out⟩, by omega, by simp, hb2, ho2, Ow.nil _ _ _ _ _⟩
    case round =>
      obtain ⟨x, ds, hds, hxl, hdl, hb, ho, hob⟩ := hrel
      obtain ⟨A3, c3, rfl, h31, h32⟩ := ho.form
      obtain ⟨A4, c4, rfl, h41, h42⟩ := hob.form
      by_cases hx : x = 0
      · have hE : D = ds := by rw [hds.out, hx, digB_zero]; simp
        subst hE
        have hdn : D ≠ [] := List.length_pos_iff.1 hd0
        have hxz : (digB 65536 x).length = 0 := by rw [hx, digB_zero]; rfl
        obtain ⟨g, cp, tl, hsl, hg, hcp, B⟩ := hob.blk encB_one hdn
        simp only [Value.slice.injEq, true_and] at hsl
        obtain ⟨rfl, rfl⟩ := hsl
        have hgl : g < wr.heap.size := B.lt
        clear hx hds
        obtain ⟨wo, rfl⟩ : ∃ wo : World, wo = wr := ⟨_, rfl⟩
        go_wp2
        go_loopw [7] (fun v wq => ∃ i : Nat, ∃ X : List Nat, 2 * i ≤ D.length ∧ v = .int .i64 (i : Int) ∧ As (Swapped D X i) ∧ Below w.heap.size w wq ∧ Blk wq g (X.map valB8 ++ tl) 5) (fun v _ => D.length - (intOf v).toNat)
        case atStart => exact ⟨0, D, by omega, rfl, ⟨Swapped.start D⟩, hb, B⟩
        case round =>
          obtain ⟨i, X, hi, rfl, hX, hb3, B3⟩ := hrel
          have hXl := hX.out.len
          by_cases hi2 : 2 * i + 1 < D.length
          · obtain ⟨j, hj⟩ : ∃ j, j = D.length - 1 - i := ⟨_, rfl⟩
            have hXi : i < X.length := by omega
            have hXj : j < X.length := by omega
            have hji : j ≠ i := by omega
            have hst := hX.out.step hi2
            rw [← hj] at hst
            obtain ⟨x1, hx1⟩ : ∃ x, x = X.getD i 0 := ⟨_, rfl⟩
            obtain ⟨x2, hx2⟩ : ∃ x, x = X.getD j 0 := ⟨_, rfl⟩
            rw [← hx1, ← hx2] at hst
            have hc1 : wr.cell? ⟨g, i, none⟩ = some (.int .u8 (x1 : Nat)) := by
              rw [B3.cells, List.getElem?_append_left (by simpa using hXi), List.getElem?_map, List.getElem?_eq_getElem hXi, hx1, List.getD, List.getElem?_eq_getElem hXi]; rfl
            have hc2 : wr.cell? ⟨g, j, none⟩ = some (.int .u8 (x2 : Nat)) := by
              rw [B3.cells, List.getElem?_append_left (by simpa using hXj), List.getElem?_map, List.getElem?_eq_getElem hXj, hx2, List.getD, List.getElem?_eq_getElem hXj]; rfl
            have hf1 := B3.free i
            have hf2 := B3.free j
            have Hst := As.mk hst
            have HXl := As.mk hXl
            have ej : (D.length : Int) - 1 - (i : Int) = (j : Int) := by omega
            have ed : ((D.length : Int).tdiv 2) = ((D.length / 2 : Nat) : Int) := by rw [Int.tdiv_eq_ediv_of_nonneg (by omega)]; rfl
            have hlt2 : i < D.length / 2 := by omega
            have hjD : j < D.length := by omega
            have e1 : IntKind.i64.wrap ((D.length : Int) - 1) = (D.length : Int) - 1 := IntWalk.i64_in _ (by omega)
            have e2 : IntKind.i64.wrap ((D.length : Int) - 1 - (i : Int)) = (j : Int) := by rw [ej]; exact IntWalk.i64_in _ (by omega)
            clear hst hXl hx1 hx2 hj
            go_wp2
            go_region
            have hW := ((B3.set i (Value.int .u8 (x2 : Nat))).set j (Value.int .u8 (x1 : Nat))).drew
            have hbW := ((hb3.setCell (p := ⟨g, i, none⟩) hg (Value.int .u8 (x2 : Nat))).setCell (p := ⟨g, j, none⟩) hg (Value.int .u8 (x1 : Nat))).drew
            generalize ((wr.setCell ⟨g, i, none⟩ (Value.int .u8 (x2 : Nat))).setCell ⟨g, j, none⟩ (Value.int .u8 (x1 : Nat))).drew = W7 at hW hbW ⊢
            have hset : ((X.map valB8 ++ tl).set i (Value.int .u8 (x2 : Nat))).set j (Value.int .u8 (x1 : Nat)) = ((X.set i x2).set j x1).map valB8 ++ tl := by
              rw [List.set_append_left _ _ (by simpa using hXi), List.set_append_left _ _ (by simpa using hXj), List.map_set, List.map_set]; rfl
            rw [hset] at hW
            clear hset hc1 hc2 hf1 hf2 e1 e2 ej ed
            go_wp2
            go_roundw
            case rel => exact ⟨i + 1, _, by omega, by go_num, ⟨Hst.out⟩, hbW, hW⟩
            case measure => simp [intOf]; omega
          · have hfin : X = D.reverse := hX.out.done (by omega)
            have hconv := conv_bytes (P := Tryd.prog) (src := 95) (dst := 9) (w := wr) (cap := c4) Tryd.underlying95 Tryd.underlying5 Tryd.underlying9 (blk_rdp B3 encB_one)
            rw [hfin, List.length_reverse] at hconv
            have ed : ((D.length : Int).tdiv 2) = ((D.length / 2 : Nat) : Int) := by rw [Int.tdiv_eq_ediv_of_nonneg (by omega)]; rfl
            have hge : ¬ i < D.length / 2 := by omega
            have hfa : (decide ((i : Int) < (D.length : Int) / 2)) = false := by simp; omega
            clear hfin hXl
            go_wp2
            go_ret
            exact ⟨_, rfl, rfl, hb3⟩
      · have hxp : 0 < x := by omega
        have hn0 : 0 < (digB 65536 x).length := List.length_pos_iff.2 (fun h => hx ((digB_eq_nil 65536 x (by omega)).1 h))
        have hst := dec_step x hxp D ds hds.out
        obtain ⟨r, hr10⟩ : ∃ r, r = x % 10 := ⟨_, rfl⟩
        have hr10' : r < 10 := by omega
        obtain ⟨q, hq⟩ : ∃ q, q = x / 10 := ⟨_, rfl⟩
        have hql : (digB 65536 q).length ≤ (digB 65536 x).length := digB_len_mono 65536 (by omega) _ _ (by omega)
        rw [← hr10, ← hq] at hst
        have hdl2 : ds.length + 1 ≤ D.length := by rw [hst]; simp
        have HST := As.mk hst
        have HX := As.mk hr10
        have HQ := As.mk hq
        have HB := As.mk (show (ds.length + 1) * 1 ≤ 140737488355328 from by omega)
        have HM := As.mk (show ds.length + 1 ≤ maxLen from by simp only [maxLen]; omega)
        have e1 : IntKind.u8.wrap (48 + (r : Int)) = ((48 + r : Nat) : Int) := by rw [IntWalk.u8_in _ (by omega)]; rfl
        clear hst hr10 hq
        have hlt := fun k hk => (hob.own.lt k hk).2
        go_wp2_with (first
          | (go_at_call 96; (with_reducible refine (rsmall_10 (digB 65536 x) _ rfl _ _ _ (ho.rd lenI) (digB_lt 65536 (by omega) x) h31 (by omega)).mono ?_); rintro e w4 ⟨v4, rfl, ⟨q4, rfl, ho4⟩, hb4⟩; rw [digB_val 65536 (by omega), ← HQ.out] at ho4; rw [digB_val 65536 (by omega), ← HX.out]; replace hob := hob.below hb4; have hbw4 := bthen hb hb4; obtain ⟨A5, c5, rfl, h51, h52⟩ := ho4.form)
          | ((with_reducible refine g_dst 25 ?_); go_must (refine ev_lit (v := fun g => .slice (some ⟨g, 0, none⟩) 1 1) 25 rfl (cs := [valB8 (48 + r)]) (t := 5) (by go_simp; rfl) ?_); intro g6 w6 hb6 B6 hg6; replace hob := hob.below hb6; replace ho4 := ho4.below hb6; have hbw6 := bthen hbw4 hb6; clear hb6)
          | ((with_reducible refine g_dst 26 ?_); go_must (refine ev_append 26 rfl Tryd.underlying95 infoB rfl (by decide) rfl hob rfl rfl (B6.rdm (l := [48 + r]) encB_one) lenB oneB (fun h => by cases h) HB.out HM.out hbw6.size ?_); intro v7 w7 ho7 hg7; have hbw7 := hob.grown hbw6 hg7 (Nat.le_refl _) hbw6.size; replace ho4 := ho4.apart hg7 hlt hb.size; obtain ⟨A7, c7, rfl, h71, h72⟩ := ho7.form))
        go_roundw
        case rel => exact ⟨q, ds ++ [48 + r], ⟨HST.out⟩, by omega, by simpa using hdl2, hbw7, ho4, by simpa using ho7⟩
        case measure => simp [vLen]; omega
end Go.Proofs.YtigoofeodbbbhaaDoor
