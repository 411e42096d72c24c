/- tandemlaw00.CopyAll and Copy. -/
import Derived.Test.YtgeokccfobmeiaaDoorCopy1
namespace Go.Proofs.YtgeokccfobmeiaaDoor
open Go.RowKit Go.Proofs.YtgeokccfobmeiaaDoorL Go.Proofs.YtgeokccfobmeiaaDoorM
set_option linter.unusedVariables false
set_option linter.unusedSimpArgs false
theorem footAll_append : ∀ (l m : List LD), footAll (l ++ m) = footAll l ++ footAll m
  | [], m => rfl
  | x :: l, m => by rw [List.cons_append, footAll, footAll, footAll_append l m, List.append_assoc]
theorem wtAll_append : ∀ (l m : List LD), wtAll (l ++ m) = wtAll l + wtAll m
  | [], m => by simp [wtAll]
  | x :: l, m => by rw [List.cons_append, wtAll, wtAll, wtAll_append l m]; omega
theorem good_lt {w : World} {x : LD} (h : Good w x) : ∀ b ∈ footD x, b < w.heap.size := by
  have key : ∀ {α : Type} {enc : α → List Value} {sz : Nat} {A : Option Addr} {l : List α}, Rd enc sz w A l → (∀ x, (enc x).length = sz) → 0 < sz → l.length ≠ 0 → ∀ b ∈ addrBlock A, b < w.heap.size := by
    intro α enc sz A l f hs hp hn b hb
    obtain ⟨b', off, rfl, hh⟩ := f.at_ (fun e => hn (by rw [e]; rfl))
    simp only [addrBlock, List.mem_singleton] at hb
    subst hb
    have h0 : l[0]? = some l[0] := List.getElem?_eq_getElem (by omega)
    have hl0 : 0 < (enc l[0]).length := by rw [hs]; exact hp
    have h1 : (enc l[0])[0]? = some (enc l[0])[0] := List.getElem?_eq_getElem hl0
    exact World.block_lt_of_cell? w _ (hh 0 _ h0 0 _ h1)
  induction h with
  | @mk kind n neg A c mag text Ai ci items Ar cr rest hn1 hn2 lim ri li ni rr lr nr gi gr ihi ihr =>
    intro b hb
    rw [footD] at hb
    rcases List.mem_append.1 hb with hb | hb
    · by_cases h0 : mag.length = 0
      · rw [if_pos h0] at hb; cases hb
      · rw [if_neg h0] at hb; exact key lim.rd lenU (by omega) h0 b hb
    rcases List.mem_append.1 hb with hb | hb
    · by_cases h0 : items.length = 0
      · rw [if_pos h0] at hb; cases hb
      · rw [if_neg h0] at hb; exact key ri lenD (by omega) h0 b hb
    rcases List.mem_append.1 hb with hb | hb
    · by_cases h0 : rest.length = 0
      · rw [if_pos h0] at hb; cases hb
      · rw [if_neg h0] at hb; exact key rr lenD (by omega) h0 b hb
    rcases List.mem_append.1 hb with hb | hb
    · obtain ⟨x, hx, hb⟩ := mem_foot hb; exact ihi x hx b hb
    · obtain ⟨x, hx, hb⟩ := mem_foot hb; exact ihr x hx b hb
theorem copy_snoc {w0 w1 w2 w3 w4 : World} {m l : List LD} {v : Value} {x y : LD} (hc : CopyOf w0.heap.size w1 m l) (hb : Below w0.heap.size w0 w1) (hft : ∀ b ∈ footAll m, v.ownBlock ≠ some b) (hlt : ∀ k, v.ownBlock = some k → k < w1.heap.size)
    (hb2 : Below w1.heap.size w1 w2) (hb3 : Below w2.heap.size w2 w3) (hg : w3.grownBy w4 v.ownBlock) (hy : Good w2 y) (hf : ∀ b ∈ footD y, w1.heap.size ≤ b) (hs : SameD y x) : CopyOf w0.heap.size w4 (m ++ [y]) (l ++ [x]) := by
  refine ⟨fun z hz => ?_, fun b hbm => ?_, ⟨fun q => ?_, ?_, ?_⟩⟩
  · rcases List.mem_append.1 hz with hz | hz
    · have hgz := hc.good z hz
      refine hgz.keep (fun b hbz => ?_)
      have h1 := good_lt hgz b hbz
      have h2 := Nat.lt_of_lt_of_le h1 hb2.size
      have h3 := Nat.lt_of_lt_of_le h2 hb3.size
      rw [hg.block b h3 (fun e => hft b (foot_mem hbz hz) e.symm), hb3.block b h2, hb2.block b h1]
    · simp only [List.mem_singleton] at hz
      subst hz
      refine hy.keep (fun b hbz => ?_)
      have h2 := good_lt hy b hbz
      have h3 := Nat.lt_of_lt_of_le h2 hb3.size
      rw [hg.block b h3 (fun e => by have := hlt b e.symm; have := hf b hbz; omega), hb3.block b h2]
  · rw [footAll_append] at hbm
    rcases List.mem_append.1 hbm with hbm | hbm
    · exact hc.foot b hbm
    · have := hf b (by simpa [footAll] using hbm)
      have := hb.size
      omega
  · have e := hc.same.text q
    rw [showAll_map, showAll_map] at e
    rw [showAll_map, showAll_map, List.map_append, List.map_append, e, List.map_singleton, List.map_singleton, hs.text q]
  · rw [wtAll_append, wtAll_append, hc.same.wt, wtAll, wtAll, wtAll, wtAll, hs.wt]
  · rw [List.length_append, List.length_append, hc.same.len]; rfl
theorem copy_apart {w0 w1 w2 w3 : World} {m l : List LD} {v v' : Value} {y : LD} (hc : CopyOf w0.heap.size w1 m l) (hft : ∀ b ∈ footAll m, v.ownBlock ≠ some b) (hlt : ∀ k, v.ownBlock = some k → k < w1.heap.size)
    (hb2 : Below w1.heap.size w1 w2) (hb3 : Below w2.heap.size w2 w3) (hor : ∀ k, v'.ownBlock = some k → v.ownBlock = some k ∨ k = w3.heap.size) (hy : Good w2 y) (hf : ∀ b ∈ footD y, w1.heap.size ≤ b) : ∀ b ∈ footAll (m ++ [y]), v'.ownBlock ≠ some b := by
  intro b hbm e
  rw [footAll_append] at hbm
  have s2 := hb2.size
  have s3 := hb3.size
  rcases List.mem_append.1 hbm with hbm | hbm
  · obtain ⟨z, hz, hbz⟩ := mem_foot hbm
    have h1 := good_lt (hc.good z hz) b hbz
    rcases hor b e with h | h
    · exact hft b hbm h
    · omega
  · have hby : b ∈ footD y := by simpa [footAll] using hbm
    have h1 := good_lt hy b hby
    have h2 := hf b hby
    rcases hor b e with h | h
    · have := hlt b h; omega
    · omega
set_option maxRecDepth 8000 in
set_option maxHeartbeats 1000000 in
theorem copyAll_any (w : World) (l : List LD) (A : Option Addr) (c : Nat) (hr : Rd encD 7 w A l) (hc : l.length ≤ c) (hx : ∀ x ∈ l, CopyOK w x) (hm : l.length ≤ 1099511627776)
    (w' : World) (hw : Below w.heap.size w w') : Calls Tryd.prog 12 #[.slice A l.length c] w' (Gives w' fun v w2 => ∃ m, Ow encD 7 27 w'.heap.size w2 v m ∧ CopyOf w'.heap.size w2 m l) := by
  have HX := As.mk hx
  clear hx
  go_enter Tryd.func12, Tryd.ntmps12
  go_wp2
  go_loopw [3, 4] (fun v u wq => ∃ k : Nat, ∃ m : List LD, k ≤ l.length ∧ m.length ≤ l.length ∧ u = .int .i64 (k : Int) ∧ Below w'.heap.size w' wq ∧ Ow encD 7 27 w'.heap.size wq v m ∧ As (CopyOf w'.heap.size wq m (l.take k)) ∧ As (∀ b ∈ footAll m, v.ownBlock ≠ some b)) (fun v u _ => l.length - (intOf u).toNat)
  case atStart => exact ⟨0, [], by omega, by simp, rfl, Below.refl _ _, Ow.nil _ _ _ _ _, ⟨⟨fun y hy => (nomatch hy), fun b hb => (nomatch hb), ⟨fun q => by simp, by simp, by simp⟩⟩⟩, ⟨fun b hb => (nomatch hb)⟩⟩
  case round =>
    obtain ⟨k, m, hk, hml, rfl, hb, ho, hcp, hft⟩ := hrel
    have HB := As.mk (show (m.length + 1) * 112 ≤ 140737488355328 from by omega)
    have HM := As.mk (show m.length + 1 ≤ maxLen from by simp only [maxLen]; omega)
    have hww := bthen hw hb
    by_cases h : k < l.length
    · obtain ⟨b, off, rfl⟩ := hr.get (ne_nil_of_lt h)
      have hrk := (hr.below hww).cell k h
      have hsx := fun w' hb => HX.out _ (List.getElem_mem h) w' hb
      have htk := List.take_succ_eq_append_getElem h
      obtain ⟨x, hxe⟩ : ∃ x, x = l[k] := ⟨_, rfl⟩
      rw [← hxe] at hrk hsx htk
      have Htk := As.mk htk
      clear hxe htk
      obtain ⟨x0, hx0⟩ : ∃ x0, x0 = x := ⟨_, rfl⟩
      rw [← hx0] at Htk
      have Hx0 := As.mk hx0
      clear hx0
      obtain ⟨kind, n, neg, mA, mc, mag, text, Ai, ci, items, Ar, cr, rest⟩ := x
      simp only [encD] at hsx
      have HS := As.mk hsx
      clear hsx
      have c0 : wr.cell? ⟨b, off + k * 7, none⟩ = some (.int .i64 kind) := hrk 0 _ rfl
      have c1 := hrk 1 _ rfl
      have c2 := hrk 2 _ rfl
      have c3 := hrk 3 _ rfl
      have c4 := hrk 4 _ rfl
      have c5 := hrk 5 _ rfl
      have c6 := hrk 6 _ rfl
      have hlt := As.mk (fun k hk => (ho.own.lt k hk).2)
      clear hrk
      go_wp2_with (first
        | (go_at_call 7; (with_reducible refine (HS.out _ hww).mono ?_); rintro e w4 ⟨v4, rfl, ⟨y, rfl, hg4, hf4, hs4⟩, hb4⟩; replace ho := ho.below hb4; have hbw4 := bthen hb hb4; obtain ⟨kind', n', neg', mA', mc', mag', text', Ai', ci', items', Ar', cr', rest'⟩ := y)
        | ((with_reducible refine g_dst 17 ?_); go_must (refine ev_lit (v := fun g => .slice (some ⟨g, 0, none⟩) 1 1) 17 rfl (cs := encD (.mk kind' n' neg' mA' mc' mag' text' Ai' ci' items' Ar' cr' rest')) (t := 27) (by go_simp; rfl) ?_); intro g6 w6 hb6 B6 hg6; replace ho := ho.below hb6; have hbw6 := bthen hbw4 hb6)
        | ((with_reducible refine g_dst 18 ?_); go_must (refine ev_append1 18 Tryd.underlying25 infoD rfl (by decide) rfl ho (.mk kind' n' neg' mA' mc' mag' text' Ai' ci' items' Ar' cr' rest') rfl B6 rfl (oneD _) HB.out HM.out hbw6.size ?_); intro v7 w7 ho7 hg7 hor7; have hbw7 := ho.grown hbw6 hg7 (Nat.le_refl _) hbw6.size))
      go_roundw
      case rel =>
        have hml2 : m.length = k := by rw [hcp.out.same.len, List.length_take]; omega
        exact ⟨k + 1, m ++ [.mk kind' n' neg' mA' mc' mag' text' Ai' ci' items' Ar' cr' rest'], by omega, by rw [List.length_append, List.length_singleton]; omega, by go_num, hbw7, ho7,
          ⟨by rw [Htk.out, Hx0.out]; exact copy_snoc hcp.out hb hft.out hlt.out hb4 hb6 hg7 hg4 hf4 hs4⟩, ⟨copy_apart hcp.out hft.out hlt.out hb4 hb6 hor7 hg4 hf4⟩⟩
      case measure => simp [intOf]; omega
    · have htl : l.take k = l := List.take_of_length_le (by omega)
      have Hc : As (CopyOf w'.heap.size wr m l) := ⟨htl ▸ hcp.out⟩
      clear htl
      go_wp2
      go_ret
      exact ⟨_, rfl, ⟨m, ho, Hc.out⟩, hb⟩
theorem infoL : (Tryd.prog.info? 22).map (fun i => (i.zero, i.size, i.bytes)) = some (some (.slice none 0 0), 1, 24) := by kernel_rfl
theorem infoLD : (Tryd.prog.info? 25).map (fun i => (i.zero, i.size, i.bytes)) = some (some (.slice none 0 0), 1, 24) := by kernel_rfl
theorem same_mk {kind n : Int} {neg : Bool} {A A' : Option Addr} {c c' : Nat} {mag : List Nat} {text : List UInt8} {Ai Ai' : Option Addr} {ci ci' : Nat} {items items' : List LD} {Ar Ar' : Option Addr} {cr cr' : Nat} {rest rest' : List LD} (hi : SameAll items' items) (hr : SameAll rest' rest) :
    SameD (.mk kind n neg A' c' mag text Ai' ci' items' Ar' cr' rest') (.mk kind n neg A c mag text Ai ci items Ar cr rest) := by
  refine ⟨fun q => ?_, ?_⟩
  · rw [showL, showL, hi.text q, hi.text true, hr.text q, hi.len, hr.len]
  · rw [wtD, wtD, hi.wt, hr.wt]
theorem good_only {w w1 : World} {g : Nat} {x : LD} (h : Good w x) (ho : Only g w w1) (hf : ∀ b ∈ footD x, b ≠ g) : Good w1 x := h.keep (fun b hb => ho.block b (hf b hb))
theorem copyOf_only {w w1 : World} {base g : Nat} {m l : List LD} (h : CopyOf base w m l) (ho : Only g w w1) (hg : g < base) : CopyOf base w1 m l :=
  ⟨fun y hy => good_only (h.good y hy) ho (fun b hb => by have := h.foot b (foot_mem hb hy); omega), h.foot, h.same⟩
theorem copyOf_below {w w1 : World} {base : Nat} {m l : List LD} (h : CopyOf base w m l) (hb : Below w.heap.size w w1) : CopyOf base w1 m l := ⟨fun y hy => (h.good y hy).to hb, h.foot, h.same⟩
set_option maxRecDepth 8000 in
set_option maxHeartbeats 2000000 in
theorem copy_ok (w : World) (x : LD) (h : Good w x) : wtD x ≤ 1073741824 → CopyOK w x := by
  induction h with
  | @mk kind n neg A c mag text Ai ci items Ar cr rest hn1 hn2 lim ri li ni rr lr nr gi gr ihi ihr =>
    intro hwt w' hw
    rw [wtD] at hwt
    have hil := wt_len items
    have hrl := wt_len rest
    have hiw : ∀ y ∈ items, CopyOK w y := fun y hy => ihi y hy (by have := wt_mem hy; omega)
    have hrw : ∀ y ∈ rest, CopyOK w y := fun y hy => ihr y hy (by have := wt_mem hy; omega)
    have HI := As.mk (fun w' hb => copyAll_any w items Ai ci ri li hiw (by omega) w' hb)
    have HR := As.mk (fun w' hb => copyAll_any w rest Ar cr rr lr hrw (by omega) w' hb)
    have HM := As.mk (fun W (hb : Below w.heap.size w W) => copy_any mag A c W (lim.rd.below hb) lim.none (by have := lim.max; omega))
    clear ihi ihr hiw hrw gi gr hil hrl hwt ni nr
    simp only [encD]
    go_enter Tryd.func7, Tryd.ntmps7
    go_wp2_with (first
      | ((with_reducible refine g_dst 1 ?_); go_must (refine ev_box 1 rfl (cs := [.int .i64 kind, .int .i64 n, .bool neg, .slice A mag.length c, .string ⟨text.toArray⟩, .slice Ai items.length ci, .slice Ar rest.length cr]) (by rfl) ?_); intro g w1 hb1 B1 hg1; have C1 := B1.cells)
      | ((with_reducible refine g_dst 2 ?_); go_must (refine ev_alloc 2 rfl infoD (cs := [.int .i64 0, .int .i64 0, .bool false, .slice none 0 0, .string ⟨#[]⟩, .slice none 0 0, .slice none 0 0]) rfl ?_); intro g2 w2 hb2 B2 hg2; have hgg : g < g2 := Nat.lt_of_lt_of_le B1.lt hg2; replace B1 := B1.below hb2; clear C1; have C1 := B1.cells; replace hg2 := Nat.le_trans hb1.size hg2; replace hb2 := bthen hb1 hb2)
      | (go_at_call 14; (with_reducible refine (HM.out _ (bthen hw hb2)).mono ?_); rintro e w3 ⟨v3, rfl, ho3, hb3⟩; have hl1 := B1.lt; have hl2 := B2.lt; replace B1 := B1.below hb3; replace B2 := B2.below hb3; clear C1; have C1 := B1.cells; replace hb3 := bthen hb2 hb3; obtain ⟨A3, c3, rfl, h31, h32⟩ := ho3.form)
      | ((with_reducible refine g_store 8 ?_); go_must (refine ev_store rfl rfl B1 (news := [.slice A3 mag.length c3]) (by rfl) infoL (by simp) (by simp [Value.oneCell']) ?_); intro w4 ho4 B4; simp only [List.take_succ_cons, List.take_zero, List.length_singleton, List.drop_succ_cons, List.drop_zero, List.cons_append, List.nil_append] at B4; have hm4 := ow_only ho3 ho4 hl1 (Nat.le_refl _); replace B2 := B2.only ho4 (by omega); have hb4 := hb3.trans (ho4.below hg1); clear C1; have C4 := B4.cells)
      | (go_at_call 12; (with_reducible refine (HI.out _ (bthen hw hb4)).mono ?_); rintro e w5 ⟨v5, rfl, ⟨m1, ho5, hc5⟩, hb5⟩; have hl3 := B4.lt; have hl4 := B2.lt; have hm5 := hm4.below hb5; have B5 := B4.below hb5; replace B2 := B2.below hb5; clear C4; have C5 := B5.cells; have hbw5 := bthen hb4 hb5; have hs4 := hb4.size; obtain ⟨A5, c5, rfl, h51, h52⟩ := ho5.form; have Ho5 := As.mk ho5; clear ho5)
      | ((with_reducible refine g_store 12 ?_); go_must (refine ev_store rfl rfl B5 (news := [.slice A5 m1.length c5]) (by rfl) infoLD (by simp) (by simp [Value.oneCell']) ?_); intro w6 ho6 B6; simp only [List.take_succ_cons, List.take_zero, List.length_singleton, List.drop_succ_cons, List.drop_zero, List.cons_append, List.nil_append] at B6; have hm6 := ow_only hm5 ho6 hl1 (Nat.le_refl _); have Hm1 := As.mk (ow_only Ho5.out ho6 hl3 (Nat.le_refl _)); have Hc6 := As.mk (copyOf_only hc5 ho6 hl3); replace B2 := B2.only ho6 (by omega); have hb6 := hbw5.trans (ho6.below hg1); clear C5; have C6 := B6.cells)
      | (go_at_call 12; (with_reducible refine (HR.out _ (bthen hw hb6)).mono ?_); rintro e w7 ⟨v7, rfl, ⟨m2, ho7, hc7⟩, hb7⟩; have hl5 := B6.lt; have hl6 := B2.lt; have hm7 := hm6.below hb7; have Hm7 := As.mk (Hm1.out.below hb7); have Hc7 := As.mk (copyOf_below Hc6.out hb7); have B7 := B6.below hb7; replace B2 := B2.below hb7; clear C6; have C7 := B7.cells; have hbw7 := bthen hb6 hb7; obtain ⟨A7, c7, rfl, h71, h72⟩ := ho7.form; have Ho7 := As.mk ho7; clear ho7)
      | ((with_reducible refine g_store 16 ?_); go_must (refine ev_store rfl rfl B7 (news := [.slice A7 m2.length c7]) (by rfl) infoLD (by simp) (by simp [Value.oneCell']) ?_); intro w8 ho8 B8; simp only [List.take_succ_cons, List.take_zero, List.length_singleton, List.drop_succ_cons, List.drop_zero, List.cons_append, List.nil_append] at B8; have hm8 := ow_only hm7 ho8 hl1 (Nat.le_refl _); have Hm8 := As.mk (ow_only Hm7.out ho8 hl3 (Nat.le_refl _)); have Hc8 := As.mk (copyOf_only Hc7.out ho8 hl3); have Hm28 := As.mk (ow_only Ho7.out ho8 hl5 (Nat.le_refl _)); have Hc28 := As.mk (copyOf_only hc7 ho8 hl5); replace B2 := B2.only ho8 (by omega); have hb8 := hbw7.trans (ho8.below hg1); clear C7; have C8 := B8.cells)
      | ((with_reducible refine g_store 2 ?_); go_must (refine ev_store rfl rfl B2 (news := encD (.mk kind n neg A3 c3 mag text A5 c5 m1 A7 c7 m2)) (by rfl) infoD (by simp [encD]) (by simp [encD, Value.oneCell']) ?_); intro w9 ho9 B9; simp only [encD, List.take_zero, List.nil_append, List.length_cons, List.length_nil, List.drop_succ_cons, List.drop_zero, List.append_nil, List.cons_append] at B9))
    refine bodyPost_ret (results_cell_row rfl _ _ g2 27 (encD (.mk kind n neg A3 c3 mag text A5 c5 m1 A7 c7 m2)).toArray (0, 0) _ rfl B9.h Tryd.underlying27 rfl (by kernel_rfl)) rfl ?_
    have hb9 := hb8.trans (ho9.below hg2)
    have hm9 := ow_only hm8 ho9 hl2 (Nat.le_refl _)
    have hn9 := ow_only Hm8.out ho9 hl4 (Nat.le_refl _)
    have hn29 := ow_only Hm28.out ho9 hl6 (Nat.le_refl _)
    have hc9 := copyOf_only Hc8.out ho9 hl4
    have hc29 := copyOf_only Hc28.out ho9 hl6
    have hw2 := hb2.size
    have hw4 := hb4.size
    have hw6 := hb6.size
    refine ⟨_, rfl, ⟨.mk kind n neg A3 c3 mag text A5 c5 m1 A7 c7 m2, rfl, ?_, ?_, same_mk hc9.same hc29.same⟩, hb9⟩
    · exact .mk hn1 hn2 ⟨hm9.rd lenU, lim.lt, h31, hm9.none, lim.max⟩ (hn9.rd lenD) h51 hn9.none (hn29.rd lenD) h71 hn29.none hc9.good hc29.good
    · intro b hb
      rw [footD] at hb
      rcases List.mem_append.1 hb with hb | hb
      · split at hb
        · cases hb
        · exact Nat.le_trans hw2 (own_block_ge hm9 b hb)
      rcases List.mem_append.1 hb with hb | hb
      · split at hb
        · cases hb
        · exact Nat.le_trans hw4 (own_block_ge hn9 b hb)
      rcases List.mem_append.1 hb with hb | hb
      · split at hb
        · cases hb
        · exact Nat.le_trans hw6 (own_block_ge hn29 b hb)
      rcases List.mem_append.1 hb with hb | hb
      · exact Nat.le_trans hw4 (hc9.foot b hb)
      · exact Nat.le_trans hw6 (hc29.foot b hb)
end Go.Proofs.YtgeokccfobmeiaaDoor
