import Derived.Test.YtdapbegadhcpcaaDoorMM
/- tandemlaw05.ReadDepths. -/
namespace Go.Proofs.YtdapbegadhcpcaaDoor
open Go.RowKit Go.Proofs.YtdapbegadhcpcaaDoorL Go.Proofs.YtdapbegadhcpcaaDoorM
set_option linter.unusedVariables false
set_option linter.unusedSimpArgs false
theorem rep_succ (k : Nat) (o : List UInt8) : rep (k + 1) o = rep k o ++ o := by
  simp [rep, List.replicate_succ', List.flatten_append]
theorem closes_succ (s : List UInt8) (k : Nat) : s ++ List.replicate (k + 1) 41 = s ++ List.replicate k (41 : UInt8) ++ [41] := by
  rw [List.replicate_succ', List.append_assoc]
/-- what ReadDepths asks of the answer -/
def DepthP (K len : Nat) : Except (Nat × Nat) (List DV) → Prop
  | .ok l => K ≤ 100 ∧ l.length = 1
  | .error p => 100 < K ∧ p = (100 * len, 16)
theorem depth_ok (K g : Nat) : ∃ r, AllR (nested K g) 0 [] r ∧ DepthP K (opn g).length r := by
  obtain ⟨r, h, h1, h2⟩ := nest_all K g
  refine ⟨r, h, ?_⟩
  rcases Nat.lt_or_ge 100 K with hk | hk
  · rw [h2 hk]; exact ⟨hk, rfl⟩
  · obtain ⟨x, hx⟩ := h1 hk
    rw [hx]; exact ⟨hk, rfl⟩
set_option maxRecDepth 8000 in
set_option maxHeartbeats 4000000 in
theorem depths0 (z0 z1 : Int) (w : World) (h0 : -9223372036854775808 ≤ z0 ∧ z0 ≤ 9223372036854775807) (h1 : -9223372036854775808 ≤ z1 ∧ z1 ≤ 9223372036854775807) (p : Nat) (hp : z0 % 10 = (p : Int)) (hg : z1 % 4 = ((0 : Nat) : Int)) :
    Calls Tryd.prog 5 #[.int .i64 z0, .int .i64 z1] w (Gives w fun v _ => v = .bool true) := by
  have hp9 : p < 10 := by omega
  obtain ⟨K, hK⟩ : ∃ K : Nat, K = 95 + p := ⟨_, rfl⟩
  have hKi : (95 : Int) + (p : Int) = (K : Int) := by omega
  have ew : IntKind.i64.wrap (K : Int) = (K : Int) := IntWalk.i64_in _ (by omega)
  have hK2 : K ≤ 104 := by omega
  have HP := As.mk (fun w => place_any z0 10 w h0 (by omega) p hp)
  have HG := As.mk (fun w => place_any z1 4 w h1 (by omega) 0 hg)
  obtain ⟨r, hr, hd⟩ := depth_ok K 0
  have hsz : (nested K 0).length ≤ 65536 := by rw [nest_len]; simp [opn]; omega
  have HA := As.mk (fun w (S : List UInt8) (hS : S = nested K 0) => all_any (w := w) (T := ⟨S.toArray⟩) (by subst hS; simpa [ByteArray.size] using hsz) r (by subst hS; exact hr))
  have HD := As.mk hd
  have HN : As (nested K 0 = rep K [40] ++ ([120] ++ List.replicate K 41)) := ⟨by simp [nested, opn]⟩
  clear hd hr hsz hK hp hg h0 h1
  go_enter Tryd.func5, Tryd.ntmps5
  go_wp2_with (first
    | (go_at_call 11; (with_reducible refine (HP.out _).mono ?_); rintro e1 w1 ⟨rfl, rfl⟩)
    | (go_at_call 11; (with_reducible refine (HG.out _).mono ?_); rintro e1 w1 ⟨rfl, rfl⟩))
  have hb0 := (Below.refl w.heap.size w).alloc (Nat.le_refl _) (Obj.cells #[Value.string ⟨#[40]⟩, Value.string ⟨#[35, 40]⟩, Value.string ⟨#[39]⟩, Value.string ⟨#[40, 97, 32]⟩] 9)
  go_loopw [7, 8] (fun s v wr => ∃ (j : Nat) (S : List UInt8), j ≤ K ∧ s = .string ⟨S.toArray⟩ ∧ As (S = rep j [40]) ∧ v = .int .i64 (j : Int) ∧ Below w.heap.size w wr) (fun _ v _ => K - (intOf v).toNat)
  case atStart => exact ⟨0, [], Nat.zero_le _, rfl, ⟨rfl⟩, rfl, hb0⟩
  case round =>
    clear hb0
    obtain ⟨j, S, hj, rfl, HS, rfl, hb⟩ := hrel
    obtain ⟨S1, hS1⟩ : ∃ S1, S1 = S ++ [40] := ⟨_, rfl⟩
    have hSl : S.length = j * 1 := by rw [HS.out, rep_len]; rfl
    by_cases h : j < K
    · have ha : ∀ w : World, (Op.stringOp .add ⟨S.toArray⟩ ⟨#[40]⟩).run Tryd.prog w = .ok (.string ⟨S1.toArray⟩) w := fun w => by rw [hS1]; exact run_add_lists w S [40] (by simp; omega)
      have HS1 : As (S1 = rep (j + 1) [40]) := ⟨by rw [hS1, HS.out, rep_succ]⟩
      clear hS1 hSl
      go_wp2
      go_roundw
      case rel => exact ⟨j + 1, S1, by omega, rfl, HS1, by go_num, hb⟩
      case measure => simp [intOf]; omega
    · clear hS1 S1
      obtain rfl : j = K := by omega
      obtain ⟨S1, hS1⟩ : ∃ S1, S1 = S ++ [120] := ⟨_, rfl⟩
      have ha : ∀ w : World, (Op.stringOp .add ⟨S.toArray⟩ ⟨#[120]⟩).run Tryd.prog w = .ok (.string ⟨S1.toArray⟩) w := fun w => by rw [hS1]; exact run_add_lists w S [120] (by simp; omega)
      have hSl1 : S1.length = j * 1 + 1 := by rw [hS1, List.length_append, hSl]; rfl
      have HS1 : As (S1 = rep j [40] ++ [120]) := ⟨by rw [hS1, HS.out]⟩
      clear hS1 hSl HS
      go_wp2
      go_loopw [7, 9] (fun s v wr => ∃ (i : Nat) (S : List UInt8), i ≤ j ∧ s = .string ⟨S.toArray⟩ ∧ As (S = rep j [40] ++ [120] ++ List.replicate i 41) ∧ v = .int .i64 (i : Int) ∧ Below w.heap.size w wr) (fun _ v _ => j - (intOf v).toNat)
      case atStart => exact ⟨0, S1, Nat.zero_le _, rfl, ⟨by rw [HS1.out]; simp⟩, rfl, hb⟩
      case round =>
        clear hb ha HS1 hSl1
        obtain ⟨i, S2, hi, rfl, HS2, rfl, hb⟩ := hrel
        by_cases h : i < j
        · obtain ⟨S3, hS3⟩ : ∃ S3, S3 = S2 ++ [41] := ⟨_, rfl⟩
          have hSl : S2.length = j * 1 + 1 + i := by rw [HS2.out]; simp [rep_len] <;> omega
          have ha : ∀ w : World, (Op.stringOp .add ⟨S2.toArray⟩ ⟨#[41]⟩).run Tryd.prog w = .ok (.string ⟨S3.toArray⟩) w := fun w => by rw [hS3]; exact run_add_lists w S2 [41] (by simp; omega)
          have HS3 : As (S3 = rep j [40] ++ [120] ++ List.replicate (i + 1) 41) := ⟨by rw [hS3, HS2.out, closes_succ]⟩
          clear hS3 hSl
          go_wp2
          go_roundw
          case rel => exact ⟨i + 1, S3, by omega, rfl, HS3, by go_num, hb⟩
          case measure => simp [intOf]; omega
        · obtain rfl : i = j := by omega
          have HS4 : As (S2 = nested i 0) := ⟨by rw [HS2.out, HN.out]; simp⟩
          clear HS2
          cases r with
          | ok l =>
            obtain ⟨hk, hl⟩ : i ≤ 100 ∧ l.length = 1 := HD.out
            have hk2 : (i : Int) ≤ 100 := by omega
            clear HD
            go_wp2_with (first
              | (go_at_call 7; (with_reducible refine (HA.out _ _ HS4.out).mono ?_); rintro e2 w2 ⟨v2, rfl, ⟨A, c, m, rfl, hi, hm⟩, hb2⟩; replace hb2 := bthen hb hb2; have hml : ((m.length : Int) == 1) = true := (by have := erAll_len m; rw [hi.same] at this; simp; omega); clear hi hm)
              | (go_at_call 8; (with_reducible refine (awake_any _).mono ?_); rintro e3 w3 ⟨v3, rfl, rfl, hb3⟩; replace hb3 := bthen hb2 hb3))
            go_ret
            exact ⟨_, rfl, by simp, hb3⟩
          | error p =>
            obtain ⟨p1, p2⟩ := p
            obtain ⟨hk, hl⟩ : 100 < i ∧ (p1, p2) = (100 * (opn 0).length, 16) := HD.out
            obtain ⟨rfl, rfl⟩ : p1 = 100 ∧ p2 = 16 := by simpa [opn] using hl
            have hk2 : ¬ (i : Int) ≤ 100 := by omega
            clear HD hl
            go_wp2_with (first
              | (go_at_call 7; (with_reducible refine (HA.out _ _ HS4.out).mono ?_); rintro e2 w2 ⟨v2, rfl, ⟨rfl, _⟩, hb2⟩; replace hb2 := bthen hb hb2)
              | (go_at_call 8; (with_reducible refine (awake_any _).mono ?_); rintro e3 w3 ⟨v3, rfl, rfl, hb3⟩; replace hb3 := bthen hb2 hb3))
            go_ret
            exact ⟨_, rfl, by simp, hb3⟩
set_option maxRecDepth 8000 in
set_option maxHeartbeats 4000000 in
theorem depths1 (z0 z1 : Int) (w : World) (h0 : -9223372036854775808 ≤ z0 ∧ z0 ≤ 9223372036854775807) (h1 : -9223372036854775808 ≤ z1 ∧ z1 ≤ 9223372036854775807) (p : Nat) (hp : z0 % 10 = (p : Int)) (hg : z1 % 4 = ((1 : Nat) : Int)) :
    Calls Tryd.prog 5 #[.int .i64 z0, .int .i64 z1] w (Gives w fun v _ => v = .bool true) := by
  have hp9 : p < 10 := by omega
  obtain ⟨K, hK⟩ : ∃ K : Nat, K = 95 + p := ⟨_, rfl⟩
  have hKi : (95 : Int) + (p : Int) = (K : Int) := by omega
  have ew : IntKind.i64.wrap (K : Int) = (K : Int) := IntWalk.i64_in _ (by omega)
  have hK2 : K ≤ 104 := by omega
  have HP := As.mk (fun w => place_any z0 10 w h0 (by omega) p hp)
  have HG := As.mk (fun w => place_any z1 4 w h1 (by omega) 1 hg)
  obtain ⟨r, hr, hd⟩ := depth_ok K 1
  have hsz : (nested K 1).length ≤ 65536 := by rw [nest_len]; simp [opn]; omega
  have HA := As.mk (fun w (S : List UInt8) (hS : S = nested K 1) => all_any (w := w) (T := ⟨S.toArray⟩) (by subst hS; simpa [ByteArray.size] using hsz) r (by subst hS; exact hr))
  have HD := As.mk hd
  have HN : As (nested K 1 = rep K [35, 40] ++ ([120] ++ List.replicate K 41)) := ⟨by simp [nested, opn]⟩
  clear hd hr hsz hK hp hg h0 h1
  go_enter Tryd.func5, Tryd.ntmps5
  go_wp2_with (first
    | (go_at_call 11; (with_reducible refine (HP.out _).mono ?_); rintro e1 w1 ⟨rfl, rfl⟩)
    | (go_at_call 11; (with_reducible refine (HG.out _).mono ?_); rintro e1 w1 ⟨rfl, rfl⟩))
  have hb0 := (Below.refl w.heap.size w).alloc (Nat.le_refl _) (Obj.cells #[Value.string ⟨#[40]⟩, Value.string ⟨#[35, 40]⟩, Value.string ⟨#[39]⟩, Value.string ⟨#[40, 97, 32]⟩] 9)
  go_loopw [7, 8] (fun s v wr => ∃ (j : Nat) (S : List UInt8), j ≤ K ∧ s = .string ⟨S.toArray⟩ ∧ As (S = rep j [35, 40]) ∧ v = .int .i64 (j : Int) ∧ Below w.heap.size w wr) (fun _ v _ => K - (intOf v).toNat)
  case atStart => exact ⟨0, [], Nat.zero_le _, rfl, ⟨rfl⟩, rfl, hb0⟩
  case round =>
    clear hb0
    obtain ⟨j, S, hj, rfl, HS, rfl, hb⟩ := hrel
    obtain ⟨S1, hS1⟩ : ∃ S1, S1 = S ++ [35, 40] := ⟨_, rfl⟩
    have hSl : S.length = j * 2 := by rw [HS.out, rep_len]; rfl
    by_cases h : j < K
    · have ha : ∀ w : World, (Op.stringOp .add ⟨S.toArray⟩ ⟨#[35, 40]⟩).run Tryd.prog w = .ok (.string ⟨S1.toArray⟩) w := fun w => by rw [hS1]; exact run_add_lists w S [35, 40] (by simp; omega)
      have HS1 : As (S1 = rep (j + 1) [35, 40]) := ⟨by rw [hS1, HS.out, rep_succ]⟩
      clear hS1 hSl
      go_wp2
      go_roundw
      case rel => exact ⟨j + 1, S1, by omega, rfl, HS1, by go_num, hb⟩
      case measure => simp [intOf]; omega
    · clear hS1 S1
      obtain rfl : j = K := by omega
      obtain ⟨S1, hS1⟩ : ∃ S1, S1 = S ++ [120] := ⟨_, rfl⟩
      have ha : ∀ w : World, (Op.stringOp .add ⟨S.toArray⟩ ⟨#[120]⟩).run Tryd.prog w = .ok (.string ⟨S1.toArray⟩) w := fun w => by rw [hS1]; exact run_add_lists w S [120] (by simp; omega)
      have hSl1 : S1.length = j * 2 + 1 := by rw [hS1, List.length_append, hSl]; rfl
      have HS1 : As (S1 = rep j [35, 40] ++ [120]) := ⟨by rw [hS1, HS.out]⟩
      clear hS1 hSl HS
      go_wp2
      go_loopw [7, 9] (fun s v wr => ∃ (i : Nat) (S : List UInt8), i ≤ j ∧ s = .string ⟨S.toArray⟩ ∧ As (S = rep j [35, 40] ++ [120] ++ List.replicate i 41) ∧ v = .int .i64 (i : Int) ∧ Below w.heap.size w wr) (fun _ v _ => j - (intOf v).toNat)
      case atStart => exact ⟨0, S1, Nat.zero_le _, rfl, ⟨by rw [HS1.out]; simp⟩, rfl, hb⟩
      case round =>
        clear hb ha HS1 hSl1
        obtain ⟨i, S2, hi, rfl, HS2, rfl, hb⟩ := hrel
        by_cases h : i < j
        · obtain ⟨S3, hS3⟩ : ∃ S3, S3 = S2 ++ [41] := ⟨_, rfl⟩
          have hSl : S2.length = j * 2 + 1 + i := by rw [HS2.out]; simp [rep_len] <;> omega
          have ha : ∀ w : World, (Op.stringOp .add ⟨S2.toArray⟩ ⟨#[41]⟩).run Tryd.prog w = .ok (.string ⟨S3.toArray⟩) w := fun w => by rw [hS3]; exact run_add_lists w S2 [41] (by simp; omega)
          have HS3 : As (S3 = rep j [35, 40] ++ [120] ++ List.replicate (i + 1) 41) := ⟨by rw [hS3, HS2.out, closes_succ]⟩
          clear hS3 hSl
          go_wp2
          go_roundw
          case rel => exact ⟨i + 1, S3, by omega, rfl, HS3, by go_num, hb⟩
          case measure => simp [intOf]; omega
        · obtain rfl : i = j := by omega
          have HS4 : As (S2 = nested i 1) := ⟨by rw [HS2.out, HN.out]; simp⟩
          clear HS2
          cases r with
          | ok l =>
            obtain ⟨hk, hl⟩ : i ≤ 100 ∧ l.length = 1 := HD.out
            have hk2 : (i : Int) ≤ 100 := by omega
            clear HD
            go_wp2_with (first
              | (go_at_call 7; (with_reducible refine (HA.out _ _ HS4.out).mono ?_); rintro e2 w2 ⟨v2, rfl, ⟨A, c, m, rfl, hi, hm⟩, hb2⟩; replace hb2 := bthen hb hb2; have hml : ((m.length : Int) == 1) = true := (by have := erAll_len m; rw [hi.same] at this; simp; omega); clear hi hm)
              | (go_at_call 8; (with_reducible refine (awake_any _).mono ?_); rintro e3 w3 ⟨v3, rfl, rfl, hb3⟩; replace hb3 := bthen hb2 hb3))
            go_ret
            exact ⟨_, rfl, by simp, hb3⟩
          | error p =>
            obtain ⟨p1, p2⟩ := p
            obtain ⟨hk, hl⟩ : 100 < i ∧ (p1, p2) = (100 * (opn 1).length, 16) := HD.out
            obtain ⟨rfl, rfl⟩ : p1 = 200 ∧ p2 = 16 := by simpa [opn] using hl
            have hk2 : ¬ (i : Int) ≤ 100 := by omega
            clear HD hl
            go_wp2_with (first
              | (go_at_call 7; (with_reducible refine (HA.out _ _ HS4.out).mono ?_); rintro e2 w2 ⟨v2, rfl, ⟨rfl, _⟩, hb2⟩; replace hb2 := bthen hb hb2)
              | (go_at_call 8; (with_reducible refine (awake_any _).mono ?_); rintro e3 w3 ⟨v3, rfl, rfl, hb3⟩; replace hb3 := bthen hb2 hb3))
            go_ret
            exact ⟨_, rfl, by simp, hb3⟩
set_option maxRecDepth 8000 in
set_option maxHeartbeats 4000000 in
theorem depths2 (z0 z1 : Int) (w : World) (h0 : -9223372036854775808 ≤ z0 ∧ z0 ≤ 9223372036854775807) (h1 : -9223372036854775808 ≤ z1 ∧ z1 ≤ 9223372036854775807) (p : Nat) (hp : z0 % 10 = (p : Int)) (hg : z1 % 4 = ((2 : Nat) : Int)) :
    Calls Tryd.prog 5 #[.int .i64 z0, .int .i64 z1] w (Gives w fun v _ => v = .bool true) := by
  have hp9 : p < 10 := by omega
  obtain ⟨K, hK⟩ : ∃ K : Nat, K = 95 + p := ⟨_, rfl⟩
  have hKi : (95 : Int) + (p : Int) = (K : Int) := by omega
  have ew : IntKind.i64.wrap (K : Int) = (K : Int) := IntWalk.i64_in _ (by omega)
  have hK2 : K ≤ 104 := by omega
  have HP := As.mk (fun w => place_any z0 10 w h0 (by omega) p hp)
  have HG := As.mk (fun w => place_any z1 4 w h1 (by omega) 2 hg)
  obtain ⟨r, hr, hd⟩ := depth_ok K 2
  have hsz : (nested K 2).length ≤ 65536 := by rw [nest_len]; simp [opn]; omega
  have HA := As.mk (fun w (S : List UInt8) (hS : S = nested K 2) => all_any (w := w) (T := ⟨S.toArray⟩) (by subst hS; simpa [ByteArray.size] using hsz) r (by subst hS; exact hr))
  have HD := As.mk hd
  have HN : As (nested K 2 = rep K [39] ++ ([120] ++ [])) := ⟨by simp [nested, opn]⟩
  clear hd hr hsz hK hp hg h0 h1
  go_enter Tryd.func5, Tryd.ntmps5
  go_wp2_with (first
    | (go_at_call 11; (with_reducible refine (HP.out _).mono ?_); rintro e1 w1 ⟨rfl, rfl⟩)
    | (go_at_call 11; (with_reducible refine (HG.out _).mono ?_); rintro e1 w1 ⟨rfl, rfl⟩))
  have hb0 := (Below.refl w.heap.size w).alloc (Nat.le_refl _) (Obj.cells #[Value.string ⟨#[40]⟩, Value.string ⟨#[35, 40]⟩, Value.string ⟨#[39]⟩, Value.string ⟨#[40, 97, 32]⟩] 9)
  go_loopw [7, 8] (fun s v wr => ∃ (j : Nat) (S : List UInt8), j ≤ K ∧ s = .string ⟨S.toArray⟩ ∧ As (S = rep j [39]) ∧ v = .int .i64 (j : Int) ∧ Below w.heap.size w wr) (fun _ v _ => K - (intOf v).toNat)
  case atStart => exact ⟨0, [], Nat.zero_le _, rfl, ⟨rfl⟩, rfl, hb0⟩
  case round =>
    clear hb0
    obtain ⟨j, S, hj, rfl, HS, rfl, hb⟩ := hrel
    obtain ⟨S1, hS1⟩ : ∃ S1, S1 = S ++ [39] := ⟨_, rfl⟩
    have hSl : S.length = j * 1 := by rw [HS.out, rep_len]; rfl
    by_cases h : j < K
    · have ha : ∀ w : World, (Op.stringOp .add ⟨S.toArray⟩ ⟨#[39]⟩).run Tryd.prog w = .ok (.string ⟨S1.toArray⟩) w := fun w => by rw [hS1]; exact run_add_lists w S [39] (by simp; omega)
      have HS1 : As (S1 = rep (j + 1) [39]) := ⟨by rw [hS1, HS.out, rep_succ]⟩
      clear hS1 hSl
      go_wp2
      go_roundw
      case rel => exact ⟨j + 1, S1, by omega, rfl, HS1, by go_num, hb⟩
      case measure => simp [intOf]; omega
    · clear hS1 S1
      obtain rfl : j = K := by omega
      obtain ⟨S1, hS1⟩ : ∃ S1, S1 = S ++ [120] := ⟨_, rfl⟩
      have ha : ∀ w : World, (Op.stringOp .add ⟨S.toArray⟩ ⟨#[120]⟩).run Tryd.prog w = .ok (.string ⟨S1.toArray⟩) w := fun w => by rw [hS1]; exact run_add_lists w S [120] (by simp; omega)
      have hSl1 : S1.length = j * 1 + 1 := by rw [hS1, List.length_append, hSl]; rfl
      have HS1 : As (S1 = rep j [39] ++ [120]) := ⟨by rw [hS1, HS.out]⟩
      clear hS1 hSl HS
      have HS2 : As (S1 = nested j 2) := ⟨by rw [HS1.out, HN.out]; simp⟩
      cases r with
      | ok l =>
        obtain ⟨hk, hl⟩ : j ≤ 100 ∧ l.length = 1 := HD.out
        have hk2 : (j : Int) ≤ 100 := by omega
        clear HD
        go_wp2_with (first
          | (go_at_call 7; (with_reducible refine (HA.out _ _ HS2.out).mono ?_); rintro e2 w2 ⟨v2, rfl, ⟨A, c, m, rfl, hi, hm⟩, hb2⟩; replace hb2 := bthen hb hb2; have hml : ((m.length : Int) == 1) = true := (by have := erAll_len m; rw [hi.same] at this; simp; omega); clear hi hm)
          | (go_at_call 8; (with_reducible refine (awake_any _).mono ?_); rintro e3 w3 ⟨v3, rfl, rfl, hb3⟩; replace hb3 := bthen hb2 hb3))
        go_ret
        exact ⟨_, rfl, by simp, hb3⟩
      | error p =>
        obtain ⟨p1, p2⟩ := p
        obtain ⟨hk, hl⟩ : 100 < j ∧ (p1, p2) = (100 * (opn 2).length, 16) := HD.out
        obtain ⟨rfl, rfl⟩ : p1 = 100 ∧ p2 = 16 := by simpa [opn] using hl
        have hk2 : ¬ (j : Int) ≤ 100 := by omega
        clear HD hl
        go_wp2_with (first
          | (go_at_call 7; (with_reducible refine (HA.out _ _ HS2.out).mono ?_); rintro e2 w2 ⟨v2, rfl, ⟨rfl, _⟩, hb2⟩; replace hb2 := bthen hb hb2)
          | (go_at_call 8; (with_reducible refine (awake_any _).mono ?_); rintro e3 w3 ⟨v3, rfl, rfl, hb3⟩; replace hb3 := bthen hb2 hb3))
        go_ret
        exact ⟨_, rfl, by simp, hb3⟩
set_option maxRecDepth 8000 in
set_option maxHeartbeats 4000000 in
theorem depths3 (z0 z1 : Int) (w : World) (h0 : -9223372036854775808 ≤ z0 ∧ z0 ≤ 9223372036854775807) (h1 : -9223372036854775808 ≤ z1 ∧ z1 ≤ 9223372036854775807) (p : Nat) (hp : z0 % 10 = (p : Int)) (hg : z1 % 4 = ((3 : Nat) : Int)) :
    Calls Tryd.prog 5 #[.int .i64 z0, .int .i64 z1] w (Gives w fun v _ => v = .bool true) := by
  have hp9 : p < 10 := by omega
  obtain ⟨K, hK⟩ : ∃ K : Nat, K = 95 + p := ⟨_, rfl⟩
  have hKi : (95 : Int) + (p : Int) = (K : Int) := by omega
  have ew : IntKind.i64.wrap (K : Int) = (K : Int) := IntWalk.i64_in _ (by omega)
  have hK2 : K ≤ 104 := by omega
  have HP := As.mk (fun w => place_any z0 10 w h0 (by omega) p hp)
  have HG := As.mk (fun w => place_any z1 4 w h1 (by omega) 3 hg)
  obtain ⟨r, hr, hd⟩ := depth_ok K 3
  have hsz : (nested K 3).length ≤ 65536 := by rw [nest_len]; simp [opn]; omega
  have HA := As.mk (fun w (S : List UInt8) (hS : S = nested K 3) => all_any (w := w) (T := ⟨S.toArray⟩) (by subst hS; simpa [ByteArray.size] using hsz) r (by subst hS; exact hr))
  have HD := As.mk hd
  have HN : As (nested K 3 = rep K [40, 97, 32] ++ ([120] ++ List.replicate K 41)) := ⟨by simp [nested, opn]⟩
  clear hd hr hsz hK hp hg h0 h1
  go_enter Tryd.func5, Tryd.ntmps5
  go_wp2_with (first
    | (go_at_call 11; (with_reducible refine (HP.out _).mono ?_); rintro e1 w1 ⟨rfl, rfl⟩)
    | (go_at_call 11; (with_reducible refine (HG.out _).mono ?_); rintro e1 w1 ⟨rfl, rfl⟩))
  have hb0 := (Below.refl w.heap.size w).alloc (Nat.le_refl _) (Obj.cells #[Value.string ⟨#[40]⟩, Value.string ⟨#[35, 40]⟩, Value.string ⟨#[39]⟩, Value.string ⟨#[40, 97, 32]⟩] 9)
  go_loopw [7, 8] (fun s v wr => ∃ (j : Nat) (S : List UInt8), j ≤ K ∧ s = .string ⟨S.toArray⟩ ∧ As (S = rep j [40, 97, 32]) ∧ v = .int .i64 (j : Int) ∧ Below w.heap.size w wr) (fun _ v _ => K - (intOf v).toNat)
  case atStart => exact ⟨0, [], Nat.zero_le _, rfl, ⟨rfl⟩, rfl, hb0⟩
  case round =>
    clear hb0
    obtain ⟨j, S, hj, rfl, HS, rfl, hb⟩ := hrel
    obtain ⟨S1, hS1⟩ : ∃ S1, S1 = S ++ [40, 97, 32] := ⟨_, rfl⟩
    have hSl : S.length = j * 3 := by rw [HS.out, rep_len]; rfl
    by_cases h : j < K
    · have ha : ∀ w : World, (Op.stringOp .add ⟨S.toArray⟩ ⟨#[40, 97, 32]⟩).run Tryd.prog w = .ok (.string ⟨S1.toArray⟩) w := fun w => by rw [hS1]; exact run_add_lists w S [40, 97, 32] (by simp; omega)
      have HS1 : As (S1 = rep (j + 1) [40, 97, 32]) := ⟨by rw [hS1, HS.out, rep_succ]⟩
      clear hS1 hSl
      go_wp2
      go_roundw
      case rel => exact ⟨j + 1, S1, by omega, rfl, HS1, by go_num, hb⟩
      case measure => simp [intOf]; omega
    · clear hS1 S1
      obtain rfl : j = K := by omega
      obtain ⟨S1, hS1⟩ : ∃ S1, S1 = S ++ [120] := ⟨_, rfl⟩
      have ha : ∀ w : World, (Op.stringOp .add ⟨S.toArray⟩ ⟨#[120]⟩).run Tryd.prog w = .ok (.string ⟨S1.toArray⟩) w := fun w => by rw [hS1]; exact run_add_lists w S [120] (by simp; omega)
      have hSl1 : S1.length = j * 3 + 1 := by rw [hS1, List.length_append, hSl]; rfl
      have HS1 : As (S1 = rep j [40, 97, 32] ++ [120]) := ⟨by rw [hS1, HS.out]⟩
      clear hS1 hSl HS
      go_wp2
      go_loopw [7, 9] (fun s v wr => ∃ (i : Nat) (S : List UInt8), i ≤ j ∧ s = .string ⟨S.toArray⟩ ∧ As (S = rep j [40, 97, 32] ++ [120] ++ List.replicate i 41) ∧ v = .int .i64 (i : Int) ∧ Below w.heap.size w wr) (fun _ v _ => j - (intOf v).toNat)
      case atStart => exact ⟨0, S1, Nat.zero_le _, rfl, ⟨by rw [HS1.out]; simp⟩, rfl, hb⟩
      case round =>
        clear hb ha HS1 hSl1
        obtain ⟨i, S2, hi, rfl, HS2, rfl, hb⟩ := hrel
        by_cases h : i < j
        · obtain ⟨S3, hS3⟩ : ∃ S3, S3 = S2 ++ [41] := ⟨_, rfl⟩
          have hSl : S2.length = j * 3 + 1 + i := by rw [HS2.out]; simp [rep_len] <;> omega
          have ha : ∀ w : World, (Op.stringOp .add ⟨S2.toArray⟩ ⟨#[41]⟩).run Tryd.prog w = .ok (.string ⟨S3.toArray⟩) w := fun w => by rw [hS3]; exact run_add_lists w S2 [41] (by simp; omega)
          have HS3 : As (S3 = rep j [40, 97, 32] ++ [120] ++ List.replicate (i + 1) 41) := ⟨by rw [hS3, HS2.out, closes_succ]⟩
          clear hS3 hSl
          go_wp2
          go_roundw
          case rel => exact ⟨i + 1, S3, by omega, rfl, HS3, by go_num, hb⟩
          case measure => simp [intOf]; omega
        · obtain rfl : i = j := by omega
          have HS4 : As (S2 = nested i 3) := ⟨by rw [HS2.out, HN.out]; simp⟩
          clear HS2
          cases r with
          | ok l =>
            obtain ⟨hk, hl⟩ : i ≤ 100 ∧ l.length = 1 := HD.out
            have hk2 : (i : Int) ≤ 100 := by omega
            clear HD
            go_wp2_with (first
              | (go_at_call 7; (with_reducible refine (HA.out _ _ HS4.out).mono ?_); rintro e2 w2 ⟨v2, rfl, ⟨A, c, m, rfl, hi, hm⟩, hb2⟩; replace hb2 := bthen hb hb2; have hml : ((m.length : Int) == 1) = true := (by have := erAll_len m; rw [hi.same] at this; simp; omega); clear hi hm)
              | (go_at_call 8; (with_reducible refine (awake_any _).mono ?_); rintro e3 w3 ⟨v3, rfl, rfl, hb3⟩; replace hb3 := bthen hb2 hb3))
            go_ret
            exact ⟨_, rfl, by simp, hb3⟩
          | error p =>
            obtain ⟨p1, p2⟩ := p
            obtain ⟨hk, hl⟩ : 100 < i ∧ (p1, p2) = (100 * (opn 3).length, 16) := HD.out
            obtain ⟨rfl, rfl⟩ : p1 = 300 ∧ p2 = 16 := by simpa [opn] using hl
            have hk2 : ¬ (i : Int) ≤ 100 := by omega
            clear HD hl
            go_wp2_with (first
              | (go_at_call 7; (with_reducible refine (HA.out _ _ HS4.out).mono ?_); rintro e2 w2 ⟨v2, rfl, ⟨rfl, _⟩, hb2⟩; replace hb2 := bthen hb hb2)
              | (go_at_call 8; (with_reducible refine (awake_any _).mono ?_); rintro e3 w3 ⟨v3, rfl, rfl, hb3⟩; replace hb3 := bthen hb2 hb3))
            go_ret
            exact ⟨_, rfl, by simp, hb3⟩
theorem readDepths_any (z0 z1 : Int) (w : World) (h0 : -9223372036854775808 ≤ z0 ∧ z0 ≤ 9223372036854775807) (h1 : -9223372036854775808 ≤ z1 ∧ z1 ≤ 9223372036854775807) :
    Calls Tryd.prog 5 #[.int .i64 z0, .int .i64 z1] w (Gives w fun v _ => v = .bool true) := by
  have e0 : z0 % 10 = ((z0 % 10).toNat : Int) := by omega
  have e1 : z1 % 4 = 0 ∨ z1 % 4 = 1 ∨ z1 % 4 = 2 ∨ z1 % 4 = 3 := by omega
  rcases e1 with e | e | e | e
  · exact depths0 z0 z1 w h0 h1 _ e0 e
  · exact depths1 z0 z1 w h0 h1 _ e0 e
  · exact depths2 z0 z1 w h0 h1 _ e0 e
  · exact depths3 z0 z1 w h0 h1 _ e0 e
end Go.Proofs.YtdapbegadhcpcaaDoor
