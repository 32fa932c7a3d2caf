/- References: rest, its slice of places made and read. References: the reference's Through, by the reckoning walk. References: what the program and the reference make of a reference whose rows and columns change is one. References: the law RefThroughMatches, by the reckoning walk. -/
import Derived.Test.YtmodjglbjempkaaGreatDoorHTa
import Derived.Test.YtmodjglbjempkaaGreatDoorHSb
import Derived.Test.YtmodjglbjempkaaGreatDoorHWa
set_option linter.unusedSimpArgs false
set_option linter.unusedVariables false
namespace Go.Proofs.YtmodjglbjempkaaGreatDoor
open Go.RowKit
open Sym
theorem intInfo : (Tryz.prog.info? 3).map (fun i => (i.zero, i.size, i.bytes)) = some (some (.int .i64 0), 1, 8) := by kernel_rfl
abbrev vals (zs : List Int) : List Value := zs.map fun z => Value.int .i64 z
structure RestA (L : List RfP.Step) (low high : Int) (k : Nat) (pos : Int) (zs : List Int) (n : Nat) (xs : List Value) : Prop where
  hk : k ≤ L.length
  hp0 : 0 ≤ pos
  hp1 : pos + sumN (L.drop k) ≤ 4294967294
  hn : n = zs.length
  hx : xs = vals zs
  hlz : zs.length ≤ 2 + 2 * k
  heq : low :: high :: RfP.placesP L 0 = zs ++ RfP.placesP (L.drop k) pos
theorem upd_in {W : Int → Int} {low high f l p q : Int} {b : Bool} (hq : W p = q) (h1 : ¬ (p < low ∨ high < p)) (h2 : 0 ≤ q) (A B : Int) (hA : ((b = false ∨ q < f) ∧ A = q) ∨ (¬ (b = false ∨ q < f) ∧ A = f)) (hB : ((b = false ∨ l < q) ∧ B = q) ∨ (¬ (b = false ∨ l < q) ∧ B = l)) :
    RfP.updR W low high (f, l, b) p = (A, B, true) := by
  unfold RfP.updR
  rw [if_neg h1, hq, if_pos h2]
  dsimp only
  rcases hA with ⟨a1, rfl⟩ | ⟨a1, rfl⟩ <;> rcases hB with ⟨b1, rfl⟩ | ⟨b1, rfl⟩ <;> simp only [if_pos, if_neg, a1, b1, if_true, if_false]
theorem upd_out {W : Int → Int} {low high p : Int} {x : RfP.Hu} (h : (p < low ∨ high < p) ∨ W p < 0) : RfP.updR W low high x p = x := by
  unfold RfP.updR
  rcases h with h | h
  · rw [if_pos h]
  · by_cases h1 : p < low ∨ high < p
    · rw [if_pos h1]
    · rw [if_neg h1, if_neg (by omega)]
theorem fold_next {W : Int → Int} {low high : Int} (pl : List Int) (j : Nat) (p : Int) (h : pl[j]? = some p) : (pl.take (j + 1)).foldl (RfP.updR W low high) (0, 0, false) = RfP.updR W low high ((pl.take j).foldl (RfP.updR W low high) (0, 0, false)) p := by
  obtain ⟨hj, e⟩ := List.getElem?_eq_some_iff.1 h
  rw [List.take_succ_eq_append_getElem hj, List.foldl_append, e]; rfl
set_option maxRecDepth 100000 in
set_option maxHeartbeats 4000000 in
theorem rest_any (la : Option Addr) (cap : Nat) (L : List RfP.Step) (w : World) (h : StepsAt la L w) (ho : OKL L) (low high : Int) (hl : 0 ≤ low ∧ low ≤ 1073741824) (hh : 0 ≤ high ∧ high ≤ 1073741824) : Calls Tryz.prog 108 #[.slice la L.length cap, .int .i64 low, .int .i64 high] w fun e w' => e = .returned (.tuple #[.int .i64 (RfP.restP L low high).1, .int .i64 (RfP.restP L low high).2.1, .bool (RfP.restP L low high).2.2]) ∧ Below w.heap.size w w' := by
  have hlen := ho.len
  have hsum := ho.sum
  obtain ⟨i0, hi, hz0, hz1, hz2⟩ := info_parts intInfo
  have hu := Tryz.underlying129
  have hsz := fun w => Tryz.sizeOf3 w
  have hzv := fun w => Tryz.zeroValue3 w
  refine enter env_ok Tryz.func108 rfl Tryz.results108 Tryz.ntmps108 [100054] [] [.any (.slice la L.length cap), .int .i64 low, .int .i64 high] ⟨rfl, trivial, trivial, trivial⟩ (Nat.le_of_ble_eq_true rfl) w _ 1000 ?_
  repeat' (first | ((with_reducible first | show wpS _ _ _ _ | show putD _ _ _ _ | show putW _ _ _ _ | show splitG _ _ _ | show wpQ _ _ _ _ _ _ | show wpD _ _ _ _ _ _ _); conv => whnf) | ((with_reducible show RetN _ _ _); refine retB fun β => ?_) | ((with_reducible show _ ∧ _); first | (apply And.intro; (· intro h; exfalso; first | omega | (revert h; decide)); intro _) | (apply And.intro; rotate_left; (· intro h; exfalso; first | omega | (revert h; decide)); intro _) | (refine ⟨fun _ => ?_, fun _ => ?_⟩) | (apply And.intro; · kernel_rfl) | (apply And.intro; · (show inK _ _; unfold inK; omega)) | (apply And.intro; · (show (_ : Int) ≤ 9223372036854775807; simp only [List.length_append, List.length_drop, List.length_take, List.length_cons, List.length_nil]; omega))) | ((with_reducible show CallN _ _ _ _ _ _ _ _); first | fail) | ((with_reducible show XopN _ _ _ _ _ _); first | (refine xop_ints2 env_ok rfl 1000 rfl rfl rfl hu hsz hzv rfl (fun g => ?_))) | ((with_reducible show ∃ _ : SV, _); first | (refine ⟨_, ?ok, x_len Tryz.underlying54, ?_⟩; (case ok => exact fun _ _ => trivial))) | ((with_reducible show ∃ _, _); first | fail))
  refine loop env_ok rfl (T := {t : Nat × Int × List Int × Nat × List Value × Nat × Nat // RestA L low high t.1 t.2.1 t.2.2.1 t.2.2.2.1 t.2.2.2.2.1}) (fun t => ⟨[(0, .any (.slice la L.length cap)), (1, .int .i64 low), (2, .int .i64 high), (9, .any (.slice (some ⟨t.1.2.2.2.2.2.1, 0, none⟩) t.1.2.2.2.1 t.1.2.2.2.2.2.2)), (10, .int .i64 t.1.2.1), (22, .any (.slice la L.length cap)), (23, .int .i64 (L.length : Nat)), (24, .int .i64 (t.1.1 : Nat))], [(0, true, .blob (OwnI 3 t.1.2.2.2.2.2.1 t.1.2.2.2.1 t.1.2.2.2.2.2.2 t.1.2.2.2.2.1))], 1, 88⟩) (fun t => L.length - t.1.1) ⟨(0, 0, [low, high], 2, [.int .i64 low, .int .i64 high], g, 2), ⟨Nat.zero_le _, Int.le_refl _, by simpa using hsum, rfl, rfl, by simp, rfl⟩⟩ 1000 [100054] [] (fun _ => Nat.zero_le _) (by ((with_reducible show wk _ _); repeat' (first | exact trivial | exact eqSV_refl _ | (refine eqI ?_) | (refine eqS ?_) | (with_reducible exact rfl) | apply And.intro | exact Nat.zero_lt_one | exact Nat.le_of_ble_eq_true rfl | (with_reducible assumption) | ((show (_ : Int) = _); (try dsimp only); omega) | ((show eqSV _ _); simp [eqSV, isB, bval, *]; done) | rfl)); all_goals exact fun b x h => h) (fun t I hI => ?_)
  obtain ⟨⟨k, pos, zs, n, xs, g1, cap1⟩, hR⟩ := t
  have hk := hR.hk
  have hp0 := hR.hp0
  have hp1 := hR.hp1
  have hn := hR.hn
  have hlz := hR.hlz
  have hxv : xs = vals zs := hR.hx
  have hev : low :: high :: RfP.placesP L 0 = zs ++ RfP.placesP (L.drop k) pos := hR.heq
  dsimp only at hk hp0 hp1 hn hlz ⊢
  by_cases hlt : k < L.length
  · obtain ⟨⟨κ, ν⟩, hs, hd⟩ := step_at hlt
    obtain ⟨a, rfl, -⟩ := h k _ hs
    obtain ⟨h1, h2, h3, h4⟩ := ho.step hd
    rw [h4] at hp1
    repeat' (first | ((with_reducible first | show wpS _ _ _ _ | show putD _ _ _ _ | show putW _ _ _ _ | show splitG _ _ _ | show wpQ _ _ _ _ _ _ | show wpD _ _ _ _ _ _ _); conv => whnf) | ((with_reducible show RetN _ _ _); refine retB fun β => ?_) | ((with_reducible show _ ∧ _); first | (apply And.intro; (· intro h; exfalso; first | omega | (revert h; decide)); intro _) | (apply And.intro; rotate_left; (· intro h; exfalso; first | omega | (revert h; decide)); intro _) | (refine ⟨fun _ => ?_, fun _ => ?_⟩) | (apply And.intro; · kernel_rfl) | (apply And.intro; · (show inK _ _; unfold inK; omega)) | (apply And.intro; · (show (_ : Int) ≤ 9223372036854775807; simp only [List.length_append, List.length_drop, List.length_take, List.length_cons, List.length_nil]; omega))) | ((with_reducible show CallN _ _ _ _ _ _ _ _); first | fail) | ((with_reducible show XopN _ _ _ _ _ _); first | (refine xop_ints2 env_ok rfl 1000 rfl rfl rfl hu hsz hzv rfl (fun g2 => ?_)) | (refine xop_append env_ok rfl 0 2 1000 rfl hu hi hz0 hz1 rfl rfl rfl rfl rfl (by unfold maxLen; omega) (by rw [hz2]; omega) (by simp [Value.oneCell']) (by kernel_rfl) (Nat.zero_le _) (fun g3 cap3 => ?_))) | ((with_reducible show ∃ _ : SV, _); first | (refine ⟨_, ?ok, x_index (j := k) (by omega) Tryz.underlying54 (fun w => Tryz.sizeOf78 w) (by omega), ?_⟩; (case ok => exact fun _ _ => rfl)) | (refine ⟨.agg [.int .i64 κ, .int .i64 ν], fun _ _ => ⟨trivial, trivial, trivial⟩, x_loadAgg (fun w => Tryz.isAgg78 w) (fun w => Tryz.sizeOf78 w) (step_cells rfl h hs), ?_⟩)) | ((with_reducible show ∃ _, _); first | fail))
    · refine hI _ ⟨(k + 1, pos + ν, zs ++ [pos, pos + ν - 1], n + 2, xs ++ [.int .i64 pos, .int .i64 (pos + ν - 1)], g3, cap3), ⟨by dsimp only; omega, by dsimp only; omega, by dsimp only; omega, by simp [hn], by rw [hxv]; simp, by simp; omega, ?_⟩⟩ (by dsimp only; omega) (by ((with_reducible show wk _ _); repeat' (first | exact trivial | exact eqSV_refl _ | (refine eqI ?_) | (refine eqS ?_) | (with_reducible exact rfl) | apply And.intro | exact Nat.zero_lt_one | exact Nat.le_of_ble_eq_true rfl | (with_reducible assumption) | ((show (_ : Int) = _); (try dsimp only); omega) | ((show eqSV _ _); simp [eqSV, isB, bval, *]; done) | rfl)); all_goals exact fun b x h => h)
      dsimp only; rw [hev, hd]; simp only [RfP.placesP]; rw [if_neg (by omega : ¬ κ = 1)]; simp
    · refine hI _ ⟨(k + 1, pos, zs, n, xs, g1, cap1), ⟨by dsimp only; omega, by dsimp only; omega, by dsimp only; omega, hn, hxv, by dsimp only; omega, ?_⟩⟩ (by dsimp only; omega) (by ((with_reducible show wk _ _); repeat' (first | exact trivial | exact eqSV_refl _ | (refine eqI ?_) | (refine eqS ?_) | (with_reducible exact rfl) | apply And.intro | exact Nat.zero_lt_one | exact Nat.le_of_ble_eq_true rfl | (with_reducible assumption) | ((show (_ : Int) = _); (try dsimp only); omega) | ((show eqSV _ _); simp [eqSV, isB, bval, *]; done) | rfl)); all_goals exact fun b x h => h)
      dsimp only; rw [hev, hd]; simp only [RfP.placesP]; rw [if_pos (by omega : κ = 1)]
  · have hE := hev
    rw [List.drop_eq_nil_of_le (by omega)] at hE
    simp only [RfP.placesP] at hE
    have hX : xs ++ [Value.int .i64 pos] = vals (zs ++ [pos]) := by rw [hxv]; simp
    have hP : RfP.restP L low high = (zs ++ [pos]).foldl (RfP.updR (fun p => RfP.whr L p 0) low high) (0, 0, false) := by unfold RfP.restP; rw [hE]
    have hN : (zs ++ [pos]).length = n + 1 := by simp [hn]
    clear hsum hp1
    repeat' (first | ((with_reducible first | show wpS _ _ _ _ | show putD _ _ _ _ | show putW _ _ _ _ | show splitG _ _ _ | show wpQ _ _ _ _ _ _ | show wpD _ _ _ _ _ _ _); conv => whnf) | ((with_reducible show RetN _ _ _); refine retB fun β => ?_) | ((with_reducible show _ ∧ _); first | (apply And.intro; (· intro h; exfalso; first | omega | (revert h; decide)); intro _) | (apply And.intro; rotate_left; (· intro h; exfalso; first | omega | (revert h; decide)); intro _) | (refine ⟨fun _ => ?_, fun _ => ?_⟩) | (apply And.intro; · kernel_rfl) | (apply And.intro; · (show inK _ _; unfold inK; omega)) | (apply And.intro; · (show (_ : Int) ≤ 9223372036854775807; simp only [List.length_append, List.length_drop, List.length_take, List.length_cons, List.length_nil]; omega))) | ((with_reducible show CallN _ _ _ _ _ _ _ _); first | fail) | ((with_reducible show XopN _ _ _ _ _ _); first | (refine xop_ints1 env_ok rfl 1000 rfl rfl hu hsz hzv rfl (fun g2 => ?_)) | (refine xop_append env_ok rfl 0 1 1000 rfl hu hi hz0 hz1 rfl rfl rfl rfl rfl (by unfold maxLen; omega) (by rw [hz2]; omega) (by simp [Value.oneCell']) (by kernel_rfl) (Nat.zero_le _) (fun g3 cap3 => ?_))) | ((with_reducible show ∃ _ : SV, _); first | (refine ⟨_, ?ok, x_len hu, ?_⟩; (case ok => exact fun _ _ => trivial))) | ((with_reducible show ∃ _, _); first | fail))
    rw [hX]
    clear hX hE hI hR hxv hev
    generalize zs ++ [pos] = pl at *
    refine loop env_ok rfl (T := {t : Nat × RfP.Hu // t.1 ≤ pl.length ∧ t.2 = (pl.take t.1).foldl (RfP.updR (fun p => RfP.whr L p 0) low high) (0, 0, false)}) (fun t => ⟨[(0, .any (.slice la L.length cap)), (1, .int .i64 low), (2, .int .i64 high), (13, .int .i64 t.1.2.1), (14, .int .i64 t.1.2.2.1), (15, .bool t.1.2.2.2), (49, .any (.slice (some ⟨g3, 0, none⟩) (n + 1) cap3)), (50, .int .i64 ((n + 1 : Nat) : Int)), (51, .int .i64 (t.1.1 : Nat))], [(0, true, .blob (OwnI 3 g3 (n + 1) cap3 (vals pl)))], 1, 88⟩) (fun t => pl.length - t.1.1) ⟨(0, (0, 0, false)), Nat.zero_le _, rfl⟩ 1000 [100054] [] (fun _ => Nat.zero_le _) (by ((with_reducible show wk _ _); repeat' (first | exact trivial | exact eqSV_refl _ | (refine eqI ?_) | (refine eqS ?_) | (with_reducible exact rfl) | apply And.intro | exact Nat.zero_lt_one | exact Nat.le_of_ble_eq_true rfl | (with_reducible assumption) | ((show (_ : Int) = _); (try dsimp only); omega) | ((show eqSV _ _); simp [eqSV, isB, bval, *]; done) | rfl)); all_goals exact fun b x h => h) (fun t I hI => ?_)
    obtain ⟨⟨j, f, l, b⟩, hj, hx⟩ := t
    dsimp only at hj hx ⊢
    by_cases hjl : j < pl.length
    · obtain ⟨p, hp⟩ : ∃ p, pl[j]? = some p := ⟨pl[j], List.getElem?_eq_getElem hjl⟩
      have hF := fold_next (W := (fun p => RfP.whr L p 0)) (low := low) (high := high) pl j p hp
      rw [← hx] at hF
      have hv : ∀ β : Nat → Nat, (vals pl)[j * 1]? = some ((SV.int .i64 p).den β) := fun β => by rw [Nat.mul_one]; simp [hp, SV.den]
      cases b
      all_goals (
        repeat' (first | ((with_reducible first | show wpS _ _ _ _ | show putD _ _ _ _ | show putW _ _ _ _ | show splitG _ _ _ | show wpQ _ _ _ _ _ _ | show wpD _ _ _ _ _ _ _); conv => whnf) | ((with_reducible show RetN _ _ _); refine retB fun β => ?_) | ((with_reducible show _ ∧ _); first | (apply And.intro; (· intro h; exfalso; first | omega | (revert h; decide)); intro _) | (apply And.intro; rotate_left; (· intro h; exfalso; first | omega | (revert h; decide)); intro _) | (refine ⟨fun _ => ?_, fun _ => ?_⟩) | (apply And.intro; · kernel_rfl) | (apply And.intro; · (show inK _ _; unfold inK; omega)) | (apply And.intro; · (show (_ : Int) ≤ 9223372036854775807; simp only [List.length_append, List.length_drop, List.length_take, List.length_cons, List.length_nil]; omega))) | ((with_reducible show CallN _ _ _ _ _ _ _ _); first | (refine call env_ok rfl (.int .i64 (RfP.whr L p 0)) 1000 (by kernel_rfl) rfl (trivial) (fun β w hm => Where_any la cap L w (h.below hm.below) ho p (by omega)) ?_)) | ((with_reducible show XopN _ _ _ _ _ _); first | (refine xop_load env_ok rfl 0 (.int .i64 p) 1000 rfl (fun w => Tryz.isAgg3 w) rfl rfl hv trivial ?_)) | ((with_reducible show ∃ _ : SV, _); first | (refine ⟨_, ?ok, x_index (j := j) (by omega) hu hsz (by omega), ?_⟩; (case ok => exact fun _ _ => rfl))) | ((with_reducible show ∃ _, _); first | fail))
        all_goals first | (refine hI _ ⟨(j + 1, (f, l, false)), by dsimp only; omega, by rw [hF]; exact (upd_out (by first | (left; left; omega) | (left; right; omega) | (right; show RfP.whr L p 0 < 0; omega))).symm⟩ (by dsimp only; omega) (by ((with_reducible show wk _ _); repeat' (first | exact trivial | exact eqSV_refl _ | (refine eqI ?_) | (refine eqS ?_) | (with_reducible exact rfl) | apply And.intro | exact Nat.zero_lt_one | exact Nat.le_of_ble_eq_true rfl | (with_reducible assumption) | ((show (_ : Int) = _); (try dsimp only); omega) | ((show eqSV _ _); simp [eqSV, isB, bval, *]; done) | rfl)); all_goals exact fun b x h => h)) | (refine hI _ ⟨(j + 1, (f, l, true)), by dsimp only; omega, by rw [hF]; exact (upd_out (by first | (left; left; omega) | (left; right; omega) | (right; show RfP.whr L p 0 < 0; omega))).symm⟩ (by dsimp only; omega) (by ((with_reducible show wk _ _); repeat' (first | exact trivial | exact eqSV_refl _ | (refine eqI ?_) | (refine eqS ?_) | (with_reducible exact rfl) | apply And.intro | exact Nat.zero_lt_one | exact Nat.le_of_ble_eq_true rfl | (with_reducible assumption) | ((show (_ : Int) = _); (try dsimp only); omega) | ((show eqSV _ _); simp [eqSV, isB, bval, *]; done) | rfl)); all_goals exact fun b x h => h)) | (refine hI _ ⟨(j + 1, (RfP.whr L p 0, RfP.whr L p 0, true)), by dsimp only; omega, by rw [hF]; exact (upd_in (W := fun p => RfP.whr L p 0) (p := p) (q := RfP.whr L p 0) rfl (by omega) (by omega) (RfP.whr L p 0) (RfP.whr L p 0) (by first | exact .inl ⟨.inl rfl, rfl⟩ | exact .inl ⟨.inr (by omega), rfl⟩ | exact .inr ⟨by simp; omega, rfl⟩) (by first | exact .inl ⟨.inl rfl, rfl⟩ | exact .inl ⟨.inr (by omega), rfl⟩ | exact .inr ⟨by simp; omega, rfl⟩)).symm⟩ (by dsimp only; omega) (by ((with_reducible show wk _ _); repeat' (first | exact trivial | exact eqSV_refl _ | (refine eqI ?_) | (refine eqS ?_) | (with_reducible exact rfl) | apply And.intro | exact Nat.zero_lt_one | exact Nat.le_of_ble_eq_true rfl | (with_reducible assumption) | ((show (_ : Int) = _); (try dsimp only); omega) | ((show eqSV _ _); simp [eqSV, isB, bval, *]; done) | rfl)); all_goals exact fun b x h => h)) | (refine hI _ ⟨(j + 1, (RfP.whr L p 0, l, true)), by dsimp only; omega, by rw [hF]; exact (upd_in (W := fun p => RfP.whr L p 0) (p := p) (q := RfP.whr L p 0) rfl (by omega) (by omega) (RfP.whr L p 0) (l) (by first | exact .inl ⟨.inl rfl, rfl⟩ | exact .inl ⟨.inr (by omega), rfl⟩ | exact .inr ⟨by simp; omega, rfl⟩) (by first | exact .inl ⟨.inl rfl, rfl⟩ | exact .inl ⟨.inr (by omega), rfl⟩ | exact .inr ⟨by simp; omega, rfl⟩)).symm⟩ (by dsimp only; omega) (by ((with_reducible show wk _ _); repeat' (first | exact trivial | exact eqSV_refl _ | (refine eqI ?_) | (refine eqS ?_) | (with_reducible exact rfl) | apply And.intro | exact Nat.zero_lt_one | exact Nat.le_of_ble_eq_true rfl | (with_reducible assumption) | ((show (_ : Int) = _); (try dsimp only); omega) | ((show eqSV _ _); simp [eqSV, isB, bval, *]; done) | rfl)); all_goals exact fun b x h => h)) | (refine hI _ ⟨(j + 1, (f, RfP.whr L p 0, true)), by dsimp only; omega, by rw [hF]; exact (upd_in (W := fun p => RfP.whr L p 0) (p := p) (q := RfP.whr L p 0) rfl (by omega) (by omega) (f) (RfP.whr L p 0) (by first | exact .inl ⟨.inl rfl, rfl⟩ | exact .inl ⟨.inr (by omega), rfl⟩ | exact .inr ⟨by simp; omega, rfl⟩) (by first | exact .inl ⟨.inl rfl, rfl⟩ | exact .inl ⟨.inr (by omega), rfl⟩ | exact .inr ⟨by simp; omega, rfl⟩)).symm⟩ (by dsimp only; omega) (by ((with_reducible show wk _ _); repeat' (first | exact trivial | exact eqSV_refl _ | (refine eqI ?_) | (refine eqS ?_) | (with_reducible exact rfl) | apply And.intro | exact Nat.zero_lt_one | exact Nat.le_of_ble_eq_true rfl | (with_reducible assumption) | ((show (_ : Int) = _); (try dsimp only); omega) | ((show eqSV _ _); simp [eqSV, isB, bval, *]; done) | rfl)); all_goals exact fun b x h => h)) | (refine hI _ ⟨(j + 1, (f, l, true)), by dsimp only; omega, by rw [hF]; exact (upd_in (W := fun p => RfP.whr L p 0) (p := p) (q := RfP.whr L p 0) rfl (by omega) (by omega) (f) (l) (by first | exact .inl ⟨.inl rfl, rfl⟩ | exact .inl ⟨.inr (by omega), rfl⟩ | exact .inr ⟨by simp; omega, rfl⟩) (by first | exact .inl ⟨.inl rfl, rfl⟩ | exact .inl ⟨.inr (by omega), rfl⟩ | exact .inr ⟨by simp; omega, rfl⟩)).symm⟩ (by dsimp only; omega) (by ((with_reducible show wk _ _); repeat' (first | exact trivial | exact eqSV_refl _ | (refine eqI ?_) | (refine eqS ?_) | (with_reducible exact rfl) | apply And.intro | exact Nat.zero_lt_one | exact Nat.le_of_ble_eq_true rfl | (with_reducible assumption) | ((show (_ : Int) = _); (try dsimp only); omega) | ((show eqSV _ _); simp [eqSV, isB, bval, *]; done) | rfl)); all_goals exact fun b x h => h)))
    · rw [List.take_of_length_le (by omega), ← hP] at hx
      repeat' (first | ((with_reducible first | show wpS _ _ _ _ | show putD _ _ _ _ | show putW _ _ _ _ | show splitG _ _ _ | show wpQ _ _ _ _ _ _ | show wpD _ _ _ _ _ _ _); conv => whnf) | ((with_reducible show RetN _ _ _); refine retB fun β => ?_) | ((with_reducible show _ ∧ _); first | (apply And.intro; (· intro h; exfalso; first | omega | (revert h; decide)); intro _) | (apply And.intro; rotate_left; (· intro h; exfalso; first | omega | (revert h; decide)); intro _) | (refine ⟨fun _ => ?_, fun _ => ?_⟩) | (apply And.intro; · kernel_rfl) | (apply And.intro; · (show inK _ _; unfold inK; omega)) | (apply And.intro; · (show (_ : Int) ≤ 9223372036854775807; simp only [List.length_append, List.length_drop, List.length_take, List.length_cons, List.length_nil]; omega))) | ((with_reducible show CallN _ _ _ _ _ _ _ _); first | fail) | ((with_reducible show XopN _ _ _ _ _ _); first | fail) | ((with_reducible show ∃ _ : SV, _); first | fail) | ((with_reducible show ∃ _, _); first | fail))
      rw [← hx]; rfl
end Go.Proofs.YtmodjglbjempkaaGreatDoor
namespace Go.Proofs.YtmodjglbjempkaaGreatDoor
open Go.RowKit
open Sym
namespace RfP
/-- what the reference makes of a reference -/
def thrR (x : Ref) (R C : List Step) : Ref :=
  if x.k = 4 then x else
  let b0 := if x.k = 0 then x.r else x.r2
  let r0 := if x.k = 0 then x.c else x.c2
  let a : Hu := if x.k = 3 then (x.r, b0, true) else restP R x.r b0
  let b : Hu := if x.k = 2 then (x.c, r0, true) else restP C x.c r0
  if a.2.2 = false ∨ b.2.2 = false ∨ permP a.2.1 = false ∨ permP b.2.1 = false then badR else
  { x with r := a.1, c := b.1, r2 := if x.k = 0 then x.r2 else a.2.1, c2 := if x.k = 0 then x.c2 else b.2.1 }
end RfP
theorem insideT (n : Int) (w : World) : Calls Tryz.prog 52 #[.int .i64 n] w fun e w' => e = .returned (.bool (RfP.permP n)) ∧ Below w.heap.size w w' := by
  rw [← perm_permP]; exact quiet (inside_any n w)
attribute [local irreducible] Calls Sym.AggEq RfP.restP RfP.permP
set_option maxRecDepth 100000 in
set_option maxHeartbeats 4000000 in
theorem RThrough_any (x : RfP.Ref) (la lb : Option Addr) (ca cb : Nat) (R C : List RfP.Step) (w : World) (hR : StepsAt la R w) (hC : StepsAt lb C w) (oR : OKL R) (oC : OKL C) (h : RfP.checkP x = 0) :
    Calls Tryz.prog 56 #[.agg (refC x), .slice la R.length ca, .slice lb C.length cb] w fun e w' => e = .returned (.agg (refC (RfP.thrR x R C))) ∧ Below w.heap.size w w' := by
  have hx := ref_bounds h
  clear h
  obtain ⟨sh, k, rr, c, r2, c2, ar, ac, ar2, ac2⟩ := x
  dsimp only at hx
  refine enter env_ok Tryz.func56 rfl Tryz.results56 Tryz.ntmps56 [] [] [.agg [.str sh, .int .i64 k, .int .i64 rr, .int .i64 c, .int .i64 r2, .int .i64 c2, .bool ar, .bool ac, .bool ar2, .bool ac2], .any (.slice la R.length ca), .any (.slice lb C.length cb)] ⟨⟨trivial, trivial, trivial, trivial, trivial, trivial, trivial, trivial, trivial, trivial, trivial⟩, rfl, rfl, trivial⟩ (Nat.le_of_ble_eq_true rfl) w _ 1000 ?_
  repeat' (first | ((with_reducible first | show wpS _ _ _ _ | show putD _ _ _ _ | show putW _ _ _ _ | show splitG _ _ _ | show wpQ _ _ _ _ _ _ | show wpD _ _ _ _ _ _ _); conv => whnf) | ((with_reducible show RetN _ _ _); refine retB fun β => ?_) | ((with_reducible show _ ∧ _); first | (apply And.intro; (· intro h; exfalso; first | omega | (revert h; decide)); intro _) | (apply And.intro; rotate_left; (· intro h; exfalso; first | omega | (revert h; decide)); intro _) | (refine ⟨fun _ => ?_, fun _ => ?_⟩) | (apply And.intro; · kernel_rfl) | (apply And.intro; · (show inK _ _; unfold inK; omega)) | (apply And.intro; · (show (_ : Int) ≤ 9223372036854775807; simp only [List.length_append, List.length_drop, List.length_take, List.length_cons, List.length_nil]; omega))) | ((with_reducible show CallN _ _ _ _ _ _ _ _); first | (refine call env_ok rfl (.tup [.int .i64 (RfP.restP R _ _).1, .int .i64 (RfP.restP R _ _).2.1, .bool (RfP.restP R _ _).2.2]) 1000 (by kernel_rfl) rfl (⟨trivial, trivial, trivial, trivial⟩) (fun β w hm => rest_any la ca R w (hR.below hm.below) oR _ _ (by omega) (by omega)) ?_) | (refine call env_ok rfl (.tup [.int .i64 (RfP.restP C _ _).1, .int .i64 (RfP.restP C _ _).2.1, .bool (RfP.restP C _ _).2.2]) 1000 (by kernel_rfl) rfl (⟨trivial, trivial, trivial, trivial⟩) (fun β w hm => rest_any lb cb C w (hC.below hm.below) oC _ _ (by omega) (by omega)) ?_) | (refine call env_ok rfl (.bool (RfP.permP _)) 1000 (by kernel_rfl) rfl (trivial) (fun β w hm => insideT _ w) ?_)) | ((with_reducible show ∃ _ : SV, _); first | fail) | ((with_reducible show ∃ _, _); first | fail))
  all_goals clear hR hC oR oC
  all_goals simp_all [RfP.thrR, SV.den, SV.dens, refC, RfP.badR]
end Go.Proofs.YtmodjglbjempkaaGreatDoor
namespace Go.Proofs.YtmodjglbjempkaaGreatDoor
open Go.RowKit
open Sym
namespace RfP
theorem hull_facts (a : List Step) (low high : Int) (hok : ∀ s ∈ a, okS s) (h0 : 0 ≤ low) (h1 : high < 1073741824) (hb : (hullP a low high).2.2 = true) : 0 ≤ (hullP a low high).1 ∧ (hullP a low high).1 ≤ (hullP a low high).2.1 ∧ (low = high → (hullP a low high).1 = (hullP a low high).2.1) := by
  have hW : ∀ p : Int, 0 ≤ p → (fun p => whr a p 0) p = whr a (p - 0) 0 := fun p _ => by simp
  have k1 : Sp (fun p => whr a p 0) (fun p => low ≤ p ∧ p ≤ high) (hullP a low high) :=
    hullG_spec (fun p => whr a p 0) low high h1 a 0 0 (0, 0, false) hok (by omega) (by omega) hW (.inl ⟨rfl, rfl, rfl, fun p hp => by omega⟩) (fun h => by cases h)
  generalize hullP a low high = x at *
  obtain ⟨f, l, b⟩ := x
  unfold Sp at k1
  dsimp only at *
  rcases k1 with ⟨e, _⟩ | ⟨_, ⟨p, hp, hp1, hp2⟩, ⟨q, hq, hq1, hq2⟩, h4⟩
  · rw [hb] at e; cases e
  · have h5 := h4 p hp (by omega)
    have h6 := h4 q hq (by omega)
    refine ⟨hp2, by omega, fun e => ?_⟩
    obtain rfl : p = q := by omega
    omega
theorem perm_le {f l : Int} (h0 : 0 ≤ f) (h1 : f ≤ l) (h : permP l = true) : permP f = true := by
  unfold permP at h ⊢
  simp at h ⊢
  omega
theorem thr_same (x : Ref) (R C : List Step) (h : checkP x = 0) (oR : OKL R) (oC : OKL C) : thrP x R C = thrR x R C := by
  obtain ⟨hk, hf, hin, hord⟩ := check_ok x h
  clear h
  obtain ⟨sh, k, a, c, a2, c2, ar, ac, ar2, ac2⟩ := x
  dsimp only at *
  have okR : ∀ s ∈ R, okS s := fun s hs => (oR.ok s hs).1
  have okC : ∀ s ∈ C, okS s := fun s hs => (oC.ok s hs).1
  unfold insideP permP at hin
  simp at hin
  have hk' : k = 0 ∨ k = 1 ∨ k = 2 ∨ k = 3 ∨ k = 4 := by omega
  rcases hk' with rfl | rfl | rfl | rfl | rfl
  · unfold formP firstP secondP thirdP fourthP at hf
    simp at hf
    obtain ⟨⟨rfl, rfl⟩, rfl, rfl⟩ := hf
    unfold thrP thrR
    dsimp only
    have e1 := hull_rest R a a okR (by omega) (by omega) (by omega)
    have e2 := hull_rest C c c okC (by omega) (by omega) (by omega)
    have f1 := hull_facts R a a okR (by omega) (by omega)
    have f2 := hull_facts C c c okC (by omega) (by omega)
    simp only [show ¬ ((0 : Int) = 4) by omega, show ¬ ((0 : Int) = 3) by omega, show ¬ ((0 : Int) = 2) by omega, if_true, if_false, false_or]
    rw [← e1, ← e2]
    generalize hullP R a a = H at *
    generalize hullP C c c = K at *
    obtain ⟨p, q, b⟩ := H
    obtain ⟨p', q', b'⟩ := K
    dsimp only at *
    cases b
    · simp
    · cases b'
      · simp
      · obtain ⟨g1, g2, g3⟩ := f1 rfl
        obtain ⟨g4, g5, g6⟩ := f2 rfl
        obtain rfl := g3 rfl
        obtain rfl := g6 rfl
        simp only [fittingP, meaningP, insideP, if_true, perm0]
        clear e1 e2
        cases h1 : permP p <;> cases h2 : permP p' <;> simp_all
  · have o1 := (hord (by omega)).1
    have o2 := (hord (by omega)).2
    unfold thrP thrR
    dsimp only
    have e1 := hull_rest R a a2 okR (by omega) (by omega) (by omega)
    have e2 := hull_rest C c c2 okC (by omega) (by omega) (by omega)
    have f1 := hull_facts R a a2 okR (by omega) (by omega)
    have f2 := hull_facts C c c2 okC (by omega) (by omega)
    simp only [show ¬ ((1 : Int) = 4) by omega, show ¬ ((1 : Int) = 3) by omega, show ¬ ((1 : Int) = 2) by omega, show ¬ ((1 : Int) = 0) by omega, if_true, if_false, false_or]
    rw [← e1, ← e2]
    generalize hullP R a a2 = H at *
    generalize hullP C c c2 = K at *
    obtain ⟨p, q, b⟩ := H
    obtain ⟨p', q', b'⟩ := K
    dsimp only at *
    cases b
    · simp
    · cases b'
      · simp
      · obtain ⟨g1, g2, g3⟩ := f1 rfl
        obtain ⟨g4, g5, g6⟩ := f2 rfl
        have m1 := perm_le g1 g2
        have m2 := perm_le g4 g5
        simp only [fittingP, meaningP, insideP, show ¬ ((1 : Int) = 4) by omega, show ¬ ((1 : Int) = 3) by omega, show ¬ ((1 : Int) = 2) by omega, show ¬ ((1 : Int) = 0) by omega, if_false]
        clear e1 e2
        cases hp : permP p <;> cases hq : permP q <;> cases hp' : permP p' <;> cases hq' : permP q' <;> simp_all
  · have o1 := (hord (by omega)).1
    unfold formP firstP secondP thirdP fourthP at hf
    simp at hf
    obtain ⟨⟨rfl, rfl⟩, rfl, rfl⟩ := hf
    unfold thrP thrR
    dsimp only
    have e1 := hull_rest R a a2 okR (by omega) (by omega) (by omega)
    have f1 := hull_facts R a a2 okR (by omega) (by omega)
    simp only [show ¬ ((2 : Int) = 4) by omega, show ¬ ((2 : Int) = 3) by omega, show ¬ ((2 : Int) = 0) by omega, if_true, if_false, true_or]
    rw [← e1]
    generalize hullP R a a2 = H at *
    obtain ⟨p, q, b⟩ := H
    dsimp only at *
    cases b
    · simp
    · obtain ⟨g1, g2, g3⟩ := f1 rfl
      have m1 := perm_le g1 g2
      clear e1
      simp only [fittingP, meaningP, insideP, show ¬ ((2 : Int) = 0) by omega, if_true, if_false, perm0]
      cases hp : permP p <;> cases hq : permP q <;> simp_all
  · have o2 := (hord (by omega)).2
    unfold formP firstP secondP thirdP fourthP at hf
    simp at hf
    obtain ⟨⟨rfl, rfl⟩, rfl, rfl⟩ := hf
    unfold thrP thrR
    dsimp only
    have e2 := hull_rest C c c2 okC (by omega) (by omega) (by omega)
    have f2 := hull_facts C c c2 okC (by omega) (by omega)
    simp only [show ¬ ((3 : Int) = 4) by omega, show ¬ ((3 : Int) = 2) by omega, show ¬ ((3 : Int) = 0) by omega, if_true, if_false, false_or]
    rw [← e2]
    generalize hullP C c c2 = H at *
    obtain ⟨p, q, b⟩ := H
    dsimp only at *
    cases b
    · simp
    · obtain ⟨g1, g2, g3⟩ := f2 rfl
      have m1 := perm_le g1 g2
      clear e2
      simp only [fittingP, meaningP, insideP, show ¬ ((3 : Int) = 0) by omega, show ¬ ((3 : Int) = 2) by omega, if_true, if_false, perm0]
      cases hp : permP p <;> cases hq : permP q <;> simp_all
  · unfold thrP thrR; simp
end RfP
end Go.Proofs.YtmodjglbjempkaaGreatDoor
namespace Go.Proofs.YtmodjglbjempkaaGreatDoor
open Go.RowKit
open Sym
/-- what the functions answer -/
structure TM (x : RfP.Ref) (R C : List RfP.Step) (E E1 E2 : Int) (Y : RfP.Ref) (e : Int) : Prop where
  t : RfP.throughP x R C = (Y, e)
  e0 : RfP.errP x = E
  e1 : RfP.axErr none R 0 0 = E1
  e2 : RfP.axErr none C 0 0 = E2
/-- what the answers are -/
structure TMs (x : RfP.Ref) (R C : List RfP.Step) (E E1 E2 : Int) (Y : RfP.Ref) (e : Int) : Prop where
  k1 : E ≠ 0 → Y = RfP.zeroR ∧ e = E
  k2 : E = 0 → E1 ≠ 0 → Y = RfP.zeroR ∧ e = E1
  k3 : E = 0 → E1 = 0 → E2 ≠ 0 → Y = RfP.zeroR ∧ e = E2
  k4 : E = 0 → E1 = 0 → E2 = 0 → Y = RfP.thrR x R C ∧ e = 0
theorem tms {x : RfP.Ref} {R C : List RfP.Step} {E E1 E2 : Int} {Y : RfP.Ref} {e : Int} (h : TM x R C E E1 E2 Y e) : TMs x R C E E1 E2 Y e := by
  obtain ⟨ht, h0, h1, h2⟩ := h
  rw [RfP.err_check] at h0
  unfold RfP.throughP at ht
  rw [h0, h1, h2] at ht
  by_cases q : E = 0
  · rw [if_neg (fun e => e q)] at ht
    by_cases q1 : E1 = 0
    · rw [if_neg (fun e => e q1)] at ht
      by_cases q2 : E2 = 0
      · rw [if_neg (fun e => e q2), RfP.thr_same x R C (h0.trans q) (okl_of (h1.trans q1)) (okl_of (h2.trans q2))] at ht
        injection ht with a b
        exact ⟨fun h => absurd q h, fun _ h => absurd q1 h, fun _ _ h => absurd q2 h, fun _ _ _ => ⟨a.symm, b.symm⟩⟩
      · rw [if_pos q2] at ht
        injection ht with a b
        exact ⟨fun h => absurd q h, fun _ h => absurd q1 h, fun _ _ _ => ⟨a.symm, b.symm⟩, fun _ _ h => absurd h q2⟩
    · rw [if_pos q1] at ht
      injection ht with a b
      exact ⟨fun h => absurd q h, fun _ _ => ⟨a.symm, b.symm⟩, fun _ h => absurd h q1, fun _ h => absurd h q1⟩
  · rw [if_pos q] at ht
    injection ht with a b
    exact ⟨fun _ => ⟨a.symm, b.symm⟩, fun h => absurd h q, fun h => absurd h q, fun h => absurd h q⟩
attribute [local irreducible] Calls Sym.AggEq RfP.throughP RfP.errP RfP.checkP RfP.axErr RfP.thrR
end Go.Proofs.YtmodjglbjempkaaGreatDoor
