/- The reference's numbers: halves and products. The reference's numbers: quotients. Numbers read and written: the program's parse, the reference's NatOf and Text. The shelf's contracts: those of the first text. Strings of digits; fractions read: the program's digits, read, both, Check. -/
import Derived.Test.YtdkhkfdenlabaaaGreatDoorJGL
import Derived.Test.YtdkhkfdenlabaaaGreatDoorJGG
import Derived.Test.YtdkhkfdenlabaaaGreatDoorJGD
import Derived.Lib.AtoiErrMem
import Derived.Shelf.Strings.SlTrimAscii
import Derived.Test.YtdkhkfdenlabaaaGreatDoorJGK
set_option linter.unusedSimpArgs false
set_option linter.unusedVariables false
namespace Go.Proofs.YtdkhkfdenlabaaaGreatDoor
open Go.RowKit
open Sym
attribute [local irreducible] Calls Sym.AggEq ExP.nd ExP.dig ExP.upd ExP.mixP
set_option maxRecDepth 100000 in
set_option maxHeartbeats 2000000 in
theorem half_any (a : Option Addr) (ca x : Nat) (w : World) (hx : ExP.nd 10 x ≤ 100000000) (hs : SlAt a (nv .i64 10 x) w) :
    Calls Tryz.prog 155 #[.slice a (ExP.nd 10 x) ca] w (NatOut .i64 10 (x / 2) w) := by
  obtain ⟨i0, hi, hz0, hz1, hz2⟩ := info_parts intInfo
  have hu := Tryz.underlying70
  have hgx := fun i (h : i < ExP.nd 10 x) => nv_get (k := .i64) h
  have hnx := nv_ne (k := .i64) (b := 10) (x := x)
  have hdx := fun i => ExP.dig_lt (b := 10) (by omega) i x
  have hxl := ExP.nd_lt (b := 10) (by omega) x
  have hTR := fun g (V : Nat) (w' : World) (hV : V < 10 ^ ExP.nd 10 x) hs' => rtrim_any (some ⟨g, 0, none⟩) (ExP.nd 10 x) (ExP.nd 10 x) V w' hV (Nat.le_refl _) hx hs'
  refine enter env_ok Tryz.func155 rfl Tryz.results155 Tryz.ntmps155 [] [] [.any (.slice a (ExP.nd 10 x) ca)] ⟨rfl, trivial⟩ (Nat.le_of_ble_eq_true rfl) w _ 1000 ?_
  generalize ExP.nd 10 x = n at *
  repeat' (first | ((with_reducible first | show wpS .. | show putD .. | show putW .. | show splitG .. | show wpQ .. | show wpD .. | show wpX .. | show expX .. | show stepX .. | show keepR .. | show wpY ..); conv => whnf) | ((with_reducible show RetN ..); refine retB fun β => ?_) | ((with_reducible show _ ∧ _); first | (refine ⟨fun h => absurd h (by first | omega | decide), fun _ => ?_⟩) | (refine ⟨fun _ => ?_, fun h => absurd h (by first | omega | decide)⟩) | (refine ⟨fun _ => ?_, fun _ => ?_⟩) | (apply And.intro; · kernel_rfl) | (apply And.intro; · (show inK _ _; unfold inK; omega)) | (apply And.intro; · (show (_ : Int) ≤ 9223372036854775807; (try simp only [lenS]); omega))) | ((with_reducible show AllBe ..); refine allBe fun βe => ?_; conv => whnf) | ((with_reducible show bothX ..); refine bothI ?_ ?_; conv => whnf) | (with_reducible exact trivial) | ((with_reducible show CallN ..); refine call_of env_ok rfl 1000 ?_) | ((with_reducible show XopN ..); refine xop_of env_ok rfl 1000 ?_) | ((with_reducible show CallX ..); first | fail) | ((with_reducible show OpX ..); first | (refine opx_make (m := n) rfl (by omega) rfl rfl hu hi hz0 hz1 rfl (by rw [hz2]; omega) (by unfold maxLen; omega) (fun g => ?_))) | ((with_reducible show ∃ _ : SV, _); first | (refine ⟨_, ?ok, x_len Tryz.underlying70, ?_⟩; (case ok => exact fun _ _ => trivial))) | ((with_reducible show ∃ _, _); first | fail))
  rw [rep_row 10]
  refine loop env_ok rfl (T := {t : Nat × Nat × Nat // t.1 ≤ n ∧ ExP.DivI 10 x 2 t.1 t.2.1 t.2.2}) (fun t => ⟨[(0, .any (.slice a n ca)), (3, .any (.slice (some ⟨g, 0, none⟩) n n)), (4, .int .i64 (t.1.2.2 : Nat)), (5, .int .i64 ((t.1.1 : Nat) - 1 : Int))], [(0, true, .blob (OwnS 3 1 g n n (valsK .i64 (ExP.dgN 10 n t.1.2.1))))], 1, 33⟩) (fun t => t.1.1) ⟨(n, 0, 0), Nat.le_refl _, ExP.div_start hxl⟩ 1000 [] [] (fun _ => by exact Nat.zero_le _) (by dsimp only; ((with_reducible show wk _ _); repeat' (first | exact trivial | exact eqSV_refl _ | (refine eqI ?_) | (refine eqS ?_) | (with_reducible exact rfl) | apply And.intro | exact Nat.zero_lt_one | exact Nat.le_of_ble_eq_true rfl | (with_reducible assumption) | ((show (_ : Int) = _); (try dsimp only); omega) | ((show eqSV _ _); simp [eqSV, isB, bval, *]; done) | rfl)); all_goals exact fun b x h => h) (fun t I hI => ?_)
  obtain ⟨⟨j, V, r⟩, hj, hD⟩ := t
  dsimp only at hj hD ⊢
  by_cases hj0 : j = 0
  · subst hj0
    obtain ⟨rfl, -⟩ := ExP.div_end hD
    have hl := ExP.div_lt (by omega) hD hxl
    repeat' (first | ((with_reducible first | show wpS .. | show putD .. | show putW .. | show splitG .. | show wpQ .. | show wpD .. | show wpX .. | show expX .. | show stepX .. | show keepR .. | show wpY ..); conv => whnf) | ((with_reducible show RetN ..); refine retB fun β => ?_) | ((with_reducible show _ ∧ _); first | (refine ⟨fun h => absurd h (by first | omega | decide), fun _ => ?_⟩) | (refine ⟨fun _ => ?_, fun h => absurd h (by first | omega | decide)⟩) | (refine ⟨fun _ => ?_, fun _ => ?_⟩) | (apply And.intro; · kernel_rfl) | (apply And.intro; · (show inK _ _; unfold inK; omega)) | (apply And.intro; · (show (_ : Int) ≤ 9223372036854775807; (try simp only [lenS]); omega))) | ((with_reducible show AllBe ..); refine allBe fun βe => ?_; conv => whnf) | ((with_reducible show bothX ..); refine bothI ?_ ?_; conv => whnf) | (with_reducible exact trivial) | ((with_reducible show CallN ..); refine call_of env_ok rfl 1000 ?_) | ((with_reducible show XopN ..); refine xop_of env_ok rfl 1000 ?_) | ((with_reducible show CallX ..); first | (refine callX (.any (.slice (some ⟨g, 0, none⟩) (ExP.nd 10 (x / 2)) n)) (by kernel_rfl) rfl (rfl) (fun β w hm => hTR g (x / 2) w hl (Mem.own hm 0 rfl).1) ?_)) | ((with_reducible show OpX ..); first | fail) | ((with_reducible show ∃ _ : SV, _); first | fail) | ((with_reducible show ∃ _, _); first | fail))
    refine ret fun β w' hm => ?_
    obtain ⟨q1, q2, q3⟩ := Mem.own hm 0 rfl
    have hle := ExP.nd_le (b := 10) (by omega) hl
    exact ⟨_, n, rfl, sl_pre q1 (dgN_pre hle .i64), fresh_own q2 rfl, (fun h => by cases h), hle, hm.below⟩
  · obtain ⟨i, rfl⟩ : ∃ i, j = i + 1 := ⟨j - 1, by omega⟩
    obtain ⟨ad, rfl⟩ := SlAt.some hs (hnx (by omega))
    have r1 := sl_read hs (hgx i (by omega))
    have hdx := hdx i
    have hr2 : r < 2 := by rw [hD.r]; exact Nat.mod_lt _ (by omega)
    obtain ⟨hD1, hq⟩ := ExP.div_next (by omega) (by omega) hD rfl
    have hset := ExP.dgN_set (b := 10) (n := n) (V := V) (j := i) (by omega) hq
    generalize ExP.dig 10 i x = dx at *
    repeat' (first | ((with_reducible first | show wpS .. | show putD .. | show putW .. | show splitG .. | show wpQ .. | show wpD .. | show wpX .. | show expX .. | show stepX .. | show keepR .. | show wpY ..); conv => whnf) | ((with_reducible show RetN ..); refine retB fun β => ?_) | ((with_reducible show _ ∧ _); first | (refine ⟨fun h => absurd h (by first | omega | decide), fun _ => ?_⟩) | (refine ⟨fun _ => ?_, fun h => absurd h (by first | omega | decide)⟩) | (refine ⟨fun _ => ?_, fun _ => ?_⟩) | (apply And.intro; · kernel_rfl) | (apply And.intro; · (show inK _ _; unfold inK; omega)) | (apply And.intro; · (show (_ : Int) ≤ 9223372036854775807; (try simp only [lenS]); omega))) | ((with_reducible show AllBe ..); refine allBe fun βe => ?_; conv => whnf) | ((with_reducible show bothX ..); refine bothI ?_ ?_; conv => whnf) | (with_reducible exact trivial) | ((with_reducible show CallN ..); refine call_of env_ok rfl 1000 ?_) | ((with_reducible show XopN ..); refine xop_of env_ok rfl 1000 ?_) | ((with_reducible show CallX ..); first | fail) | ((with_reducible show OpX ..); first | (refine opx_store env_ok 0 (u := .int .i64 (((dx + r * 10) / 2 : Nat) : Int)) rfl rfl rfl rfl (fun β => by simp only [SV.den]; congr 1; omega) rfl rfl (by omega) ?_)) | ((with_reducible show ∃ _ : SV, _); first | (refine ⟨_, ?ok, x_len Tryz.underlying70, ?_⟩; (case ok => exact fun _ _ => trivial)) | (refine ⟨_, ?ok, x_index (j := i) (by omega) Tryz.underlying70 (fun w => Tryz.sizeOf3 w) (by omega), ?_⟩; (case ok => exact fun _ _ => rfl)) | (refine ⟨.int .i64 (dx : Nat), fun _ _ => trivial, x_load1 (fun w => Tryz.isAgg3 w) (fun w' hb β => by rw [Nat.mul_one]; exact r1 w' hb), ?_⟩) | (refine ⟨_, ?ok, x_rem (by omega) (by omega), ?_⟩; (case ok => exact fun _ _ => trivial)) | (refine ⟨_, ?ok, x_quo (by omega) (by omega) (by simp only [inK]; omega), ?_⟩; (case ok => exact fun _ _ => trivial))) | ((with_reducible show ∃ _, _); first | fail))
    refine hI _ ⟨(i, ExP.upd 10 V i ((dx + r * 10) / 2), (dx + r * 10) % 2), by dsimp only; omega, hD1⟩ (by dsimp only; omega) (by dsimp only; ((with_reducible show wk _ _); repeat' (first | exact trivial | exact eqSV_refl _ | (refine eqI ?_) | (refine eqS ?_) | (with_reducible exact rfl) | apply And.intro | exact Nat.zero_lt_one | exact Nat.le_of_ble_eq_true rfl | (with_reducible assumption) | ((show (_ : Int) = _); (try dsimp only); omega) | ((show eqSV _ _); simp [eqSV, isB, bval, *]; done) | rfl)); all_goals (rw [Nat.mul_one, valsK_set, hset]; exact fun b x h => h))
end Go.Proofs.YtdkhkfdenlabaaaGreatDoor
namespace Go.Proofs.YtdkhkfdenlabaaaGreatDoor
open Go.RowKit
open Sym
attribute [local irreducible] Calls Sym.AggEq ExP.nd ExP.dig ExP.upd
theorem ExP.cmpS_ge {x y : Nat} : 0 ≤ ExP.cmpS x y ↔ y ≤ x := by
  unfold ExP.cmpS
  split
  · constructor <;> intro h <;> omega
  · split <;> constructor <;> intro h <;> omega
theorem ExP.set_zero {n V i : Nat} (h : ExP.dig 10 i V = 0) : (ExP.dgN 10 n V).set i 0 = ExP.dgN 10 n V := by
  rw [ExP.dgN_set (by omega) (by omega)]
  have e := ExP.upd_eq 10 V i 0
  rw [h] at e
  congr 1; omega
structure RvI (x y n : Nat) (t : DvT) : Prop where
  hj : t.j ≤ n
  d : ExP.DivI 10 x y t.j t.V t.r
  hn : t.ra = none → t.rc = 0
  hc : ExP.nd 10 t.r ≤ t.rc
structure RwT where
  t : Nat
  ra : Option Addr
  rc : Nat
set_option maxRecDepth 100000 in
set_option maxHeartbeats 4000000 in
theorem rdivide_any (a b : Option Addr) (ca cb x y : Nat) (w : World) (hw0 : 0 < w.heap.size) (hx : ExP.nd 10 x ≤ 40000000) (hy : ExP.nd 10 y ≤ 40000000) (hy0 : 0 < y) (hs : SlAt a (nv .i64 10 x) w) (ht : SlAt b (nv .i64 10 y) w) :
    Calls Tryz.prog 156 #[.slice a (ExP.nd 10 x) ca, .slice b (ExP.nd 10 y) cb] w (NatOut2 .i64 10 (x / y) (x % y) w) := by
  obtain ⟨i0, hi, hz0, hz1, hz2⟩ := info_parts intInfo
  have hu := Tryz.underlying70
  have hsz := fun w => Tryz.sizeOf3 w
  have hzv := fun w => Tryz.zeroValue3 w
  have hgx := fun i (h : i < ExP.nd 10 x) => nv_get (k := .i64) h
  have hnx := nv_ne (k := .i64) (b := 10) (x := x)
  have hdx := fun i => ExP.dig_lt (b := 10) (by omega) i x
  have hxl := ExP.nd_lt (b := 10) (by omega) x
  have hTR := fun g (V : Nat) (w' : World) (hV : V < 10 ^ (ExP.nd 10 x)) hs' => rtrim_any (some ⟨g, 0, none⟩) (ExP.nd 10 x) (ExP.nd 10 x) V w' hV (Nat.le_refl _) (by omega) hs'
  have hCM := fun (a' : Option Addr) (c' R : Nat) (w' : World) (hR : ExP.nd 10 R ≤ 100000000) hb h => rcompare_any a' b c' cb R y w' hR (by omega) h (SlAt.below ht hb)
  have hLS := fun (a' : Option Addr) (c' R : Nat) (w' : World) (hR : ExP.nd 10 R ≤ 100000000) (hle : y ≤ R) hb h => rless_any a' b c' cb R y w' hR (by omega) hle h (SlAt.below ht hb)
  refine enter env_ok Tryz.func156 rfl Tryz.results156 Tryz.ntmps156 [] [] [.any (.slice a (ExP.nd 10 x) ca), .any (.slice b (ExP.nd 10 y) cb)] ⟨rfl, rfl, trivial⟩ (Nat.le_of_ble_eq_true rfl) w _ 1000 ?_
  generalize ExP.nd 10 x = n at *
  generalize hMY : ExP.nd 10 y = m at *
  repeat' (first | ((with_reducible first | show wpS .. | show putD .. | show putW .. | show splitG .. | show wpQ .. | show wpD .. | show wpX .. | show expX .. | show stepX .. | show keepR .. | show wpY ..); conv => whnf) | ((with_reducible show RetN ..); refine retB fun β => ?_) | ((with_reducible show _ ∧ _); first | (refine ⟨fun h => absurd h (by first | omega | decide), fun _ => ?_⟩) | (refine ⟨fun _ => ?_, fun h => absurd h (by first | omega | decide)⟩) | (refine ⟨fun _ => ?_, fun _ => ?_⟩) | (apply And.intro; · kernel_rfl) | (apply And.intro; · (show inK _ _; unfold inK; omega)) | (apply And.intro; · (show (_ : Int) ≤ 9223372036854775807; (try simp only [lenS]); omega))) | ((with_reducible show AllBe ..); refine allBe fun βe => ?_; conv => whnf) | ((with_reducible show bothX ..); refine bothI ?_ ?_; conv => whnf) | (with_reducible exact trivial) | ((with_reducible show CallN ..); refine call_of env_ok rfl 1000 ?_) | ((with_reducible show XopN ..); refine xop_of env_ok rfl 1000 ?_) | ((with_reducible show CallX ..); first | fail) | ((with_reducible show OpX ..); first | (refine opx_make (m := n) rfl (by omega) rfl rfl hu hi hz0 hz1 rfl (by rw [hz2]; omega) (by unfold maxLen; omega) (fun g => ?_))) | ((with_reducible show ∃ _ : SV, _); first | (refine ⟨_, ?ok, x_len Tryz.underlying70, ?_⟩; (case ok => exact fun _ _ => trivial))) | ((with_reducible show ∃ _, _); first | fail))
  rw [rep_row 10]
  refine loop_learn0 hw0 ?_
  refine loop env_ok rfl (T := {t : DvT // RvI x y n t}) (fun t => ⟨[(0, .any (.slice a n ca)), (1, .any (.slice b m cb)), (6, .any (.slice (some ⟨g, 0, none⟩) n n)), (7, .any (.slice t.1.ra (ExP.nd 10 t.1.r) t.1.rc)), (8, .int .i64 ((t.1.j : Nat) - 1 : Int))], [(0, true, .blob (OwnS 3 1 g n n (valsK .i64 (ExP.dgN 10 n t.1.V)))), (1, false, .blob (SlF w.heap.size t.1.ra (nv .i64 10 t.1.r)))], 2, 43⟩) (fun t => t.1.j) ⟨⟨n, 0, 0, none, 0⟩, ⟨Nat.le_refl _, ExP.div_start hxl, fun _ => rfl, by rw [ExP.nd_zero]; exact Nat.le_refl _⟩⟩ 1000 [] [] (fun _ => by exact Nat.zero_le _) (by dsimp only; rw [nv_nil0, ExP.nd_zero]; ((with_reducible show wk _ _); repeat' (first | exact trivial | exact eqSV_refl _ | (refine eqI ?_) | (refine eqS ?_) | (with_reducible exact rfl) | apply And.intro | exact Nat.zero_lt_one | exact Nat.le_of_ble_eq_true rfl | (with_reducible assumption) | ((show (_ : Int) = _); (try dsimp only); omega) | ((show eqSV _ _); simp [eqSV, isB, bval, *]; done) | rfl)); all_goals exact fun b x h => h) (fun t I hI => ?_)
  obtain ⟨⟨j, V, r, ra, rc⟩, hj, hD, hn, hc⟩ := t
  dsimp only at hj hD hn hc ⊢
  by_cases hj0 : j = 0
  · subst hj0
    obtain ⟨rfl, rfl⟩ := ExP.div_end hD
    have hl := ExP.div_lt (by omega) hD hxl
    repeat' (first | ((with_reducible first | show wpS .. | show putD .. | show putW .. | show splitG .. | show wpQ .. | show wpD .. | show wpX .. | show expX .. | show stepX .. | show keepR .. | show wpY ..); conv => whnf) | ((with_reducible show RetN ..); refine retB fun β => ?_) | ((with_reducible show _ ∧ _); first | (refine ⟨fun h => absurd h (by first | omega | decide), fun _ => ?_⟩) | (refine ⟨fun _ => ?_, fun h => absurd h (by first | omega | decide)⟩) | (refine ⟨fun _ => ?_, fun _ => ?_⟩) | (apply And.intro; · kernel_rfl) | (apply And.intro; · (show inK _ _; unfold inK; omega)) | (apply And.intro; · (show (_ : Int) ≤ 9223372036854775807; (try simp only [lenS]); omega))) | ((with_reducible show AllBe ..); refine allBe fun βe => ?_; conv => whnf) | ((with_reducible show bothX ..); refine bothI ?_ ?_; conv => whnf) | (with_reducible exact trivial) | ((with_reducible show CallN ..); refine call_of env_ok rfl 1000 ?_) | ((with_reducible show XopN ..); refine xop_of env_ok rfl 1000 ?_) | ((with_reducible show CallX ..); first | (refine callX (.any (.slice (some ⟨g, 0, none⟩) (ExP.nd 10 (x / y)) n)) (by kernel_rfl) rfl (rfl) (fun β w hm => hTR g (x / y) w hl (Mem.own hm 0 rfl).1) ?_)) | ((with_reducible show OpX ..); first | fail) | ((with_reducible show ∃ _ : SV, _); first | fail) | ((with_reducible show ∃ _, _); first | fail))
    refine ret fun β w' hm => ?_
    obtain ⟨q1, q2, q3⟩ := Mem.own hm 0 rfl
    have hle := ExP.nd_le (b := 10) (by omega) hl
    exact ⟨_, n, ra, rc, rfl, ⟨sl_pre q1 (dgN_pre hle .i64), fresh_own q2 rfl, (fun h => by cases h), hle⟩, ⟨Mem.slF hm 1 rfl, Mem.freshF hm 1 rfl rfl, hn, hc⟩, hm.below⟩
  · obtain ⟨i, rfl⟩ : ∃ i, j = i + 1 := ⟨j - 1, by omega⟩
    obtain ⟨ad, rfl⟩ := SlAt.some hs (hnx (by omega))
    have r1 := sl_read hs (hgx i (by omega))
    have hdx := hdx i
    have hry : r < y := by rw [hD.r]; exact Nat.mod_lt _ hy0
    obtain ⟨hD1, hq⟩ := ExP.div_next (by omega) hy0 hD rfl
    have hrn := ExP.nd_mono (b := 10) (by omega) (Nat.le_of_lt hry)
    rw [hMY] at hrn
    have hRl := ExP.cons_lt hdx (ExP.nd_lt (b := 10) (by omega) r)
    have hcons := ExP.cons_dg (b := 10) (r := r) (by omega) hdx (ExP.nd 10 r)
    have hset := fun d (hd : d < 10) => ExP.dgN_set (b := 10) (n := n) (V := V) (j := i) (d := d) (by omega) hd
    have hv0 : ExP.dig 10 i V = 0 := by rw [hD.v]; exact ExP.mul_pow_dig (by omega)
    have hz := ExP.set_zero (n := n) hv0
    have hnl := nv_len .i64 10 r
    have hrow : ([.int .i64 ((ExP.dig 10 i x : Nat) : Int)] : List Value) ++ nv .i64 10 r = valsK .i64 (ExP.dgN 10 (1 + ExP.nd 10 r) (ExP.dig 10 i x + r * 10)) := by rw [Nat.add_comm 1, hcons]; rfl
    generalize ExP.dig 10 i x = dx at *
    generalize hR : dx + r * 10 = R at *
    have hRn := ExP.nd_le (b := 10) (by omega) hRl
    have hmod : R % y = R - y * (R / y) := by have := Nat.div_add_mod R y; omega
    rw [hmod] at hD1
    have hT2 := fun g (c : Nat) hc (w' : World) hs' => rtrim_any (some ⟨g, 0, none⟩) (1 + ExP.nd 10 r) c R w' (by rw [Nat.add_comm]; exact hRl) hc (by omega) hs'
    have hpre := dgN_pre (b := 10) (x := R) (by omega : ExP.nd 10 R ≤ 1 + ExP.nd 10 r) .i64
    have hmn := fun z (h : z ≤ R) => ExP.nd_mono (b := 10) (by omega) h
    repeat' (first | ((with_reducible first | show wpS .. | show putD .. | show putW .. | show splitG .. | show wpQ .. | show wpD .. | show wpX .. | show expX .. | show stepX .. | show keepR .. | show wpY ..); conv => whnf) | ((with_reducible show RetN ..); refine retB fun β => ?_) | ((with_reducible show _ ∧ _); first | (refine ⟨fun h => absurd h (by first | omega | decide), fun _ => ?_⟩) | (refine ⟨fun _ => ?_, fun h => absurd h (by first | omega | decide)⟩) | (refine ⟨fun _ => ?_, fun _ => ?_⟩) | (apply And.intro; · kernel_rfl) | (apply And.intro; · (show inK _ _; unfold inK; omega)) | (apply And.intro; · (show (_ : Int) ≤ 9223372036854775807; (try simp only [lenS]); omega))) | ((with_reducible show AllBe ..); refine allBe fun βe => ?_; conv => whnf) | ((with_reducible show bothX ..); refine bothI ?_ ?_; conv => whnf) | (with_reducible exact trivial) | ((with_reducible show CallN ..); refine call_of env_ok rfl 1000 ?_) | ((with_reducible show XopN ..); refine xop_of env_ok rfl 1000 ?_) | ((with_reducible show CallX ..); first | (refine callX (.any (.slice (some ⟨g2, 0, none⟩) (ExP.nd 10 R) cap2)) (by kernel_rfl) rfl (rfl) (fun β w hm => hT2 g2 cap2 (Mem.own hm 2 rfl).2.2 w (by have := (Mem.own hm 2 rfl).1; rw [hrow] at this; exact this)) ?_)) | ((with_reducible show OpX ..); first | (refine opx_build1 (sz := 1) rfl rfl rfl (xs := [.int .i64 (dx : Nat)]) (fun β => rfl) rfl (by omega) (by omega) hu hsz hzv (fun g1 => ?_)) | (refine opx_appendW (sz := 1) 2 (ys := nv .i64 10 r) rfl hu hi hz0 hz1 rfl (by omega) rfl rfl rfl hn (by rw [Nat.mul_one]; exact hnl) (fun β w' hm => Mem.slF hm 1 rfl) (by unfold maxLen; omega) (by rw [hz2]; omega) (valsK_one _ _) (by kernel_rfl) (Nat.zero_le _) (fun g2 cap2 => ?_))) | ((with_reducible show ∃ _ : SV, _); first | (refine ⟨_, ?ok, x_len Tryz.underlying70, ?_⟩; (case ok => exact fun _ _ => trivial)) | (refine ⟨_, ?ok, x_index (j := i) (by omega) Tryz.underlying70 (fun w => Tryz.sizeOf3 w) (by omega), ?_⟩; (case ok => exact fun _ _ => rfl)) | (refine ⟨.int .i64 (dx : Nat), fun _ _ => trivial, x_load1 (fun w => Tryz.isAgg3 w) (fun w' hb β => by rw [Nat.mul_one]; exact r1 w' hb), ?_⟩)) | ((with_reducible show ∃ _, _); first | fail))
    rw [hrow]
    refine loop_share 2 (nv .i64 10 R) rfl hpre (fun hcap2 => ?_)
    refine loop env_ok rfl (T := {t : RwT // t.t ≤ R / y ∧ (t.ra = none → t.rc = 0) ∧ ExP.nd 10 (R - y * t.t) ≤ t.rc}) (fun t => ⟨[(0, .any (.slice (some ad) n ca)), (1, .any (.slice b m cb)), (6, .any (.slice (some ⟨g, 0, none⟩) n n)), (7, .any (.slice t.1.ra (ExP.nd 10 (R - y * t.1.t)) t.1.rc)), (8, .int .i64 (((i + 1 : Nat) : Int) - 1))], [(0, true, .blob (OwnS 3 1 g n n (valsK .i64 ((ExP.dgN 10 n V).set i t.1.t)))), (2, false, .blob (SlF w.heap.size t.1.ra (nv .i64 10 (R - y * t.1.t))))], 3, 43⟩) (fun t => R / y - t.1.t) ⟨⟨0, some ⟨g2, 0, none⟩, cap2⟩, Nat.zero_le _, (fun h => by cases h), by dsimp only; rw [Nat.mul_zero, Nat.sub_zero]; omega⟩ 1000 [] [] (fun _ => by exact Nat.zero_le _) (by dsimp only; rw [hz, Nat.mul_zero, Nat.sub_zero]; ((with_reducible show wk _ _); repeat' (first | exact trivial | exact eqSV_refl _ | (refine eqI ?_) | (refine eqS ?_) | (with_reducible exact rfl) | apply And.intro | exact Nat.zero_lt_one | exact Nat.le_of_ble_eq_true rfl | (with_reducible assumption) | ((show (_ : Int) = _); (try dsimp only); omega) | ((show eqSV _ _); simp [eqSV, isB, bval, *]; done) | rfl)); all_goals exact fun b x h => h) (fun t I2 hI2 => ?_)
    obtain ⟨⟨t, ra2, rc2⟩, ht1, hn2, hc2⟩ := t
    dsimp only at ht1 hn2 hc2 ⊢
    have hyt : y * t ≤ R := Nat.le_trans (Nat.mul_le_mul_left _ ht1) (Nat.mul_div_le R y)
    have hcm := ExP.cmpS_ge (x := R - y * t) (y := y)
    have hnr := hmn (R - y * t) (by omega)
    have hCM := fun w' => hCM ra2 rc2 (R - y * t) w' (by omega)
    by_cases hlt : y ≤ R - y * t
    · have ht2 : t + 1 ≤ R / y := by rw [Nat.le_div_iff_mul_le hy0, Nat.mul_comm, Nat.mul_add]; omega
      have hLS := fun w' => hLS ra2 rc2 (R - y * t) w' (by omega) hlt
      have hsub : R - y * t - y = R - y * (t + 1) := by rw [Nat.mul_add]; omega
      rw [hsub] at hLS
      generalize ExP.cmpS (R - y * t) y = cv at *
      repeat' (first | ((with_reducible first | show wpS .. | show putD .. | show putW .. | show splitG .. | show wpQ .. | show wpD .. | show wpX .. | show expX .. | show stepX .. | show keepR .. | show wpY ..); conv => whnf) | ((with_reducible show RetN ..); refine retB fun β => ?_) | ((with_reducible show _ ∧ _); first | (refine ⟨fun h => absurd h (by first | omega | decide), fun _ => ?_⟩) | (refine ⟨fun _ => ?_, fun h => absurd h (by first | omega | decide)⟩) | (refine ⟨fun _ => ?_, fun _ => ?_⟩) | (apply And.intro; · kernel_rfl) | (apply And.intro; · (show inK _ _; unfold inK; omega)) | (apply And.intro; · (show (_ : Int) ≤ 9223372036854775807; (try simp only [lenS]); omega))) | ((with_reducible show AllBe ..); refine allBe fun βe => ?_; conv => whnf) | ((with_reducible show bothX ..); refine bothI ?_ ?_; conv => whnf) | (with_reducible exact trivial) | ((with_reducible show CallN ..); refine call_of env_ok rfl 1000 ?_) | ((with_reducible show XopN ..); refine xop_of env_ok rfl 1000 ?_) | ((with_reducible show CallX ..); first | (refine callX (.int .i64 cv) (by kernel_rfl) rfl (trivial) (fun β w hm => hCM w hm.below (Mem.slF hm 2 rfl)) ?_) | (refine callNat .i64 10 (R - y * (t + 1)) hw0 (by kernel_rfl) rfl (fun β w' hm => hLS w' hm.below (Mem.slF hm 2 rfl)) (fun ua uca h1 h2 h3 => ?_))) | ((with_reducible show OpX ..); first | (refine opx_store env_ok 0 (u := .int .i64 ((t + 1 : Nat) : Int)) rfl rfl rfl rfl (fun β => by simp [SV.den]) rfl rfl (by omega) ?_)) | ((with_reducible show ∃ _ : SV, _); first | (refine ⟨_, ?ok, x_len Tryz.underlying70, ?_⟩; (case ok => exact fun _ _ => trivial)) | (refine ⟨_, ?ok, x_index (j := i) (by omega) Tryz.underlying70 (fun w => Tryz.sizeOf3 w) (by omega), ?_⟩; (case ok => exact fun _ _ => rfl)) | (refine ⟨.int .i64 (t : Nat), fun _ _ => trivial, x_loadO 0 (.int .i64 (t : Nat)) (fun w => Tryz.isAgg3 w) rfl (fun β => by rw [Nat.mul_one]; refine valsK_get ?_; rw [List.getElem?_set_self (by rw [ExP.dgN_len]; omega)]), ?_⟩)) | ((with_reducible show ∃ _, _); first | fail))
      refine back_copy 2 3 rfl rfl rfl (Nat.zero_le _) (by kernel_rfl) ?_
      refine hI2 _ ⟨⟨t + 1, ua, uca⟩, ht2, h1, h2⟩ (by dsimp only; omega) (by dsimp only; ((with_reducible show wk _ _); repeat' (first | exact trivial | exact eqSV_refl _ | (refine eqI ?_) | (refine eqS ?_) | (with_reducible exact rfl) | apply And.intro | exact Nat.zero_lt_one | exact Nat.le_of_ble_eq_true rfl | (with_reducible assumption) | ((show (_ : Int) = _); (try dsimp only); omega) | ((show eqSV _ _); simp [eqSV, isB, bval, *]; done) | rfl)); all_goals first | exact fun b x h => h | (rw [Nat.mul_one, valsK_set, List.set_set]; exact fun b x h => h))
    · have hte : t = R / y := by
        refine Nat.le_antisymm ht1 (Nat.le_of_lt_succ ?_)
        rw [Nat.div_lt_iff_lt_mul hy0, Nat.succ_mul, Nat.mul_comm]; omega
      subst hte
      rw [hset _ hq]
      generalize ExP.cmpS (R - y * (R / y)) y = cv at *
      repeat' (first | ((with_reducible first | show wpS .. | show putD .. | show putW .. | show splitG .. | show wpQ .. | show wpD .. | show wpX .. | show expX .. | show stepX .. | show keepR .. | show wpY ..); conv => whnf) | ((with_reducible show RetN ..); refine retB fun β => ?_) | ((with_reducible show _ ∧ _); first | (refine ⟨fun h => absurd h (by first | omega | decide), fun _ => ?_⟩) | (refine ⟨fun _ => ?_, fun h => absurd h (by first | omega | decide)⟩) | (refine ⟨fun _ => ?_, fun _ => ?_⟩) | (apply And.intro; · kernel_rfl) | (apply And.intro; · (show inK _ _; unfold inK; omega)) | (apply And.intro; · (show (_ : Int) ≤ 9223372036854775807; (try simp only [lenS]); omega))) | ((with_reducible show AllBe ..); refine allBe fun βe => ?_; conv => whnf) | ((with_reducible show bothX ..); refine bothI ?_ ?_; conv => whnf) | (with_reducible exact trivial) | ((with_reducible show CallN ..); refine call_of env_ok rfl 1000 ?_) | ((with_reducible show XopN ..); refine xop_of env_ok rfl 1000 ?_) | ((with_reducible show CallX ..); first | (refine callX (.int .i64 cv) (by kernel_rfl) rfl (trivial) (fun β w hm => hCM w hm.below (Mem.slF hm 2 rfl)) ?_)) | ((with_reducible show OpX ..); first | fail) | ((with_reducible show ∃ _ : SV, _); first | fail) | ((with_reducible show ∃ _, _); first | fail))
      refine back_copy 1 2 rfl rfl rfl (Nat.zero_le _) (by kernel_rfl) ?_
      refine hI _ ⟨⟨i, ExP.upd 10 V i (R / y), R - y * (R / y), ra2, rc2⟩, ⟨by dsimp only; omega, hD1, hn2, hc2⟩⟩ (by dsimp only; omega) (by dsimp only; ((with_reducible show wk _ _); repeat' (first | exact trivial | exact eqSV_refl _ | (refine eqI ?_) | (refine eqS ?_) | (with_reducible exact rfl) | apply And.intro | exact Nat.zero_lt_one | exact Nat.le_of_ble_eq_true rfl | (with_reducible assumption) | ((show (_ : Int) = _); (try dsimp only); omega) | ((show eqSV _ _); simp [eqSV, isB, bval, *]; done) | rfl)); all_goals exact fun b x h => h)
end Go.Proofs.YtdkhkfdenlabaaaGreatDoor
namespace Go.Proofs.YtdkhkfdenlabaaaGreatDoor
open Go.RowKit
open Sym
attribute [local irreducible] Calls Sym.AggEq ExP.nd ExP.dig ExP.upd
theorem ExP.decFrom_val : ∀ (s : List UInt8) (n : Nat), s.all ExP.digC = true → Lib.decFrom n s = some (ExP.valF n s)
  | [], _, _ => by rw [ExP.valF_nil]; rfl
  | c :: r, n, h => by
    simp only [List.all_cons, Bool.and_eq_true] at h
    have hc := h.1
    unfold ExP.digC at hc
    simp only [Bool.and_eq_true, decide_eq_true_eq, UInt8.le_iff_toNat_le] at hc
    have hv : Lib.digitVal c = some (c.toNat - 48) := by
      unfold Lib.digitVal; rw [if_pos (by simpa using hc)]
    rw [Lib.decFrom, hv]
    dsimp only
    rw [ExP.decFrom_val r _ h.2, ExP.valF_cons]
theorem ExP.atoi_val (s : List UInt8) (h0 : s ≠ []) (h : s.all ExP.digC = true) : Lib.atoi s = some (ExP.valS s : Int) := by
  cases s with
  | nil => exact absurd rfl h0
  | cons c r =>
    have hc : ExP.digC c = true := by simp only [List.all_cons, Bool.and_eq_true] at h; exact h.1
    have hc := ExP.digC_nat.1 hc
    have h45 : (c == 45) = false := by rw [beq_eq_false_iff_ne]; intro e; rw [e] at hc; simp at hc
    have h43 : (c == 43) = false := by rw [beq_eq_false_iff_ne]; intro e; rw [e] at hc; simp at hc
    have e : Lib.decNat (c :: r) = some (ExP.valS (c :: r)) := by
      unfold Lib.decNat; rw [ExP.decFrom_val _ _ h]; rfl
    simp [Lib.atoi, h45, h43, e]
theorem atoi_any (s : List UInt8) (w : World) (h0 : s ≠ []) (hl : s.length ≤ 18) (h : s.all ExP.digC = true) : Calls Tryz.prog 177 #[.string (bstr s)] w fun e w' => e = .returned (.tuple #[.int .i64 (ExP.valS s : Int), .nilIface]) ∧ Below w.heap.size w w' := by
  refine (Tryz.strconv_Atoi (bstr s) _ (by rw [bstr_size]; exact hl) (ExP.atoi_val s h0 h) w).mono ?_
  rintro e w' ⟨h, t, rfl⟩
  exact ⟨h, Lib.bytesWorld_below _ _ _⟩
abbrev apJ32 (fr : List (Nat × SV)) (d n i : Nat) (g cap : Nat) (xs : List Value) : St := match i with
  | 0 => ⟨(d, .any (.slice none 0 0)) :: fr, [], 0, n⟩
  | i + 1 => ⟨(d, .any (.slice (some ⟨g, 0, none⟩) (i + 1) cap)) :: fr, [(1, true, .blob (OwnS 161 1 g (i + 1) cap xs))], 2, n⟩
theorem all_drop {p : UInt8 → Bool} {s : List UInt8} (h : s.all p = true) (n : Nat) : (s.drop n).all p = true := by
  rw [List.all_eq_true] at h ⊢
  exact fun x hx => h x (List.mem_of_mem_drop hx)
theorem all_take {p : UInt8 → Bool} {s : List UInt8} (h : s.all p = true) (n : Nat) : (s.take n).all p = true := by
  rw [List.all_eq_true] at h ⊢
  exact fun x hx => h x (List.mem_of_mem_take hx)
structure PsT where
  i : Nat
  m : Nat
  g : Nat
  cap : Nat
set_option maxRecDepth 100000 in
set_option maxHeartbeats 2000000 in
theorem parse_any (s : List UInt8) (w : World) (hs : s.length ≤ 1000000) (hd : s.all ExP.digC = true) : Calls Tryz.prog 166 #[.string (bstr s)] w (NatOut .u32 1000000000 (ExP.valS s) w) := by
  obtain ⟨i0, hi, hz0, hz1, hz2⟩ := info_parts u32Info
  have hu := Tryz.underlying137
  have hsz := fun w => Tryz.sizeOf161 w
  have hzv := fun w => Tryz.zeroValue161 w
  have e9 : (1000000000 : Nat) = 10 ^ 9 := by decide
  have hVl : ∀ m i, s.length - m ≤ 9 * i → ExP.valS (s.drop m) < 1000000000 ^ i := fun m i h => by
    have h1 := ExP.val_lt _ (all_drop hd m)
    rw [List.length_drop] at h1
    rw [e9, ← Nat.pow_mul]
    exact Nat.lt_of_lt_of_le h1 (Nat.pow_le_pow_right (by omega) h)
  refine enter env_ok Tryz.func166 rfl Tryz.results166 Tryz.ntmps166 [] [] [.str s] (by simp [SV.oks, SV.ok]) (Nat.le_of_ble_eq_true rfl) w _ 1000 ?_
  repeat' (first | ((with_reducible first | show wpS .. | show putD .. | show putW .. | show splitG .. | show wpQ .. | show wpD .. | show wpX .. | show expX .. | show stepX .. | show keepR .. | show wpY ..); conv => whnf) | ((with_reducible show RetN ..); refine retB fun β => ?_) | ((with_reducible show _ ∧ _); first | (refine ⟨fun h => absurd h (by first | omega | decide), fun _ => ?_⟩) | (refine ⟨fun _ => ?_, fun h => absurd h (by first | omega | decide)⟩) | (refine ⟨fun _ => ?_, fun _ => ?_⟩) | (apply And.intro; · kernel_rfl) | (apply And.intro; · (show inK _ _; unfold inK; omega)) | (apply And.intro; · (show (_ : Int) ≤ 9223372036854775807; (try simp only [lenS]); omega))) | ((with_reducible show AllBe ..); refine allBe fun βe => ?_; conv => whnf) | ((with_reducible show bothX ..); refine bothI ?_ ?_; conv => whnf) | (with_reducible exact trivial) | ((with_reducible show CallN ..); refine call_of env_ok rfl 1000 ?_) | ((with_reducible show XopN ..); refine xop_of env_ok rfl 1000 ?_) | ((with_reducible show CallX ..); first | fail) | ((with_reducible show OpX ..); first | fail) | ((with_reducible show ∃ _ : SV, _); first | fail) | ((with_reducible show ∃ _, _); first | fail))
  refine loop env_ok rfl (T := {t : PsT // t.m ≤ s.length ∧ s.length - t.m ≤ 9 * t.i ∧ (0 < t.m → s.length - t.m = 9 * t.i) ∧ t.i ≤ s.length}) (fun t => apJ32 [(0, .str (s.take t.1.m))] 3 31 t.1.i t.1.g t.1.cap (valsK .u32 (ExP.dgN 1000000000 t.1.i (ExP.valS (s.drop t.1.m))))) (fun t => t.1.m) ⟨⟨0, s.length, 0, 0⟩, Nat.le_refl _, by dsimp only; omega, fun _ => by dsimp only; omega, Nat.zero_le _⟩ 1000 [] [] (fun t => by exact Nat.zero_le _) (by dsimp only [apJ32]; rw [List.take_of_length_le (Nat.le_refl _)]; ((with_reducible show wk _ _); repeat' (first | exact trivial | exact eqSV_refl _ | (refine eqI ?_) | (refine eqS ?_) | (with_reducible exact rfl) | apply And.intro | exact Nat.zero_lt_one | exact Nat.le_of_ble_eq_true rfl | (with_reducible assumption) | ((show (_ : Int) = _); (try dsimp only); omega) | ((show eqSV _ _); simp [eqSV, isB, bval, *]; done) | rfl))) (fun t I hI => ?_)
  obtain ⟨⟨i, m, g, cap⟩, hm, hl1, hl2, hil⟩ := t
  dsimp only at hm hl1 hl2 hil ⊢
  have hV := hVl m i hl1
  have htl : (s.take m).length = m := by rw [List.length_take]; omega
  by_cases hm0 : 0 < m
  · have hl2 := hl2 hm0
    obtain ⟨q, hq⟩ : ∃ q, q = m - 9 := ⟨_, rfl⟩
    have hck : ((s.take m).drop q).length = m - q := by rw [List.length_drop, htl]
    have hcd : ((s.take m).drop q).all ExP.digC = true := all_drop (all_take hd m) q
    have hcn := ExP.val_lt _ hcd
    have hcb : ExP.valS ((s.take m).drop q) < 1000000000 := by
      rw [hck] at hcn
      exact Nat.lt_of_lt_of_le hcn (by rw [e9]; exact Nat.pow_le_pow_right (by omega) (by omega))
    have hA := fun w => atoi_any ((s.take m).drop q) w (fun e => by rw [e] at hck; simp at hck; omega) (by omega) hcd
    have hVq : ExP.valS (s.drop q) = ExP.valS (s.drop m) + ExP.valS ((s.take m).drop q) * 1000000000 ^ i := by
      have e : s.drop q = (s.take m).drop q ++ s.drop m := by
        have h1 : s = s.take m ++ s.drop m := (List.take_append_drop m s).symm
        conv => lhs; rw [h1]
        rw [List.drop_append_of_le_length (by rw [htl]; omega)]
      rw [e, ExP.val_append, List.length_drop, hl2, e9, ← Nat.pow_mul, Nat.add_comm]
    have hrow := fun (v : Int) (hv : v = ((ExP.valS ((s.take m).drop q) : Nat) : Int)) => ExP.row_snoc (k := .u32) (b := 1000000000) (i := i) (S := ExP.valS (s.drop m)) (by omega) hV hcb hv
    rw [← hVq] at hrow
    have htt : (s.take m).take q = s.take q := by rw [List.take_take, Nat.min_eq_left (by omega)]
    generalize ExP.valS ((s.take m).drop q) = cv at *
    cases i with
    | zero =>
      dsimp only [apJ32]
      repeat' (first | ((with_reducible first | show wpS .. | show putD .. | show putW .. | show splitG .. | show wpQ .. | show wpD .. | show wpX .. | show expX .. | show stepX .. | show keepR .. | show wpY ..); conv => whnf) | ((with_reducible show RetN ..); refine retB fun β => ?_) | ((with_reducible show _ ∧ _); first | (refine ⟨fun h => absurd h (by first | omega | decide), fun _ => ?_⟩) | (refine ⟨fun _ => ?_, fun h => absurd h (by first | omega | decide)⟩) | (refine ⟨fun _ => ?_, fun _ => ?_⟩) | (apply And.intro; · kernel_rfl) | (apply And.intro; · (show inK _ _; unfold inK; omega)) | (apply And.intro; · (show (_ : Int) ≤ 9223372036854775807; (try simp only [lenS]); omega))) | ((with_reducible show AllBe ..); refine allBe fun βe => ?_; conv => whnf) | ((with_reducible show bothX ..); refine bothI ?_ ?_; conv => whnf) | (with_reducible exact trivial) | ((with_reducible show CallN ..); refine call_of env_ok rfl 1000 ?_) | ((with_reducible show XopN ..); refine xop_of env_ok rfl 1000 ?_) | ((with_reducible show CallX ..); first | (refine callX (.tup [.int .i64 (cv : Nat), .any .nilIface]) (by kernel_rfl) rfl (⟨trivial, rfl, trivial⟩) (fun β w hm => hA w) ?_)) | ((with_reducible show OpX ..); first | (refine opx_build1 (sz := 1) rfl rfl rfl (xs := [.int .u32 (cv : Nat)]) (fun β => rfl) rfl (by omega) (by omega) hu hsz hzv (fun g1 => ?_)) | (refine opx_append0 (sz := 1) 0 rfl hu hi hz0 hz1 rfl (by omega) rfl rfl rfl (by unfold maxLen; omega) (by rw [hz2]; omega) (by simp [Value.oneCell']) (by omega) (fun g2 cap2 => ?_))) | ((with_reducible show ∃ _ : SV, _); first | fail) | ((with_reducible show ∃ _, _); first | (refine ⟨q, by rw [htl]; omega, by rw [htl]; omega, ?_⟩)))
      refine hI _ ⟨⟨0 + 1, q, g2, cap2⟩, by dsimp only; omega, by dsimp only; omega, fun h => by dsimp only at h ⊢; omega, by dsimp only; omega⟩ (by dsimp only; omega) (by dsimp only [apJ32]; rw [← hrow _ rfl, ← htt]; ((with_reducible show wk _ _); repeat' (first | exact trivial | exact eqSV_refl _ | (refine eqI ?_) | (refine eqS ?_) | (with_reducible exact rfl) | apply And.intro | exact Nat.zero_lt_one | exact Nat.le_of_ble_eq_true rfl | (with_reducible assumption) | ((show (_ : Int) = _); (try dsimp only); omega) | ((show eqSV _ _); simp [eqSV, isB, bval, *]; done) | rfl)); all_goals (exact fun b x h => h))
    | succ i =>
      dsimp only [apJ32]
      repeat' (first | ((with_reducible first | show wpS .. | show putD .. | show putW .. | show splitG .. | show wpQ .. | show wpD .. | show wpX .. | show expX .. | show stepX .. | show keepR .. | show wpY ..); conv => whnf) | ((with_reducible show RetN ..); refine retB fun β => ?_) | ((with_reducible show _ ∧ _); first | (refine ⟨fun h => absurd h (by first | omega | decide), fun _ => ?_⟩) | (refine ⟨fun _ => ?_, fun h => absurd h (by first | omega | decide)⟩) | (refine ⟨fun _ => ?_, fun _ => ?_⟩) | (apply And.intro; · kernel_rfl) | (apply And.intro; · (show inK _ _; unfold inK; omega)) | (apply And.intro; · (show (_ : Int) ≤ 9223372036854775807; (try simp only [lenS]); omega))) | ((with_reducible show AllBe ..); refine allBe fun βe => ?_; conv => whnf) | ((with_reducible show bothX ..); refine bothI ?_ ?_; conv => whnf) | (with_reducible exact trivial) | ((with_reducible show CallN ..); refine call_of env_ok rfl 1000 ?_) | ((with_reducible show XopN ..); refine xop_of env_ok rfl 1000 ?_) | ((with_reducible show CallX ..); first | (refine callX (.tup [.int .i64 (cv : Nat), .any .nilIface]) (by kernel_rfl) rfl (⟨trivial, rfl, trivial⟩) (fun β w hm => hA w) ?_)) | ((with_reducible show OpX ..); first | (refine opx_build1 (sz := 1) rfl rfl rfl (xs := [.int .u32 (cv : Nat)]) (fun β => rfl) rfl (by omega) (by omega) hu hsz hzv (fun g1 => ?_)) | (refine opx_append (sz := 1) 1 2 rfl hu hi hz0 hz1 rfl (by omega) rfl rfl rfl rfl (by unfold maxLen; omega) (by rw [hz2]; omega) (by simp [Value.oneCell']) (by kernel_rfl) (Nat.zero_le _) (fun g2 cap2 => ?_))) | ((with_reducible show ∃ _ : SV, _); first | fail) | ((with_reducible show ∃ _, _); first | (refine ⟨q, by rw [htl]; omega, by rw [htl]; omega, ?_⟩)))
      refine hI _ ⟨⟨i + 1 + 1, q, g2, cap2⟩, by dsimp only; omega, by dsimp only; omega, fun h => by dsimp only at h ⊢; omega, by dsimp only; omega⟩ (by dsimp only; omega) (by dsimp only [apJ32]; rw [← hrow _ rfl, ← htt]; ((with_reducible show wk _ _); repeat' (first | exact trivial | exact eqSV_refl _ | (refine eqI ?_) | (refine eqS ?_) | (with_reducible exact rfl) | apply And.intro | exact Nat.zero_lt_one | exact Nat.le_of_ble_eq_true rfl | (with_reducible assumption) | ((show (_ : Int) = _); (try dsimp only); omega) | ((show eqSV _ _); simp [eqSV, isB, bval, *]; done) | rfl)); all_goals (exact fun b x h => h))
  · obtain rfl : m = 0 := by omega
    simp only [List.drop_zero] at hV ⊢
    have hle := ExP.nd_le (b := 1000000000) (by omega) hV
    have hTR := fun a (cap : Nat) (w' : World) hc hs' => trim_any a i cap (ExP.valS s) w' hV hc (by omega) hs'
    cases i with
    | zero =>
      dsimp only [apJ32]
      have h0 : ExP.nd 1000000000 (ExP.valS s) = 0 := by omega
      have e : nv .u32 1000000000 (ExP.valS s) = [] := List.length_eq_zero_iff.1 (by rw [nv_len, h0])
      have hT := fun w' => hTR none 0 w' (Nat.le_refl _) (sl_nil _ _)
      rw [h0] at hT
      repeat' (first | ((with_reducible first | show wpS .. | show putD .. | show putW .. | show splitG .. | show wpQ .. | show wpD .. | show wpX .. | show expX .. | show stepX .. | show keepR .. | show wpY ..); conv => whnf) | ((with_reducible show RetN ..); refine retB fun β => ?_) | ((with_reducible show _ ∧ _); first | (refine ⟨fun h => absurd h (by first | omega | decide), fun _ => ?_⟩) | (refine ⟨fun _ => ?_, fun h => absurd h (by first | omega | decide)⟩) | (refine ⟨fun _ => ?_, fun _ => ?_⟩) | (apply And.intro; · kernel_rfl) | (apply And.intro; · (show inK _ _; unfold inK; omega)) | (apply And.intro; · (show (_ : Int) ≤ 9223372036854775807; (try simp only [lenS]); omega))) | ((with_reducible show AllBe ..); refine allBe fun βe => ?_; conv => whnf) | ((with_reducible show bothX ..); refine bothI ?_ ?_; conv => whnf) | (with_reducible exact trivial) | ((with_reducible show CallN ..); refine call_of env_ok rfl 1000 ?_) | ((with_reducible show XopN ..); refine xop_of env_ok rfl 1000 ?_) | ((with_reducible show CallX ..); first | (refine callX (.any (.slice none 0 0)) (by kernel_rfl) rfl (rfl) (fun β w hm => hT w) ?_)) | ((with_reducible show OpX ..); first | fail) | ((with_reducible show ∃ _ : SV, _); first | fail) | ((with_reducible show ∃ _, _); first | fail))
      refine ret fun β w' hm => ?_
      exact ⟨none, 0, by rw [h0]; rfl, by rw [e]; exact sl_nil _ _, fun h => absurd e h, fun _ => rfl, by rw [h0]; exact Nat.le_refl _, hm.below⟩
    | succ i =>
      dsimp only [apJ32]
      repeat' (first | ((with_reducible first | show wpS .. | show putD .. | show putW .. | show splitG .. | show wpQ .. | show wpD .. | show wpX .. | show expX .. | show stepX .. | show keepR .. | show wpY ..); conv => whnf) | ((with_reducible show RetN ..); refine retB fun β => ?_) | ((with_reducible show _ ∧ _); first | (refine ⟨fun h => absurd h (by first | omega | decide), fun _ => ?_⟩) | (refine ⟨fun _ => ?_, fun h => absurd h (by first | omega | decide)⟩) | (refine ⟨fun _ => ?_, fun _ => ?_⟩) | (apply And.intro; · kernel_rfl) | (apply And.intro; · (show inK _ _; unfold inK; omega)) | (apply And.intro; · (show (_ : Int) ≤ 9223372036854775807; (try simp only [lenS]); omega))) | ((with_reducible show AllBe ..); refine allBe fun βe => ?_; conv => whnf) | ((with_reducible show bothX ..); refine bothI ?_ ?_; conv => whnf) | (with_reducible exact trivial) | ((with_reducible show CallN ..); refine call_of env_ok rfl 1000 ?_) | ((with_reducible show XopN ..); refine xop_of env_ok rfl 1000 ?_) | ((with_reducible show CallX ..); first | (refine callX (.any (.slice (some ⟨g, 0, none⟩) (ExP.nd 1000000000 (ExP.valS s)) cap)) (by kernel_rfl) rfl (rfl) (fun β w hm => hTR (some ⟨g, 0, none⟩) cap w (Mem.own hm 1 rfl).2.2 (Mem.own hm 1 rfl).1) ?_)) | ((with_reducible show OpX ..); first | fail) | ((with_reducible show ∃ _ : SV, _); first | fail) | ((with_reducible show ∃ _, _); first | fail))
      refine ret fun β w' hm => ?_
      obtain ⟨q1, q2, q3⟩ := Mem.own hm 1 rfl
      exact ⟨_, cap, rfl, sl_pre q1 (dgN_pre hle .u32), fresh_own q2 rfl, (fun h => by cases h), Nat.le_trans hle q3, hm.below⟩
end Go.Proofs.YtdkhkfdenlabaaaGreatDoor
namespace Go.Proofs
end Go.Proofs
namespace Go.Proofs.YtdkhkfdenlabaaaGreatDoor
open Go.RowKit
open Sym
attribute [local irreducible] Calls Sym.AggEq ExP.nd ExP.dig ExP.upd
theorem dropWhile_nil {p : UInt8 → Bool} : ∀ l : List UInt8, l.dropWhile p = [] ↔ l.all p = true
  | [] => by simp
  | c :: r => by
    by_cases h : p c = true
    · rw [List.dropWhile_cons_of_pos h, dropWhile_nil r, List.all_cons, h, Bool.true_and]
    · rw [List.dropWhile_cons_of_neg h]; simp [h]
def decS : List UInt8 := [48, 49, 50, 51, 52, 53, 54, 55, 56, 57]
set_option maxRecDepth 100000 in
theorem dec_contains (c : UInt8) : decS.contains c = ExP.digC c := by
  have key : ∀ k : Fin 256, decS.contains (UInt8.ofNat k.val) = ExP.digC (UInt8.ofNat k.val) := by decide
  have hc : UInt8.ofNat c.toNat = c := by simp
  have := key ⟨c.toNat, c.toNat_lt⟩
  dsimp only at this
  rw [hc] at this
  exact this
theorem dropWhile_all {p : UInt8 → Bool} : ∀ l : List UInt8, (l.dropWhile p).all p = l.all p
  | [] => rfl
  | c :: r => by
    by_cases h : p c = true
    · rw [List.dropWhile_cons_of_pos h, dropWhile_all r, List.all_cons, h, Bool.true_and]
    · rw [List.dropWhile_cons_of_neg h]
theorem trim_nil (s : List UInt8) : Lib.trimS s decS = [] ↔ s.all ExP.digC = true := by
  have hp : (fun c => decS.contains c) = ExP.digC := funext dec_contains
  unfold Lib.trimS Lib.trimRightS Lib.trimLeftS
  rw [hp, dropWhile_nil, List.all_reverse, dropWhile_all, List.all_reverse]
theorem trim_any' (s : List UInt8) (w : World) (hs : s.length ≤ 9223372036854775807) : Calls Tryz.prog 84 #[.string (bstr s), .string (bstr decS)] w fun e w' => e = .returned (.string (bstr (Lib.trimS s decS))) ∧ Below w.heap.size w w' := by
  have := Any.strings_Trim_laid Tryz.lays160 (by kernel_rfl) (bstr s) (bstr decS) w (by rw [bstr_size]; exact hs) (by decide) (ascii_of_all (by decide))
  exact this
set_option maxRecDepth 100000 in
theorem digits_any (s : List UInt8) (w : World) (hs : s.length ≤ 9223372036854775807) : Calls Tryz.prog 185 #[.string (bstr s)] w fun e w' => e = .returned (.bool (ExP.digitsP s)) ∧ Below w.heap.size w w' := by
  have HT := fun w => trim_any' s w hs
  have ht := trim_nil s
  unfold ExP.digitsP
  generalize Lib.trimS s decS = u at *
  refine enter env_ok Tryz.func185 rfl Tryz.results185 Tryz.ntmps185 [] [] [.str s] (by simp [SV.oks, SV.ok]) (Nat.le_of_ble_eq_true rfl) w _ 1000 ?_
  cases s with
  | nil =>
    repeat' (first | ((with_reducible first | show wpS .. | show putD .. | show putW .. | show splitG .. | show wpQ .. | show wpD .. | show wpX .. | show expX .. | show stepX .. | show keepR .. | show wpY ..); conv => whnf) | ((with_reducible show RetN ..); refine retB fun β => ?_) | ((with_reducible show _ ∧ _); first | (refine ⟨fun h => absurd h (by first | omega | decide), fun _ => ?_⟩) | (refine ⟨fun _ => ?_, fun h => absurd h (by first | omega | decide)⟩) | (refine ⟨fun _ => ?_, fun _ => ?_⟩) | (apply And.intro; · kernel_rfl) | (apply And.intro; · (show inK _ _; unfold inK; omega)) | (apply And.intro; · (show (_ : Int) ≤ 9223372036854775807; (try simp only [lenS]); omega))) | ((with_reducible show AllBe ..); refine allBe fun βe => ?_; conv => whnf) | ((with_reducible show bothX ..); refine bothI ?_ ?_; conv => whnf) | (with_reducible exact trivial) | ((with_reducible show CallN ..); refine call_of env_ok rfl 1000 ?_) | ((with_reducible show XopN ..); refine xop_of env_ok rfl 1000 ?_) | ((with_reducible show CallX ..); first | fail) | ((with_reducible show OpX ..); first | fail) | ((with_reducible show ∃ _ : SV, _); first | fail) | ((with_reducible show ∃ _, _); first | fail))
    all_goals rfl
  | cons c r =>
    have e0 : (c :: r).getD 0 0 = c := rfl
    by_cases h48 : c = 48
    · subst h48
      have e1 : (((48 : UInt8) :: r).getD 0 0).toNat = 48 := rfl
      by_cases hr : 1 < ((48 : UInt8) :: r).length
      · repeat' (first | ((with_reducible first | show wpS .. | show putD .. | show putW .. | show splitG .. | show wpQ .. | show wpD .. | show wpX .. | show expX .. | show stepX .. | show keepR .. | show wpY ..); conv => whnf) | ((with_reducible show RetN ..); refine retB fun β => ?_) | ((with_reducible show _ ∧ _); first | (refine ⟨fun h => absurd h (by first | omega | decide), fun _ => ?_⟩) | (refine ⟨fun _ => ?_, fun h => absurd h (by first | omega | decide)⟩) | (refine ⟨fun _ => ?_, fun _ => ?_⟩) | (apply And.intro; · kernel_rfl) | (apply And.intro; · (show inK _ _; unfold inK; omega)) | (apply And.intro; · (show (_ : Int) ≤ 9223372036854775807; (try simp only [lenS]); omega))) | ((with_reducible show AllBe ..); refine allBe fun βe => ?_; conv => whnf) | ((with_reducible show bothX ..); refine bothI ?_ ?_; conv => whnf) | (with_reducible exact trivial) | ((with_reducible show CallN ..); refine call_of env_ok rfl 1000 ?_) | ((with_reducible show XopN ..); refine xop_of env_ok rfl 1000 ?_) | ((with_reducible show CallX ..); first | fail) | ((with_reducible show OpX ..); first | fail) | ((with_reducible show ∃ _ : SV, _); first | fail) | ((with_reducible show ∃ _, _); first | (refine ⟨0, rfl, by simp, ?_⟩)))
        all_goals first | (exfalso; omega) | (exfalso; simp_all; done) | skip
        all_goals (simp only [SV.den]; congr 1; simp only [List.isEmpty_cons, e0]; rw [decide_eq_false (by omega)]; rfl)
      · repeat' (first | ((with_reducible first | show wpS .. | show putD .. | show putW .. | show splitG .. | show wpQ .. | show wpD .. | show wpX .. | show expX .. | show stepX .. | show keepR .. | show wpY ..); conv => whnf) | ((with_reducible show RetN ..); refine retB fun β => ?_) | ((with_reducible show _ ∧ _); first | (refine ⟨fun h => absurd h (by first | omega | decide), fun _ => ?_⟩) | (refine ⟨fun _ => ?_, fun h => absurd h (by first | omega | decide)⟩) | (refine ⟨fun _ => ?_, fun _ => ?_⟩) | (apply And.intro; · kernel_rfl) | (apply And.intro; · (show inK _ _; unfold inK; omega)) | (apply And.intro; · (show (_ : Int) ≤ 9223372036854775807; (try simp only [lenS]); omega))) | ((with_reducible show AllBe ..); refine allBe fun βe => ?_; conv => whnf) | ((with_reducible show bothX ..); refine bothI ?_ ?_; conv => whnf) | (with_reducible exact trivial) | ((with_reducible show CallN ..); refine call_of env_ok rfl 1000 ?_) | ((with_reducible show XopN ..); refine xop_of env_ok rfl 1000 ?_) | ((with_reducible show CallX ..); first | (refine callX (.str u) (by kernel_rfl) rfl (trivial) (fun β w hm => HT w) ?_)) | ((with_reducible show OpX ..); first | fail) | ((with_reducible show ∃ _ : SV, _); first | fail) | ((with_reducible show ∃ _, _); first | (refine ⟨0, rfl, by simp, ?_⟩)))
        all_goals first | (exfalso; omega) | (exfalso; simp_all; done) | skip
        all_goals (simp only [SV.den]; congr 1; simp only [List.isEmpty_cons, e0]; rw [show decide (((48 : UInt8) :: r).length ≤ 1) = true from decide_eq_true (by omega), Bool.eq_iff_iff]; simpa using ht)
    · have hn : ¬ c.toNat = 48 := fun e => h48 (UInt8.toNat_inj.1 e)
      have e1 : ((c :: r).getD 0 0).toNat = c.toNat := rfl
      repeat' (first | ((with_reducible first | show wpS .. | show putD .. | show putW .. | show splitG .. | show wpQ .. | show wpD .. | show wpX .. | show expX .. | show stepX .. | show keepR .. | show wpY ..); conv => whnf) | ((with_reducible show RetN ..); refine retB fun β => ?_) | ((with_reducible show _ ∧ _); first | (refine ⟨fun h => absurd h (by first | omega | decide), fun _ => ?_⟩) | (refine ⟨fun _ => ?_, fun h => absurd h (by first | omega | decide)⟩) | (refine ⟨fun _ => ?_, fun _ => ?_⟩) | (apply And.intro; · kernel_rfl) | (apply And.intro; · (show inK _ _; unfold inK; omega)) | (apply And.intro; · (show (_ : Int) ≤ 9223372036854775807; (try simp only [lenS]); omega))) | ((with_reducible show AllBe ..); refine allBe fun βe => ?_; conv => whnf) | ((with_reducible show bothX ..); refine bothI ?_ ?_; conv => whnf) | (with_reducible exact trivial) | ((with_reducible show CallN ..); refine call_of env_ok rfl 1000 ?_) | ((with_reducible show XopN ..); refine xop_of env_ok rfl 1000 ?_) | ((with_reducible show CallX ..); first | (refine callX (.str u) (by kernel_rfl) rfl (trivial) (fun β w hm => HT w) ?_)) | ((with_reducible show OpX ..); first | fail) | ((with_reducible show ∃ _ : SV, _); first | fail) | ((with_reducible show ∃ _, _); first | (refine ⟨0, rfl, by simp, ?_⟩)))
      all_goals first | (exfalso; omega) | (exfalso; simp_all; done) | skip
      all_goals (simp only [SV.den]; congr 1; simp only [List.isEmpty_cons, e0]; rw [bne_iff_ne.2 h48, Bool.eq_iff_iff]; simpa using ht)
end Go.Proofs.YtdkhkfdenlabaaaGreatDoor
