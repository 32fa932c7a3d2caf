/- The reference's numbers: quotients. Numbers read and written: the program's parse, the reference's NatOf and Text. DERIVED: THE SHELF's CONTRACTS AT THIS DUMP, IN PLAIN WORDS (tools/lay-plain.mjs out of 'YtfodbfbljeeojaaGreatDoorShelf3.lean', which tools/lay-shelf.mjs wrote): THE SAME DECLARATIONS UNDER THE SAME NAMES: 'import', 'namespace', 'open', 'def', 'theorem' AND NOTHING ELSE: no command of the shelf's: FOR A HAND-IN. Each laying: the table of numbers ('.._ren') and one theorem, a field a fact of the dump's own or the kernel's comparison; each contract: ONE APPLICATION. -/
import Derived.Test.YtfodbfbljeeojaaGreatDoorFGM
import Derived.Test.YtfodbfbljeeojaaGreatDoorFGG
import Derived.Lib.AtoiErrMem
import Derived.Shelf.Strings.Builder1
import Derived.Shelf.Strings.Builder2
import Derived.Shelf.Strings.Trim
import Derived.Shelf.Small.Utf8
import Derived.Shelf.Small.Strs
import Derived.Shelf.Small.Wraps
import Derived.Shelf.Strings.BuilderF
import Derived.Shelf.Strings.BuilderK
import Derived.Shelf.Strconv.Atoi
import Derived.Shelf.Strconv.Itoa0
import Derived.Shelf.Strconv.Itoa1
import Derived.Shelf.LaysM
import Derived.Shelf.Strconv.Itoa2
import Derived.Shelf.Strconv.Itoa3
import Derived.Shelf.Strings.Search1
import Derived.Shelf.Strings.Prefix
import Derived.Shelf.Unicode.Decode
import Derived.Shelf.Strings.Runes
import Derived.Shelf.Strings.AsciiSet
import Derived.Shelf.Bits.Mul64
import Derived.Shelf.Strings.Repeat
import Derived.Shelf.Unicode.DecodeSlow
import Derived.Shelf.Unicode.DecodeAny
import Derived.Shelf.Unicode.DecodeLast
import Derived.Shelf.Strings.SlTrimAscii
import Derived.Test.YtfodbfbljeeojaaGreatDoorProg
set_option linter.unusedSimpArgs false
set_option linter.unusedVariables false
namespace Go.Proofs.YtfodbfbljeeojaaGreatDoor
open Go.RowKit
open Sym
attribute [local irreducible] Calls Sym.AggEq ExP.nd ExP.dig ExP.upd
theorem ExP.cmpS_ge {x y : Nat} : 0 ≤ ExP.cmpS x y ↔ y ≤ x := by
  unfold ExP.cmpS
  split
  · constructor <;> intro h <;> omega
  · split <;> constructor <;> intro h <;> omega
theorem ExP.set_zero {n V i : Nat} (h : ExP.dig 10 i V = 0) : (ExP.dgN 10 n V).set i 0 = ExP.dgN 10 n V := by
  rw [ExP.dgN_set (by omega) (by omega)]
  have e := ExP.upd_eq 10 V i 0
  rw [h] at e
  congr 1; omega
structure RvI (x y n : Nat) (t : DvT) : Prop where
  hj : t.j ≤ n
  d : ExP.DivI 10 x y t.j t.V t.r
  hn : t.ra = none → t.rc = 0
  hc : ExP.nd 10 t.r ≤ t.rc
structure RwT where
  t : Nat
  ra : Option Addr
  rc : Nat
set_option maxRecDepth 100000 in
set_option maxHeartbeats 4000000 in
theorem rdivide_any (a b : Option Addr) (ca cb x y : Nat) (w : World) (hw0 : 0 < w.heap.size) (hx : ExP.nd 10 x ≤ 40000000) (hy : ExP.nd 10 y ≤ 40000000) (hy0 : 0 < y) (hs : SlAt a (nv .i64 10 x) w) (ht : SlAt b (nv .i64 10 y) w) :
    Calls Tryz.prog 76 #[.slice a (ExP.nd 10 x) ca, .slice b (ExP.nd 10 y) cb] w (NatOut2 .i64 10 (x / y) (x % y) w) := by
  obtain ⟨i0, hi, hz0, hz1, hz2⟩ := info_parts intInfo
  have hu := Tryz.underlying34
  have hsz := fun w => Tryz.sizeOf3 w
  have hzv := fun w => Tryz.zeroValue3 w
  have hgx := fun i (h : i < ExP.nd 10 x) => nv_get (k := .i64) h
  have hnx := nv_ne (k := .i64) (b := 10) (x := x)
  have hdx := fun i => ExP.dig_lt (b := 10) (by omega) i x
  have hxl := ExP.nd_lt (b := 10) (by omega) x
  have hTR := fun g (V : Nat) (w' : World) (hV : V < 10 ^ (ExP.nd 10 x)) hs' => rtrim_any (some ⟨g, 0, none⟩) (ExP.nd 10 x) (ExP.nd 10 x) V w' hV (Nat.le_refl _) (by omega) hs'
  have hCM := fun (a' : Option Addr) (c' R : Nat) (w' : World) (hR : ExP.nd 10 R ≤ 100000000) hb h => rcompare_any a' b c' cb R y w' hR (by omega) h (SlAt.below ht hb)
  have hLS := fun (a' : Option Addr) (c' R : Nat) (w' : World) (hR : ExP.nd 10 R ≤ 100000000) (hle : y ≤ R) hb h => rless_any a' b c' cb R y w' hR (by omega) hle h (SlAt.below ht hb)
  refine enter env_ok Tryz.func76 rfl Tryz.results76 Tryz.ntmps76 [] [] [.any (.slice a (ExP.nd 10 x) ca), .any (.slice b (ExP.nd 10 y) cb)] ⟨rfl, rfl, trivial⟩ (Nat.le_of_ble_eq_true rfl) w _ 1000 ?_
  generalize ExP.nd 10 x = n at *
  generalize hMY : ExP.nd 10 y = m at *
  repeat' (first | ((with_reducible first | show wpS _ _ _ _ | show putD _ _ _ _ | show putW _ _ _ _ | show splitG _ _ _ | show wpQ _ _ _ _ _ _ | show wpD _ _ _ _ _ _ _ | show wpX _ _ _ _ _ _ _ | show expX _ _ _ _ _ _ | show stepX _ _ _ _ | show keepR _ _ _ | show wpY _ _ _ _); conv => whnf) | ((with_reducible show RetN _ _ _); refine retB fun β => ?_) | ((with_reducible show _ ∧ _); first | (apply And.intro; (· intro h; exfalso; first | omega | (revert h; decide)); intro _) | (apply And.intro; rotate_left; (· intro h; exfalso; first | omega | (revert h; decide)); intro _) | (refine ⟨fun _ => ?_, fun _ => ?_⟩) | (apply And.intro; · kernel_rfl) | (apply And.intro; · (show inK _ _; unfold inK; omega)) | (apply And.intro; · (show (_ : Int) ≤ 9223372036854775807; (try simp only [List.length_append, List.length_drop, List.length_take, List.length_cons, List.length_nil]); omega))) | ((with_reducible show AllBe _); refine allBe fun βe => ?_; conv => whnf) | ((with_reducible show bothX _ _); refine bothI ?_ ?_; conv => whnf) | (with_reducible exact trivial) | ((with_reducible show CallN _ _ _ _ _ _ _ _); refine call_of env_ok rfl 1000 ?_) | ((with_reducible show XopN _ _ _ _ _ _); refine xop_of env_ok rfl 1000 ?_) | ((with_reducible show CallX _ _ _ _ _ _); first | fail) | ((with_reducible show OpX _ _ _ _); first | (refine opx_make (m := n) rfl (by omega) rfl rfl hu hi hz0 hz1 rfl (by rw [hz2]; omega) (by unfold maxLen; omega) (fun g => ?_))) | ((with_reducible show ∃ _ : SV, _); first | (refine ⟨_, ?ok, x_len Tryz.underlying34, ?_⟩; (case ok => exact fun _ _ => trivial))) | ((with_reducible show ∃ _, _); first | fail))
  rw [rep_row 10]
  refine loop_learn0 hw0 ?_
  refine loop env_ok rfl (T := {t : DvT // RvI x y n t}) (fun t => ⟨[(0, .any (.slice a n ca)), (1, .any (.slice b m cb)), (6, .any (.slice (some ⟨g, 0, none⟩) n n)), (7, .any (.slice t.1.ra (ExP.nd 10 t.1.r) t.1.rc)), (8, .int .i64 ((t.1.j : Nat) - 1 : Int))], [(0, true, .blob (OwnS 3 1 g n n (valsK .i64 (ExP.dgN 10 n t.1.V)))), (1, false, .blob (SlF w.heap.size t.1.ra (nv .i64 10 t.1.r)))], 2, 43⟩) (fun t => t.1.j) ⟨⟨n, 0, 0, none, 0⟩, ⟨Nat.le_refl _, ExP.div_start hxl, fun _ => rfl, by rw [ExP.nd_zero]; exact Nat.le_refl _⟩⟩ 1000 [] [] (fun _ => by exact Nat.zero_le _) (by dsimp only; rw [nv_nil0, ExP.nd_zero]; ((with_reducible show wk _ _); repeat' (first | exact trivial | exact eqSV_refl _ | (refine eqI ?_) | (refine eqS ?_) | (with_reducible exact rfl) | apply And.intro | exact Nat.zero_lt_one | exact Nat.le_of_ble_eq_true rfl | (with_reducible assumption) | ((show (_ : Int) = _); (try dsimp only); omega) | ((show eqSV _ _); simp [eqSV, isB, bval, *]; done) | rfl)); all_goals exact fun b x h => h) (fun t I hI => ?_)
  obtain ⟨⟨j, V, r, ra, rc⟩, hj, hD, hn, hc⟩ := t
  dsimp only at hj hD hn hc ⊢
  by_cases hj0 : j = 0
  · subst hj0
    obtain ⟨rfl, rfl⟩ := ExP.div_end hD
    have hl := ExP.div_lt (by omega) hD hxl
    repeat' (first | ((with_reducible first | show wpS _ _ _ _ | show putD _ _ _ _ | show putW _ _ _ _ | show splitG _ _ _ | show wpQ _ _ _ _ _ _ | show wpD _ _ _ _ _ _ _ | show wpX _ _ _ _ _ _ _ | show expX _ _ _ _ _ _ | show stepX _ _ _ _ | show keepR _ _ _ | show wpY _ _ _ _); conv => whnf) | ((with_reducible show RetN _ _ _); refine retB fun β => ?_) | ((with_reducible show _ ∧ _); first | (apply And.intro; (· intro h; exfalso; first | omega | (revert h; decide)); intro _) | (apply And.intro; rotate_left; (· intro h; exfalso; first | omega | (revert h; decide)); intro _) | (refine ⟨fun _ => ?_, fun _ => ?_⟩) | (apply And.intro; · kernel_rfl) | (apply And.intro; · (show inK _ _; unfold inK; omega)) | (apply And.intro; · (show (_ : Int) ≤ 9223372036854775807; (try simp only [List.length_append, List.length_drop, List.length_take, List.length_cons, List.length_nil]); omega))) | ((with_reducible show AllBe _); refine allBe fun βe => ?_; conv => whnf) | ((with_reducible show bothX _ _); refine bothI ?_ ?_; conv => whnf) | (with_reducible exact trivial) | ((with_reducible show CallN _ _ _ _ _ _ _ _); refine call_of env_ok rfl 1000 ?_) | ((with_reducible show XopN _ _ _ _ _ _); refine xop_of env_ok rfl 1000 ?_) | ((with_reducible show CallX _ _ _ _ _ _); first | (refine callX (.any (.slice (some ⟨g, 0, none⟩) (ExP.nd 10 (x / y)) n)) (by kernel_rfl) rfl (rfl) (fun β w hm => hTR g (x / y) w hl (Mem.own hm 0 rfl).1) ?_)) | ((with_reducible show OpX _ _ _ _); first | fail) | ((with_reducible show ∃ _ : SV, _); first | fail) | ((with_reducible show ∃ _, _); first | fail))
    refine ret fun β w' hm => ?_
    obtain ⟨q1, q2, q3⟩ := Mem.own hm 0 rfl
    have hle := ExP.nd_le (b := 10) (by omega) hl
    exact ⟨_, n, ra, rc, rfl, ⟨sl_pre q1 (dgN_pre hle .i64), fresh_own q2 rfl, (fun h => by cases h), hle⟩, ⟨Mem.slF hm 1 rfl, Mem.freshF hm 1 rfl rfl, hn, hc⟩, hm.below⟩
  · obtain ⟨i, rfl⟩ : ∃ i, j = i + 1 := ⟨j - 1, by omega⟩
    obtain ⟨ad, rfl⟩ := SlAt.some hs (hnx (by omega))
    have r1 := sl_read hs (hgx i (by omega))
    have hdx := hdx i
    have hry : r < y := by rw [hD.r]; exact Nat.mod_lt _ hy0
    obtain ⟨hD1, hq⟩ := ExP.div_next (by omega) hy0 hD rfl
    have hrn := ExP.nd_mono (b := 10) (by omega) (Nat.le_of_lt hry)
    rw [hMY] at hrn
    have hRl := ExP.cons_lt hdx (ExP.nd_lt (b := 10) (by omega) r)
    have hcons := ExP.cons_dg (b := 10) (r := r) (by omega) hdx (ExP.nd 10 r)
    have hset := fun d (hd : d < 10) => ExP.dgN_set (b := 10) (n := n) (V := V) (j := i) (d := d) (by omega) hd
    have hv0 : ExP.dig 10 i V = 0 := by rw [hD.v]; exact ExP.mul_pow_dig (by omega)
    have hz := ExP.set_zero (n := n) hv0
    have hnl := nv_len .i64 10 r
    have hrow : ([.int .i64 ((ExP.dig 10 i x : Nat) : Int)] : List Value) ++ nv .i64 10 r = valsK .i64 (ExP.dgN 10 (1 + ExP.nd 10 r) (ExP.dig 10 i x + r * 10)) := by rw [Nat.add_comm 1, hcons]; rfl
    generalize ExP.dig 10 i x = dx at *
    generalize hR : dx + r * 10 = R at *
    have hRn := ExP.nd_le (b := 10) (by omega) hRl
    have hmod : R % y = R - y * (R / y) := by have := Nat.div_add_mod R y; omega
    rw [hmod] at hD1
    have hT2 := fun g (c : Nat) hc (w' : World) hs' => rtrim_any (some ⟨g, 0, none⟩) (1 + ExP.nd 10 r) c R w' (by rw [Nat.add_comm]; exact hRl) hc (by omega) hs'
    have hpre := dgN_pre (b := 10) (x := R) (by omega : ExP.nd 10 R ≤ 1 + ExP.nd 10 r) .i64
    have hmn := fun z (h : z ≤ R) => ExP.nd_mono (b := 10) (by omega) h
    repeat' (first | ((with_reducible first | show wpS _ _ _ _ | show putD _ _ _ _ | show putW _ _ _ _ | show splitG _ _ _ | show wpQ _ _ _ _ _ _ | show wpD _ _ _ _ _ _ _ | show wpX _ _ _ _ _ _ _ | show expX _ _ _ _ _ _ | show stepX _ _ _ _ | show keepR _ _ _ | show wpY _ _ _ _); conv => whnf) | ((with_reducible show RetN _ _ _); refine retB fun β => ?_) | ((with_reducible show _ ∧ _); first | (apply And.intro; (· intro h; exfalso; first | omega | (revert h; decide)); intro _) | (apply And.intro; rotate_left; (· intro h; exfalso; first | omega | (revert h; decide)); intro _) | (refine ⟨fun _ => ?_, fun _ => ?_⟩) | (apply And.intro; · kernel_rfl) | (apply And.intro; · (show inK _ _; unfold inK; omega)) | (apply And.intro; · (show (_ : Int) ≤ 9223372036854775807; (try simp only [List.length_append, List.length_drop, List.length_take, List.length_cons, List.length_nil]); omega))) | ((with_reducible show AllBe _); refine allBe fun βe => ?_; conv => whnf) | ((with_reducible show bothX _ _); refine bothI ?_ ?_; conv => whnf) | (with_reducible exact trivial) | ((with_reducible show CallN _ _ _ _ _ _ _ _); refine call_of env_ok rfl 1000 ?_) | ((with_reducible show XopN _ _ _ _ _ _); refine xop_of env_ok rfl 1000 ?_) | ((with_reducible show CallX _ _ _ _ _ _); first | (refine callX (.any (.slice (some ⟨g2, 0, none⟩) (ExP.nd 10 R) cap2)) (by kernel_rfl) rfl (rfl) (fun β w hm => hT2 g2 cap2 (Mem.own hm 2 rfl).2.2 w (by have := (Mem.own hm 2 rfl).1; rw [hrow] at this; exact this)) ?_)) | ((with_reducible show OpX _ _ _ _); first | (refine opx_build1 (sz := 1) rfl rfl rfl (xs := [.int .i64 (dx : Nat)]) (fun β => rfl) rfl (by omega) (by omega) hu hsz hzv (fun g1 => ?_)) | (refine opx_appendW (sz := 1) 2 (ys := nv .i64 10 r) rfl hu hi hz0 hz1 rfl (by omega) rfl rfl rfl hn (by rw [Nat.mul_one]; exact hnl) (fun β w' hm => Mem.slF hm 1 rfl) (by unfold maxLen; omega) (by rw [hz2]; omega) (valsK_one _ _) (by kernel_rfl) (Nat.zero_le _) (fun g2 cap2 => ?_))) | ((with_reducible show ∃ _ : SV, _); first | (refine ⟨_, ?ok, x_len Tryz.underlying34, ?_⟩; (case ok => exact fun _ _ => trivial)) | (refine ⟨_, ?ok, x_index (j := i) (by omega) Tryz.underlying34 (fun w => Tryz.sizeOf3 w) (by omega), ?_⟩; (case ok => exact fun _ _ => rfl)) | (refine ⟨.int .i64 (dx : Nat), fun _ _ => trivial, x_load1 (fun w => Tryz.isAgg3 w) (fun w' hb β => by rw [Nat.mul_one]; exact r1 w' hb), ?_⟩)) | ((with_reducible show ∃ _, _); first | fail))
    rw [hrow]
    refine loop_share 2 (nv .i64 10 R) rfl hpre (fun hcap2 => ?_)
    refine loop env_ok rfl (T := {t : RwT // t.t ≤ R / y ∧ (t.ra = none → t.rc = 0) ∧ ExP.nd 10 (R - y * t.t) ≤ t.rc}) (fun t => ⟨[(0, .any (.slice (some ad) n ca)), (1, .any (.slice b m cb)), (6, .any (.slice (some ⟨g, 0, none⟩) n n)), (7, .any (.slice t.1.ra (ExP.nd 10 (R - y * t.1.t)) t.1.rc)), (8, .int .i64 (((i + 1 : Nat) : Int) - 1))], [(0, true, .blob (OwnS 3 1 g n n (valsK .i64 ((ExP.dgN 10 n V).set i t.1.t)))), (2, false, .blob (SlF w.heap.size t.1.ra (nv .i64 10 (R - y * t.1.t))))], 3, 43⟩) (fun t => R / y - t.1.t) ⟨⟨0, some ⟨g2, 0, none⟩, cap2⟩, Nat.zero_le _, (fun h => by cases h), by dsimp only; rw [Nat.mul_zero, Nat.sub_zero]; omega⟩ 1000 [] [] (fun _ => by exact Nat.zero_le _) (by dsimp only; rw [hz, Nat.mul_zero, Nat.sub_zero]; ((with_reducible show wk _ _); repeat' (first | exact trivial | exact eqSV_refl _ | (refine eqI ?_) | (refine eqS ?_) | (with_reducible exact rfl) | apply And.intro | exact Nat.zero_lt_one | exact Nat.le_of_ble_eq_true rfl | (with_reducible assumption) | ((show (_ : Int) = _); (try dsimp only); omega) | ((show eqSV _ _); simp [eqSV, isB, bval, *]; done) | rfl)); all_goals exact fun b x h => h) (fun t I2 hI2 => ?_)
    obtain ⟨⟨t, ra2, rc2⟩, ht1, hn2, hc2⟩ := t
    dsimp only at ht1 hn2 hc2 ⊢
    have hyt : y * t ≤ R := Nat.le_trans (Nat.mul_le_mul_left _ ht1) (Nat.mul_div_le R y)
    have hcm := ExP.cmpS_ge (x := R - y * t) (y := y)
    have hnr := hmn (R - y * t) (by omega)
    have hCM := fun w' => hCM ra2 rc2 (R - y * t) w' (by omega)
    by_cases hlt : y ≤ R - y * t
    · have ht2 : t + 1 ≤ R / y := by rw [Nat.le_div_iff_mul_le hy0, Nat.mul_comm, Nat.mul_add]; omega
      have hLS := fun w' => hLS ra2 rc2 (R - y * t) w' (by omega) hlt
      have hsub : R - y * t - y = R - y * (t + 1) := by rw [Nat.mul_add]; omega
      rw [hsub] at hLS
      generalize ExP.cmpS (R - y * t) y = cv at *
      repeat' (first | ((with_reducible first | show wpS _ _ _ _ | show putD _ _ _ _ | show putW _ _ _ _ | show splitG _ _ _ | show wpQ _ _ _ _ _ _ | show wpD _ _ _ _ _ _ _ | show wpX _ _ _ _ _ _ _ | show expX _ _ _ _ _ _ | show stepX _ _ _ _ | show keepR _ _ _ | show wpY _ _ _ _); conv => whnf) | ((with_reducible show RetN _ _ _); refine retB fun β => ?_) | ((with_reducible show _ ∧ _); first | (apply And.intro; (· intro h; exfalso; first | omega | (revert h; decide)); intro _) | (apply And.intro; rotate_left; (· intro h; exfalso; first | omega | (revert h; decide)); intro _) | (refine ⟨fun _ => ?_, fun _ => ?_⟩) | (apply And.intro; · kernel_rfl) | (apply And.intro; · (show inK _ _; unfold inK; omega)) | (apply And.intro; · (show (_ : Int) ≤ 9223372036854775807; (try simp only [List.length_append, List.length_drop, List.length_take, List.length_cons, List.length_nil]); omega))) | ((with_reducible show AllBe _); refine allBe fun βe => ?_; conv => whnf) | ((with_reducible show bothX _ _); refine bothI ?_ ?_; conv => whnf) | (with_reducible exact trivial) | ((with_reducible show CallN _ _ _ _ _ _ _ _); refine call_of env_ok rfl 1000 ?_) | ((with_reducible show XopN _ _ _ _ _ _); refine xop_of env_ok rfl 1000 ?_) | ((with_reducible show CallX _ _ _ _ _ _); first | (refine callX (.int .i64 cv) (by kernel_rfl) rfl (trivial) (fun β w hm => hCM w hm.below (Mem.slF hm 2 rfl)) ?_) | (refine callNat .i64 10 (R - y * (t + 1)) hw0 (by kernel_rfl) rfl (fun β w' hm => hLS w' hm.below (Mem.slF hm 2 rfl)) (fun ua uca h1 h2 h3 => ?_))) | ((with_reducible show OpX _ _ _ _); first | (refine opx_store env_ok 0 (u := .int .i64 ((t + 1 : Nat) : Int)) rfl rfl rfl rfl (fun β => by simp [SV.den]) rfl rfl (by omega) ?_)) | ((with_reducible show ∃ _ : SV, _); first | (refine ⟨_, ?ok, x_len Tryz.underlying34, ?_⟩; (case ok => exact fun _ _ => trivial)) | (refine ⟨_, ?ok, x_index (j := i) (by omega) Tryz.underlying34 (fun w => Tryz.sizeOf3 w) (by omega), ?_⟩; (case ok => exact fun _ _ => rfl)) | (refine ⟨.int .i64 (t : Nat), fun _ _ => trivial, x_loadO 0 (.int .i64 (t : Nat)) (fun w => Tryz.isAgg3 w) rfl (fun β => by rw [Nat.mul_one]; refine valsK_get ?_; rw [List.getElem?_set_self (by rw [ExP.dgN_len]; omega)]), ?_⟩)) | ((with_reducible show ∃ _, _); first | fail))
      refine back_copy 2 3 rfl rfl rfl (Nat.zero_le _) (by kernel_rfl) ?_
      refine hI2 _ ⟨⟨t + 1, ua, uca⟩, ht2, h1, h2⟩ (by dsimp only; omega) (by dsimp only; ((with_reducible show wk _ _); repeat' (first | exact trivial | exact eqSV_refl _ | (refine eqI ?_) | (refine eqS ?_) | (with_reducible exact rfl) | apply And.intro | exact Nat.zero_lt_one | exact Nat.le_of_ble_eq_true rfl | (with_reducible assumption) | ((show (_ : Int) = _); (try dsimp only); omega) | ((show eqSV _ _); simp [eqSV, isB, bval, *]; done) | rfl)); all_goals first | exact fun b x h => h | (rw [Nat.mul_one, valsK_set, List.set_set]; exact fun b x h => h))
    · have hte : t = R / y := by
        refine Nat.le_antisymm ht1 (Nat.le_of_lt_succ ?_)
        rw [Nat.div_lt_iff_lt_mul hy0, Nat.succ_mul, Nat.mul_comm]; omega
      subst hte
      rw [hset _ hq]
      generalize ExP.cmpS (R - y * (R / y)) y = cv at *
      repeat' (first | ((with_reducible first | show wpS _ _ _ _ | show putD _ _ _ _ | show putW _ _ _ _ | show splitG _ _ _ | show wpQ _ _ _ _ _ _ | show wpD _ _ _ _ _ _ _ | show wpX _ _ _ _ _ _ _ | show expX _ _ _ _ _ _ | show stepX _ _ _ _ | show keepR _ _ _ | show wpY _ _ _ _); conv => whnf) | ((with_reducible show RetN _ _ _); refine retB fun β => ?_) | ((with_reducible show _ ∧ _); first | (apply And.intro; (· intro h; exfalso; first | omega | (revert h; decide)); intro _) | (apply And.intro; rotate_left; (· intro h; exfalso; first | omega | (revert h; decide)); intro _) | (refine ⟨fun _ => ?_, fun _ => ?_⟩) | (apply And.intro; · kernel_rfl) | (apply And.intro; · (show inK _ _; unfold inK; omega)) | (apply And.intro; · (show (_ : Int) ≤ 9223372036854775807; (try simp only [List.length_append, List.length_drop, List.length_take, List.length_cons, List.length_nil]); omega))) | ((with_reducible show AllBe _); refine allBe fun βe => ?_; conv => whnf) | ((with_reducible show bothX _ _); refine bothI ?_ ?_; conv => whnf) | (with_reducible exact trivial) | ((with_reducible show CallN _ _ _ _ _ _ _ _); refine call_of env_ok rfl 1000 ?_) | ((with_reducible show XopN _ _ _ _ _ _); refine xop_of env_ok rfl 1000 ?_) | ((with_reducible show CallX _ _ _ _ _ _); first | (refine callX (.int .i64 cv) (by kernel_rfl) rfl (trivial) (fun β w hm => hCM w hm.below (Mem.slF hm 2 rfl)) ?_)) | ((with_reducible show OpX _ _ _ _); first | fail) | ((with_reducible show ∃ _ : SV, _); first | fail) | ((with_reducible show ∃ _, _); first | fail))
      refine back_copy 1 2 rfl rfl rfl (Nat.zero_le _) (by kernel_rfl) ?_
      refine hI _ ⟨⟨i, ExP.upd 10 V i (R / y), R - y * (R / y), ra2, rc2⟩, ⟨by dsimp only; omega, hD1, hn2, hc2⟩⟩ (by dsimp only; omega) (by dsimp only; ((with_reducible show wk _ _); repeat' (first | exact trivial | exact eqSV_refl _ | (refine eqI ?_) | (refine eqS ?_) | (with_reducible exact rfl) | apply And.intro | exact Nat.zero_lt_one | exact Nat.le_of_ble_eq_true rfl | (with_reducible assumption) | ((show (_ : Int) = _); (try dsimp only); omega) | ((show eqSV _ _); simp [eqSV, isB, bval, *]; done) | rfl)); all_goals exact fun b x h => h)
end Go.Proofs.YtfodbfbljeeojaaGreatDoor
namespace Go.Proofs.YtfodbfbljeeojaaGreatDoor
open Go.RowKit
open Sym
attribute [local irreducible] Calls Sym.AggEq ExP.nd ExP.dig ExP.upd
theorem ExP.decFrom_val : ∀ (s : List UInt8) (n : Nat), s.all ExP.digC = true → Lib.decFrom n s = some (ExP.valF n s)
  | [], _, _ => by rw [ExP.valF_nil]; rfl
  | c :: r, n, h => by
    simp only [List.all_cons, Bool.and_eq_true] at h
    have hc := h.1
    unfold ExP.digC at hc
    simp only [Bool.and_eq_true, decide_eq_true_eq, UInt8.le_iff_toNat_le] at hc
    have hv : Lib.digitVal c = some (c.toNat - 48) := by
      unfold Lib.digitVal; rw [if_pos (by simpa using hc)]
    rw [Lib.decFrom, hv]
    dsimp only
    rw [ExP.decFrom_val r _ h.2, ExP.valF_cons]
theorem ExP.atoi_val (s : List UInt8) (h0 : s ≠ []) (h : s.all ExP.digC = true) : Lib.atoi s = some (ExP.valS s : Int) := by
  cases s with
  | nil => exact absurd rfl h0
  | cons c r =>
    have hc : ExP.digC c = true := by simp only [List.all_cons, Bool.and_eq_true] at h; exact h.1
    have hc := ExP.digC_nat.1 hc
    have h45 : (c == 45) = false := by rw [beq_eq_false_iff_ne]; intro e; rw [e] at hc; simp at hc
    have h43 : (c == 43) = false := by rw [beq_eq_false_iff_ne]; intro e; rw [e] at hc; simp at hc
    have e : Lib.decNat (c :: r) = some (ExP.valS (c :: r)) := by
      unfold Lib.decNat; rw [ExP.decFrom_val _ _ h]; rfl
    simp [Lib.atoi, h45, h43, e]
theorem atoi_any (s : List UInt8) (w : World) (h0 : s ≠ []) (hl : s.length ≤ 18) (h : s.all ExP.digC = true) : Calls Tryz.prog 90 #[.string (bstr s)] w fun e w' => e = .returned (.tuple #[.int .i64 (ExP.valS s : Int), .nilIface]) ∧ Below w.heap.size w w' := by
  refine (Tryz.strconv_Atoi (bstr s) _ (by rw [bstr_size]; exact hl) (ExP.atoi_val s h0 h) w).mono ?_
  rintro e w' ⟨h, t, rfl⟩
  exact ⟨h, Lib.bytesWorld_below _ _ _⟩
abbrev apJ32 (fr : List (Nat × SV)) (d n i : Nat) (g cap : Nat) (xs : List Value) : St := match i with
  | 0 => ⟨(d, .any (.slice none 0 0)) :: fr, [], 0, n⟩
  | i + 1 => ⟨(d, .any (.slice (some ⟨g, 0, none⟩) (i + 1) cap)) :: fr, [(1, true, .blob (OwnS 97 1 g (i + 1) cap xs))], 2, n⟩
theorem all_drop {p : UInt8 → Bool} {s : List UInt8} (h : s.all p = true) (n : Nat) : (s.drop n).all p = true := by
  rw [List.all_eq_true] at h ⊢
  exact fun x hx => h x (List.mem_of_mem_drop hx)
theorem all_take {p : UInt8 → Bool} {s : List UInt8} (h : s.all p = true) (n : Nat) : (s.take n).all p = true := by
  rw [List.all_eq_true] at h ⊢
  exact fun x hx => h x (List.mem_of_mem_take hx)
structure PsT where
  i : Nat
  m : Nat
  g : Nat
  cap : Nat
set_option maxRecDepth 100000 in
set_option maxHeartbeats 2000000 in
theorem parse_any (s : List UInt8) (w : World) (hs : s.length ≤ 1000000) (hd : s.all ExP.digC = true) : Calls Tryz.prog 69 #[.string (bstr s)] w (NatOut .u32 1000000000 (ExP.valS s) w) := by
  obtain ⟨i0, hi, hz0, hz1, hz2⟩ := info_parts u32Info
  have hu := Tryz.underlying67
  have hsz := fun w => Tryz.sizeOf97 w
  have hzv := fun w => Tryz.zeroValue97 w
  have e9 : (1000000000 : Nat) = 10 ^ 9 := by decide
  have hVl : ∀ m i, s.length - m ≤ 9 * i → ExP.valS (s.drop m) < 1000000000 ^ i := fun m i h => by
    have h1 := ExP.val_lt _ (all_drop hd m)
    rw [List.length_drop] at h1
    rw [e9, ← Nat.pow_mul]
    exact Nat.lt_of_lt_of_le h1 (Nat.pow_le_pow_right (by omega) h)
  refine enter env_ok Tryz.func69 rfl Tryz.results69 Tryz.ntmps69 [] [] [.str s] (by simp [SV.oks, SV.ok]) (Nat.le_of_ble_eq_true rfl) w _ 1000 ?_
  repeat' (first | ((with_reducible first | show wpS _ _ _ _ | show putD _ _ _ _ | show putW _ _ _ _ | show splitG _ _ _ | show wpQ _ _ _ _ _ _ | show wpD _ _ _ _ _ _ _ | show wpX _ _ _ _ _ _ _ | show expX _ _ _ _ _ _ | show stepX _ _ _ _ | show keepR _ _ _ | show wpY _ _ _ _); conv => whnf) | ((with_reducible show RetN _ _ _); refine retB fun β => ?_) | ((with_reducible show _ ∧ _); first | (apply And.intro; (· intro h; exfalso; first | omega | (revert h; decide)); intro _) | (apply And.intro; rotate_left; (· intro h; exfalso; first | omega | (revert h; decide)); intro _) | (refine ⟨fun _ => ?_, fun _ => ?_⟩) | (apply And.intro; · kernel_rfl) | (apply And.intro; · (show inK _ _; unfold inK; omega)) | (apply And.intro; · (show (_ : Int) ≤ 9223372036854775807; (try simp only [List.length_append, List.length_drop, List.length_take, List.length_cons, List.length_nil]); omega))) | ((with_reducible show AllBe _); refine allBe fun βe => ?_; conv => whnf) | ((with_reducible show bothX _ _); refine bothI ?_ ?_; conv => whnf) | (with_reducible exact trivial) | ((with_reducible show CallN _ _ _ _ _ _ _ _); refine call_of env_ok rfl 1000 ?_) | ((with_reducible show XopN _ _ _ _ _ _); refine xop_of env_ok rfl 1000 ?_) | ((with_reducible show CallX _ _ _ _ _ _); first | fail) | ((with_reducible show OpX _ _ _ _); first | fail) | ((with_reducible show ∃ _ : SV, _); first | fail) | ((with_reducible show ∃ _, _); first | fail))
  refine loop env_ok rfl (T := {t : PsT // t.m ≤ s.length ∧ s.length - t.m ≤ 9 * t.i ∧ (0 < t.m → s.length - t.m = 9 * t.i) ∧ t.i ≤ s.length}) (fun t => apJ32 [(0, .str (s.take t.1.m))] 3 31 t.1.i t.1.g t.1.cap (valsK .u32 (ExP.dgN 1000000000 t.1.i (ExP.valS (s.drop t.1.m))))) (fun t => t.1.m) ⟨⟨0, s.length, 0, 0⟩, Nat.le_refl _, by dsimp only; omega, fun _ => by dsimp only; omega, Nat.zero_le _⟩ 1000 [] [] (fun t => by exact Nat.zero_le _) (by dsimp only [apJ32]; rw [List.take_of_length_le (Nat.le_refl _)]; ((with_reducible show wk _ _); repeat' (first | exact trivial | exact eqSV_refl _ | (refine eqI ?_) | (refine eqS ?_) | (with_reducible exact rfl) | apply And.intro | exact Nat.zero_lt_one | exact Nat.le_of_ble_eq_true rfl | (with_reducible assumption) | ((show (_ : Int) = _); (try dsimp only); omega) | ((show eqSV _ _); simp [eqSV, isB, bval, *]; done) | rfl))) (fun t I hI => ?_)
  obtain ⟨⟨i, m, g, cap⟩, hm, hl1, hl2, hil⟩ := t
  dsimp only at hm hl1 hl2 hil ⊢
  have hV := hVl m i hl1
  have htl : (s.take m).length = m := by rw [List.length_take]; omega
  by_cases hm0 : 0 < m
  · have hl2 := hl2 hm0
    obtain ⟨q, hq⟩ : ∃ q, q = m - 9 := ⟨_, rfl⟩
    have hck : ((s.take m).drop q).length = m - q := by rw [List.length_drop, htl]
    have hcd : ((s.take m).drop q).all ExP.digC = true := all_drop (all_take hd m) q
    have hcn := ExP.val_lt _ hcd
    have hcb : ExP.valS ((s.take m).drop q) < 1000000000 := by
      rw [hck] at hcn
      exact Nat.lt_of_lt_of_le hcn (by rw [e9]; exact Nat.pow_le_pow_right (by omega) (by omega))
    have hA := fun w => atoi_any ((s.take m).drop q) w (fun e => by rw [e] at hck; simp at hck; omega) (by omega) hcd
    have hVq : ExP.valS (s.drop q) = ExP.valS (s.drop m) + ExP.valS ((s.take m).drop q) * 1000000000 ^ i := by
      have e : s.drop q = (s.take m).drop q ++ s.drop m := by
        have h1 : s = s.take m ++ s.drop m := (List.take_append_drop m s).symm
        conv => lhs; rw [h1]
        rw [List.drop_append_of_le_length (by rw [htl]; omega)]
      rw [e, ExP.val_append, List.length_drop, hl2, e9, ← Nat.pow_mul, Nat.add_comm]
    have hrow := fun (v : Int) (hv : v = ((ExP.valS ((s.take m).drop q) : Nat) : Int)) => ExP.row_snoc (k := .u32) (b := 1000000000) (i := i) (S := ExP.valS (s.drop m)) (by omega) hV hcb hv
    rw [← hVq] at hrow
    have htt : (s.take m).take q = s.take q := by rw [List.take_take, Nat.min_eq_left (by omega)]
    generalize ExP.valS ((s.take m).drop q) = cv at *
    cases i with
    | zero =>
      dsimp only [apJ32]
      repeat' (first | ((with_reducible first | show wpS _ _ _ _ | show putD _ _ _ _ | show putW _ _ _ _ | show splitG _ _ _ | show wpQ _ _ _ _ _ _ | show wpD _ _ _ _ _ _ _ | show wpX _ _ _ _ _ _ _ | show expX _ _ _ _ _ _ | show stepX _ _ _ _ | show keepR _ _ _ | show wpY _ _ _ _); conv => whnf) | ((with_reducible show RetN _ _ _); refine retB fun β => ?_) | ((with_reducible show _ ∧ _); first | (apply And.intro; (· intro h; exfalso; first | omega | (revert h; decide)); intro _) | (apply And.intro; rotate_left; (· intro h; exfalso; first | omega | (revert h; decide)); intro _) | (refine ⟨fun _ => ?_, fun _ => ?_⟩) | (apply And.intro; · kernel_rfl) | (apply And.intro; · (show inK _ _; unfold inK; omega)) | (apply And.intro; · (show (_ : Int) ≤ 9223372036854775807; (try simp only [List.length_append, List.length_drop, List.length_take, List.length_cons, List.length_nil]); omega))) | ((with_reducible show AllBe _); refine allBe fun βe => ?_; conv => whnf) | ((with_reducible show bothX _ _); refine bothI ?_ ?_; conv => whnf) | (with_reducible exact trivial) | ((with_reducible show CallN _ _ _ _ _ _ _ _); refine call_of env_ok rfl 1000 ?_) | ((with_reducible show XopN _ _ _ _ _ _); refine xop_of env_ok rfl 1000 ?_) | ((with_reducible show CallX _ _ _ _ _ _); first | (refine callX (.tup [.int .i64 (cv : Nat), .any .nilIface]) (by kernel_rfl) rfl (⟨trivial, rfl, trivial⟩) (fun β w hm => hA w) ?_)) | ((with_reducible show OpX _ _ _ _); first | (refine opx_build1 (sz := 1) rfl rfl rfl (xs := [.int .u32 (cv : Nat)]) (fun β => rfl) rfl (by omega) (by omega) hu hsz hzv (fun g1 => ?_)) | (refine opx_append0 (sz := 1) 0 rfl hu hi hz0 hz1 rfl (by omega) rfl rfl rfl (by unfold maxLen; omega) (by rw [hz2]; omega) (by simp [Value.oneCell']) (by omega) (fun g2 cap2 => ?_))) | ((with_reducible show ∃ _ : SV, _); first | fail) | ((with_reducible show ∃ _, _); first | (refine ⟨q, by rw [htl]; omega, by rw [htl]; omega, ?_⟩)))
      refine hI _ ⟨⟨0 + 1, q, g2, cap2⟩, by dsimp only; omega, by dsimp only; omega, fun h => by dsimp only at h ⊢; omega, by dsimp only; omega⟩ (by dsimp only; omega) (by dsimp only [apJ32]; rw [← hrow _ rfl, ← htt]; ((with_reducible show wk _ _); repeat' (first | exact trivial | exact eqSV_refl _ | (refine eqI ?_) | (refine eqS ?_) | (with_reducible exact rfl) | apply And.intro | exact Nat.zero_lt_one | exact Nat.le_of_ble_eq_true rfl | (with_reducible assumption) | ((show (_ : Int) = _); (try dsimp only); omega) | ((show eqSV _ _); simp [eqSV, isB, bval, *]; done) | rfl)); all_goals (exact fun b x h => h))
    | succ i =>
      dsimp only [apJ32]
      repeat' (first | ((with_reducible first | show wpS _ _ _ _ | show putD _ _ _ _ | show putW _ _ _ _ | show splitG _ _ _ | show wpQ _ _ _ _ _ _ | show wpD _ _ _ _ _ _ _ | show wpX _ _ _ _ _ _ _ | show expX _ _ _ _ _ _ | show stepX _ _ _ _ | show keepR _ _ _ | show wpY _ _ _ _); conv => whnf) | ((with_reducible show RetN _ _ _); refine retB fun β => ?_) | ((with_reducible show _ ∧ _); first | (apply And.intro; (· intro h; exfalso; first | omega | (revert h; decide)); intro _) | (apply And.intro; rotate_left; (· intro h; exfalso; first | omega | (revert h; decide)); intro _) | (refine ⟨fun _ => ?_, fun _ => ?_⟩) | (apply And.intro; · kernel_rfl) | (apply And.intro; · (show inK _ _; unfold inK; omega)) | (apply And.intro; · (show (_ : Int) ≤ 9223372036854775807; (try simp only [List.length_append, List.length_drop, List.length_take, List.length_cons, List.length_nil]); omega))) | ((with_reducible show AllBe _); refine allBe fun βe => ?_; conv => whnf) | ((with_reducible show bothX _ _); refine bothI ?_ ?_; conv => whnf) | (with_reducible exact trivial) | ((with_reducible show CallN _ _ _ _ _ _ _ _); refine call_of env_ok rfl 1000 ?_) | ((with_reducible show XopN _ _ _ _ _ _); refine xop_of env_ok rfl 1000 ?_) | ((with_reducible show CallX _ _ _ _ _ _); first | (refine callX (.tup [.int .i64 (cv : Nat), .any .nilIface]) (by kernel_rfl) rfl (⟨trivial, rfl, trivial⟩) (fun β w hm => hA w) ?_)) | ((with_reducible show OpX _ _ _ _); first | (refine opx_build1 (sz := 1) rfl rfl rfl (xs := [.int .u32 (cv : Nat)]) (fun β => rfl) rfl (by omega) (by omega) hu hsz hzv (fun g1 => ?_)) | (refine opx_append (sz := 1) 1 2 rfl hu hi hz0 hz1 rfl (by omega) rfl rfl rfl rfl (by unfold maxLen; omega) (by rw [hz2]; omega) (by simp [Value.oneCell']) (by kernel_rfl) (Nat.zero_le _) (fun g2 cap2 => ?_))) | ((with_reducible show ∃ _ : SV, _); first | fail) | ((with_reducible show ∃ _, _); first | (refine ⟨q, by rw [htl]; omega, by rw [htl]; omega, ?_⟩)))
      refine hI _ ⟨⟨i + 1 + 1, q, g2, cap2⟩, by dsimp only; omega, by dsimp only; omega, fun h => by dsimp only at h ⊢; omega, by dsimp only; omega⟩ (by dsimp only; omega) (by dsimp only [apJ32]; rw [← hrow _ rfl, ← htt]; ((with_reducible show wk _ _); repeat' (first | exact trivial | exact eqSV_refl _ | (refine eqI ?_) | (refine eqS ?_) | (with_reducible exact rfl) | apply And.intro | exact Nat.zero_lt_one | exact Nat.le_of_ble_eq_true rfl | (with_reducible assumption) | ((show (_ : Int) = _); (try dsimp only); omega) | ((show eqSV _ _); simp [eqSV, isB, bval, *]; done) | rfl)); all_goals (exact fun b x h => h))
  · obtain rfl : m = 0 := by omega
    simp only [List.drop_zero] at hV ⊢
    have hle := ExP.nd_le (b := 1000000000) (by omega) hV
    have hTR := fun a (cap : Nat) (w' : World) hc hs' => trim_any a i cap (ExP.valS s) w' hV hc (by omega) hs'
    cases i with
    | zero =>
      dsimp only [apJ32]
      have h0 : ExP.nd 1000000000 (ExP.valS s) = 0 := by omega
      have e : nv .u32 1000000000 (ExP.valS s) = [] := List.length_eq_zero_iff.1 (by rw [nv_len, h0])
      have hT := fun w' => hTR none 0 w' (Nat.le_refl _) (sl_nil _ _)
      rw [h0] at hT
      repeat' (first | ((with_reducible first | show wpS _ _ _ _ | show putD _ _ _ _ | show putW _ _ _ _ | show splitG _ _ _ | show wpQ _ _ _ _ _ _ | show wpD _ _ _ _ _ _ _ | show wpX _ _ _ _ _ _ _ | show expX _ _ _ _ _ _ | show stepX _ _ _ _ | show keepR _ _ _ | show wpY _ _ _ _); conv => whnf) | ((with_reducible show RetN _ _ _); refine retB fun β => ?_) | ((with_reducible show _ ∧ _); first | (apply And.intro; (· intro h; exfalso; first | omega | (revert h; decide)); intro _) | (apply And.intro; rotate_left; (· intro h; exfalso; first | omega | (revert h; decide)); intro _) | (refine ⟨fun _ => ?_, fun _ => ?_⟩) | (apply And.intro; · kernel_rfl) | (apply And.intro; · (show inK _ _; unfold inK; omega)) | (apply And.intro; · (show (_ : Int) ≤ 9223372036854775807; (try simp only [List.length_append, List.length_drop, List.length_take, List.length_cons, List.length_nil]); omega))) | ((with_reducible show AllBe _); refine allBe fun βe => ?_; conv => whnf) | ((with_reducible show bothX _ _); refine bothI ?_ ?_; conv => whnf) | (with_reducible exact trivial) | ((with_reducible show CallN _ _ _ _ _ _ _ _); refine call_of env_ok rfl 1000 ?_) | ((with_reducible show XopN _ _ _ _ _ _); refine xop_of env_ok rfl 1000 ?_) | ((with_reducible show CallX _ _ _ _ _ _); first | (refine callX (.any (.slice none 0 0)) (by kernel_rfl) rfl (rfl) (fun β w hm => hT w) ?_)) | ((with_reducible show OpX _ _ _ _); first | fail) | ((with_reducible show ∃ _ : SV, _); first | fail) | ((with_reducible show ∃ _, _); first | fail))
      refine ret fun β w' hm => ?_
      exact ⟨none, 0, by rw [h0]; rfl, by rw [e]; exact sl_nil _ _, fun h => absurd e h, fun _ => rfl, by rw [h0]; exact Nat.le_refl _, hm.below⟩
    | succ i =>
      dsimp only [apJ32]
      repeat' (first | ((with_reducible first | show wpS _ _ _ _ | show putD _ _ _ _ | show putW _ _ _ _ | show splitG _ _ _ | show wpQ _ _ _ _ _ _ | show wpD _ _ _ _ _ _ _ | show wpX _ _ _ _ _ _ _ | show expX _ _ _ _ _ _ | show stepX _ _ _ _ | show keepR _ _ _ | show wpY _ _ _ _); conv => whnf) | ((with_reducible show RetN _ _ _); refine retB fun β => ?_) | ((with_reducible show _ ∧ _); first | (apply And.intro; (· intro h; exfalso; first | omega | (revert h; decide)); intro _) | (apply And.intro; rotate_left; (· intro h; exfalso; first | omega | (revert h; decide)); intro _) | (refine ⟨fun _ => ?_, fun _ => ?_⟩) | (apply And.intro; · kernel_rfl) | (apply And.intro; · (show inK _ _; unfold inK; omega)) | (apply And.intro; · (show (_ : Int) ≤ 9223372036854775807; (try simp only [List.length_append, List.length_drop, List.length_take, List.length_cons, List.length_nil]); omega))) | ((with_reducible show AllBe _); refine allBe fun βe => ?_; conv => whnf) | ((with_reducible show bothX _ _); refine bothI ?_ ?_; conv => whnf) | (with_reducible exact trivial) | ((with_reducible show CallN _ _ _ _ _ _ _ _); refine call_of env_ok rfl 1000 ?_) | ((with_reducible show XopN _ _ _ _ _ _); refine xop_of env_ok rfl 1000 ?_) | ((with_reducible show CallX _ _ _ _ _ _); first | (refine callX (.any (.slice (some ⟨g, 0, none⟩) (ExP.nd 1000000000 (ExP.valS s)) cap)) (by kernel_rfl) rfl (rfl) (fun β w hm => hTR (some ⟨g, 0, none⟩) cap w (Mem.own hm 1 rfl).2.2 (Mem.own hm 1 rfl).1) ?_)) | ((with_reducible show OpX _ _ _ _); first | fail) | ((with_reducible show ∃ _ : SV, _); first | fail) | ((with_reducible show ∃ _, _); first | fail))
      refine ret fun β w' hm => ?_
      obtain ⟨q1, q2, q3⟩ := Mem.own hm 1 rfl
      exact ⟨_, cap, rfl, sl_pre q1 (dgN_pre hle .u32), fresh_own q2 rfl, (fun h => by cases h), Nat.le_trans hle q3, hm.below⟩
end Go.Proofs.YtfodbfbljeeojaaGreatDoor
namespace Go.Proofs
open Go.Shelf
def Tryz.lays160_ren : Go.Shelf.Ren := ⟨fun | 160 => 112 | 232 => 130 | 231 => 121 | 227 => 122 | 234 => 131 | 233 => 123 | 236 => 132 | 235 => 124 | 228 => 142 | 271 => 148 | 151 => 144 | 197 => 143 | 120 => 160 | 152 => 157 | 260 => 156 | 137 => 163 | 119 => 164 | 224 => 165 | 225 => 166 | 217 => 167 | 266 => 168 | n => n, fun | 9 => 9 | 4 => 4 | 3 => 3 | 5 => 5 | 117 => 134 | 116 => 133 | 0 => 0 | 124 => 137 | 21 => 21 | 105 => 155 | 46 => 127 | 119 => 178 | 139 => 181 | 138 => 180 | n => n, fun | 3 => 4 | 4 => 5 | n => n⟩
theorem Tryz.lays160 : Go.Proofs.Lays.n160 Tryz.prog Tryz.lays160_ren := {
  mixed := by kernel_rfl
  f119 := Tryz.func164.trans (congrArg some (by kernel_rfl))
  f120 := Tryz.func160.trans (congrArg some (by kernel_rfl))
  f137 := Tryz.func163.trans (congrArg some (by kernel_rfl))
  f151 := Tryz.func144.trans (congrArg some (by kernel_rfl))
  f152 := Tryz.func157.trans (congrArg some (by kernel_rfl))
  f160 := Tryz.func112.trans (congrArg some (by kernel_rfl))
  f197 := Tryz.func143.trans (congrArg some (by kernel_rfl))
  f217 := Tryz.func167.trans (congrArg some (by kernel_rfl))
  f224 := Tryz.func165.trans (congrArg some (by kernel_rfl))
  f225 := Tryz.func166.trans (congrArg some (by kernel_rfl))
  f227 := Tryz.func122.trans (congrArg some (by kernel_rfl))
  f228 := Tryz.func142.trans (congrArg some (by kernel_rfl))
  f231 := Tryz.func121.trans (congrArg some (by kernel_rfl))
  f232 := Tryz.func130.trans (congrArg some (by kernel_rfl))
  f233 := Tryz.func123.trans (congrArg some (by kernel_rfl))
  f234 := Tryz.func131.trans (congrArg some (by kernel_rfl))
  f235 := Tryz.func124.trans (congrArg some (by kernel_rfl))
  f236 := Tryz.func132.trans (congrArg some (by kernel_rfl))
  f260 := Tryz.func156.trans (congrArg some (by kernel_rfl))
  f266 := Tryz.func168.trans (congrArg some (by kernel_rfl))
  f271 := Tryz.func148.trans (congrArg some (by kernel_rfl))
  t0 := Tryz.underlying0
  a0 := Tryz.isAgg0
  z0 := Tryz.sizeOf0
  v0 := Tryz.zeroValue0
  t3 := Tryz.underlying3
  a3 := Tryz.isAgg3
  z3 := Tryz.sizeOf3
  v3 := Tryz.zeroValue3
  t4 := Tryz.underlying4
  a4 := Tryz.isAgg4
  z4 := Tryz.sizeOf4
  v4 := Tryz.zeroValue4
  t5 := Tryz.underlying5
  a5 := Tryz.isAgg5
  z5 := Tryz.sizeOf5
  v5 := Tryz.zeroValue5
  t9 := Tryz.underlying9
  a9 := Tryz.isAgg9
  z9 := Tryz.sizeOf9
  v9 := Tryz.zeroValue9
  t21 := Tryz.underlying21
  a21 := Tryz.isAgg21
  z21 := Tryz.sizeOf21
  v21 := Tryz.zeroValue21
  t46 := Tryz.underlying127
  a46 := Tryz.isAgg127
  z46 := Tryz.sizeOf127
  v46 := Tryz.zeroValue127
  t105 := Tryz.underlying155
  a105 := Tryz.isAgg155
  z105 := Tryz.sizeOf155
  v105 := Tryz.zeroValue155
  t116 := Tryz.underlying133
  a116 := Tryz.isAgg133
  z116 := Tryz.sizeOf133
  t117 := Tryz.underlying134
  a117 := Tryz.isAgg134
  z117 := Tryz.sizeOf134
  v117 := Tryz.zeroValue134
  t119 := Tryz.underlying178
  a119 := Tryz.isAgg178
  z119 := Tryz.sizeOf178
  t124 := Tryz.underlying137
  a124 := Tryz.isAgg137
  z124 := Tryz.sizeOf137
  v124 := Tryz.zeroValue137
  t138 := Tryz.underlying180
  a138 := Tryz.isAgg180
  z138 := Tryz.sizeOf180
  v138 := Tryz.zeroValue180
  t139 := Tryz.underlying181
  a139 := Tryz.isAgg181
  z139 := Tryz.sizeOf181
  v139 := Tryz.zeroValue181
  g3 := by kernel_rfl
  g4 := by kernel_rfl }
end Go.Proofs
