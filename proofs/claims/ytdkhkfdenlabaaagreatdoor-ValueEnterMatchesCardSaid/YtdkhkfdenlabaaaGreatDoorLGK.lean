/- The program's numbers: quotients and common divisors. The program's numbers: common divisors. Fractions of the program: sums. Fractions of the program: the functions within Add, Sub, Mul The reference's numbers: trim, Compare, digitAt, Plus, Less. The reference's product, phase by phase. -/
import Derived.Test.YtdkhkfdenlabaaaGreatDoorLGG
import Derived.Test.YtdkhkfdenlabaaaGreatDoorLGJ
import Derived.Test.YtdkhkfdenlabaaaGreatDoorLGD
set_option linter.unusedSimpArgs false
set_option linter.unusedVariables false
set_option maxRecDepth 100000
set_option maxHeartbeats 64000000
namespace Go.Proofs.YtdkhkfdenlabaaaGreatDoor
open Go.RowKit
open Sym
attribute [local irreducible] Calls Sym.AggEq ExP.nd ExP.dig ExP.upd
theorem nv_nil0 (k : IntKind) (b : Nat) : nv k b 0 = [] := by
 have := nv_len k b 0
 rw [ExP.nd_zero] at this
 exact List.length_eq_zero_iff.1 this
structure DvT where
 j : Nat
 V : Nat
 r : Nat
 ra : Option Addr
 rc : Nat
structure DvI (x y n : Nat) (t : DvT) : Prop where
 hj : t.j ≤ n
 d : ExP.DivI 1000000000 x y t.j t.V t.r
 hn : t.ra = none → t.rc = 0
 hc : ExP.nd 1000000000 t.r ≤ t.rc
theorem divide_any (a b : Option Addr) (ca cb x y : Nat) (w : World) (hw0 : 0 < w.heap.size) (hx : ExP.nd 1000000000 x ≤ 10000000) (hy : ExP.nd 1000000000 y ≤ 10000000) (hy0 : 0 < y) (hs : SlAt a (nv .u32 1000000000 x) w) (ht : SlAt b (nv .u32 1000000000 y) w) :
  Calls Tryz.prog 203 #[.slice a (ExP.nd 1000000000 x) ca, .slice b (ExP.nd 1000000000 y) cb] w (NatOut2 .u32 1000000000 (x / y) (x % y) w) := by
 obtain ⟨i0, hi, hz0, hz1, hz2⟩ := info_parts u32Info
 have hu := Tryz.underlying137
 have hsz := fun w => Tryz.sizeOf161 w
 have hzv := fun w => Tryz.zeroValue161 w
 have hgx := fun i (h : i < ExP.nd 1000000000 x) => nv_get (k := .u32) h
 have hnx := nv_ne (k := .u32) (b := 1000000000) (x := x)
 have hdx := fun i => ExP.dig_lt (b := 1000000000) (by omega) i x
 have hxl := ExP.nd_lt (b := 1000000000) (by omega) x
 have hTR := fun g (V : Nat) (w' : World) (hV : V < 1000000000 ^ (ExP.nd 1000000000 x)) hs' => trim_any (some ⟨g, 0, none⟩) (ExP.nd 1000000000 x) (ExP.nd 1000000000 x) V w' hV (Nat.le_refl _) (by omega) hs'
 have hyb := hy
 have hDG := fun (g c R : Nat) (w' : World) (h0 : 0 < w'.heap.size) (hR : ExP.nd 1000000000 R ≤ 20000000) (hRy : R < y * 1000000000) hb h => digit_any (some ⟨g, 0, none⟩) b c cb R y w' h0 hR (by omega) hy0 hRy h (SlAt.below ht hb)
 have hTM := fun (g m : Nat) (hm : m < 1000000000) (w' : World) hb (h : SlAt (some ⟨g, 0, none⟩) (nv .u32 1000000000 m) w') => times_any b (some ⟨g, 0, none⟩) cb 1 y m w' (by omega) (by have := ExP.dg_one (b := 1000000000) (by omega) hm; omega) (SlAt.below ht hb) h
 refine yE Tryz.func203 rfl Tryz.results203 Tryz.ntmps203 [] [] [.any (.slice a (ExP.nd 1000000000 x) ca), .any (.slice b (ExP.nd 1000000000 y) cb)] w ?_
 generalize ExP.nd 1000000000 x = n at *
 generalize hMY : ExP.nd 1000000000 y = m at *
 repeat' (first | refine yX ?_ | (apply And.intro <;> intro _) | apply bothI | refine retB fun β => ?_ | intro βe | (refine opx_make (m := n) rfl (by omega) rfl rfl hu hi hz0 hz1 rfl (by rw [hz2]; omega) (by unfold maxLen; omega) (fun g => ?_)) | refine yO (x_len Tryz.underlying137) ?_ | exact trivial)
 rw [rep_row 1000000000]
 refine loop_learn0 hw0 ?_
 refine loop env_ok rfl (T := {t : DvT // DvI x y n t}) (fun t => ⟨[(0, .any (.slice a n ca)), (1, .any (.slice b m cb)), (6, .any (.slice (some ⟨g, 0, none⟩) n n)), (7, .any (.slice t.1.ra (ExP.nd 1000000000 t.1.r) t.1.rc)), (8, .int .i64 ((t.1.j : Nat) - 1 : Int))], [(0, true, .blob (OwnS 161 1 g n n (valsK .u32 (ExP.dgN 1000000000 n t.1.V)))), (1, false, .blob (SlF w.heap.size t.1.ra (nv .u32 1000000000 t.1.r)))], 2, 46⟩) (fun t => t.1.j) ⟨⟨n, 0, 0, none, 0⟩, ⟨Nat.le_refl _, ExP.div_start hxl, fun _ => rfl, by rw [ExP.nd_zero]; exact Nat.le_refl _⟩⟩ 1000 [] [] (fun _ => by exact Nat.zero_le _) (by dsimp only; rw [nv_nil0, ExP.nd_zero]; ((with_reducible show wk _ _); repeat' (first | exact trivial | exact eqSV_refl _ | refine eqI ?_ | refine eqS ?_ | apply And.intro | exact yV | fail)); all_goals exact fun b x h => h) (fun t I hI => ?_)
 obtain ⟨⟨j, V, r, ra, rc⟩, hj, hD, hn, hc⟩ := t
 dsimp only at hj hD hn hc ⊢
 by_cases hj0 : j = 0
 ·subst hj0
  obtain ⟨rfl, rfl⟩ := ExP.div_end hD
  have hl := ExP.div_lt (by omega) hD hxl
  repeat' (first | refine yX ?_ | (apply And.intro <;> intro _) | apply bothI | refine retB fun β => ?_ | intro βe | refine yK (.any (.slice (some ⟨g, 0, none⟩) (ExP.nd 1000000000 (x / y)) n)) (fun β w hm => hTR g (x / y) w hl (Mem.own hm 0 rfl).1) ?_ | exact trivial)
  refine ret fun β w' hm => ?_
  obtain ⟨q1, q2, q3⟩ := Mem.own hm 0 rfl
  have hle := ExP.nd_le (b := 1000000000) (by omega) hl
  exact ⟨_, n, ra, rc, rfl, ⟨sl_pre q1 (dgN_pre hle .u32), fresh_own q2 rfl, (fun h => by cases h), hle⟩, ⟨Mem.slF hm 1 rfl, Mem.freshF hm 1 rfl rfl, hn, hc⟩, hm.below⟩
 ·obtain ⟨i, rfl⟩ : ∃ i, j = i + 1 := ⟨j - 1, by omega⟩
  obtain ⟨ad, rfl⟩ := SlAt.some hs (hnx (by omega))
  have r1 := sl_read hs (hgx i (by omega))
  have hdx := hdx i
  have hry : r < y := by rw [hD.r]; exact Nat.mod_lt _ hy0
  obtain ⟨hD1, hq⟩ := ExP.div_next (by omega) hy0 hD rfl
  have hrn := ExP.nd_mono (b := 1000000000) (by omega) (Nat.le_of_lt hry)
  rw [hMY] at hrn
  have hRl := ExP.cons_lt hdx (ExP.nd_lt (b := 1000000000) (by omega) r)
  have hcons := ExP.cons_dg (b := 1000000000) (r := r) (by omega) hdx (ExP.nd 1000000000 r)
  have hset := ExP.dgN_set (b := 1000000000) (n := n) (V := V) (j := i) (by omega) hq
  have hRy : ExP.dig 1000000000 i x + r * 1000000000 < y * 1000000000 := by omega
  have hnl := nv_len .u32 1000000000 r
  have hrow : ([.int .u32 ((ExP.dig 1000000000 i x : Nat) : Int)] : List Value) ++ nv .u32 1000000000 r = valsK .u32 (ExP.dgN 1000000000 (1 + ExP.nd 1000000000 r) (ExP.dig 1000000000 i x + r * 1000000000)) := by rw [Nat.add_comm 1, hcons]; rfl
  generalize ExP.dig 1000000000 i x = dx at *
  generalize hR : dx + r * 1000000000 = R at *
  have hRn := ExP.nd_le (b := 1000000000) (by omega) hRl
  have hmod : R % y = R - y * (R / y) := by have := Nat.div_add_mod R y; omega
  have hle : y * (R / y) ≤ R := Nat.mul_div_le R y
  have hMN := fun (g c : Nat) (a2 : Option Addr) (c2 : Nat) (w' : World) h1 h2 => minus_any (some ⟨g, 0, none⟩) a2 c c2 R (y * (R / y)) w' (by omega) (by have := ExP.nd_mono (b := 1000000000) (by omega) hle; omega) hle (fun h => by cases h) h1 h2
  rw [hmod] at hD1
  have hDG := fun g c w' h0 => hDG g c R w' h0 (by omega) hRy
  have hT2 := fun g (c : Nat) hc (w' : World) hs' => trim_any (some ⟨g, 0, none⟩) (1 + ExP.nd 1000000000 r) c R w' (by rw [Nat.add_comm]; exact hRl) hc (by omega) hs'
  have hpre := dgN_pre (b := 1000000000) (x := R) (by omega : ExP.nd 1000000000 R ≤ 1 + ExP.nd 1000000000 r) .u32
  generalize R / y = q at *
  have hTM := hTM
  have hT1 := fun g (w' : World) hs' => trim_any (some ⟨g, 0, none⟩) 1 1 q w' (by simpa using hq) (Nat.le_refl _) (by omega) hs'
  rw [one_row hq] at hT1
  have hpre1 : ∀ (i : Nat) (v : Value), (nv .u32 1000000000 q)[i]? = some v → ([.int .u32 (q : Nat)] : List Value)[i]? = some v := by rw [← one_row hq]; exact dgN_pre (ExP.dg_one (by omega) hq) .u32
  repeat' (first | refine yX ?_ | (apply And.intro <;> intro _) | apply bothI | refine retB fun β => ?_ | intro βe | refine yK (.any (.slice (some ⟨g2, 0, none⟩) (ExP.nd 1000000000 R) cap2)) (fun β w hm => hT2 g2 cap2 (Mem.own hm 2 rfl).2.2 w (by have := (Mem.own hm 2 rfl).1; rw [hrow] at this; exact this)) ?_ | refine yK (.int .u32 (q : Nat)) (fun β w hm => hDG g2 cap2 w (Nat.lt_of_lt_of_le hw0 hm.base_le) hm.below (sl_pre (by have := (Mem.own hm 2 rfl).1; rw [hrow] at this; exact this) hpre)) ?_ | refine yK (.any (.slice (some ⟨g3, 0, none⟩) (ExP.nd 1000000000 q) 1)) (fun β w hm => hT1 g3 w (Mem.own hm 3 rfl).1) ?_ | (refine callNat .u32 1000000000 (y * q) hw0 (by kernel_rfl) rfl (fun β w' hm => hTM g3 q hq w' hm.below (sl_pre (Mem.own hm 3 rfl).1 hpre1)) (fun ta tca hn1 hc1 hs1 => ?_)) | (refine callNat .u32 1000000000 (R - y * q) hw0 (by kernel_rfl) rfl (fun β w' hm => hMN g2 cap2 ta tca w' (sl_pre (by have := (Mem.own hm 2 rfl).1; rw [hrow] at this; exact this) hpre) (Mem.slF hm 4 rfl)) (fun ua uca hn2 hc2 hs2 => ?_)) | (refine opx_build1 (sz := 1) rfl rfl rfl (xs := [.int .u32 (dx : Nat)]) (fun β => rfl) rfl (by omega) (by omega) hu hsz hzv (fun g1 => ?_)) | (refine opx_appendW (sz := 1) 2 (ys := nv .u32 1000000000 r) rfl hu hi hz0 hz1 rfl (by omega) rfl rfl rfl hn (by rw [Nat.mul_one]; exact hnl) (fun β w' hm => Mem.slF hm 1 rfl) (by unfold maxLen; omega) (by rw [hz2]; omega) (valsK_one _ _) (by kernel_rfl) (Nat.zero_le _) (fun g2 cap2 => ?_)) | (refine opx_store env_ok 0 (u := .int .u32 (q : Nat)) rfl rfl rfl rfl (fun β => rfl) rfl rfl (by omega) ?_) | (refine opx_build1 (sz := 1) rfl rfl rfl (xs := [.int .u32 (q : Nat)]) (fun β => rfl) rfl (by omega) (by omega) hu hsz hzv (fun g3 => ?_)) | refine yO (x_len Tryz.underlying137) ?_ | refine yN (j := i) Tryz.underlying137 Tryz.sizeOf161 ?_ | refine yO (v := .int .u32 (dx : Nat)) (x_load1 (fun w => Tryz.isAgg161 w) (fun w' hb β => by rw [Nat.mul_one]; exact r1 w' hb)) ?_ | refine yO (v := .int .u32 (q : Nat)) (x_loadO 0 (.int .u32 (q : Nat)) (fun w => Tryz.isAgg161 w) rfl (fun β => by rw [Nat.mul_one, List.getElem?_set_self (by rw [valsK_len, ExP.dgN_len]; omega)]; rfl)) ?_ | exact trivial)
  refine back_copy 1 5 rfl rfl rfl (Nat.zero_le _) (by kernel_rfl) ?_
  refine hI _ ⟨⟨i, ExP.upd 1000000000 V i q, R - y * q, ua, uca⟩, ⟨by dsimp only; omega, hD1, hn2, hc2⟩⟩ (by dsimp only; omega) (by dsimp only; ((with_reducible show wk _ _); repeat' (first | exact trivial | exact eqSV_refl _ | refine eqI ?_ | refine eqS ?_ | apply And.intro | exact yV | fail)); all_goals first | exact fun b x h => h | (rw [Nat.mul_one, valsK_set, hset]; exact fun b x h => h))
def SlL (base : Nat) (L : List (Option Addr)) (a : Option Addr) (xs : List Value) (b : Nat) (o : Option Obj) : Prop := SlB a xs b o ∧ ((xs ≠ [] → base ≤ b) ∨ a ∈ L)
structure CmT where
 u : Nat
 v : Nat
 a : Option Addr
 c : Nat
 b : Option Addr
 d : Nat
structure CmI (x y : Nat) (t : CmT) : Prop where
 g : Nat.gcd t.u t.v = Nat.gcd x y
 hu : ExP.nd 1000000000 t.u ≤ 10000000
 hv : ExP.nd 1000000000 t.v ≤ 10000000
 ha : t.a = none → t.c = 0
 hc : ExP.nd 1000000000 t.u ≤ t.c
 hb : t.b = none → t.d = 0
 hd : ExP.nd 1000000000 t.v ≤ t.d
theorem common_any (L : List (Option Addr)) (a b : Option Addr) (ca cb x y : Nat) (w : World) (hw0 : 0 < w.heap.size) (hx : ExP.nd 1000000000 x ≤ 10000000) (hy : ExP.nd 1000000000 y ≤ 10000000) (ha : a = none → ca = 0) (hca : ExP.nd 1000000000 x ≤ ca) (hb : b = none → cb = 0) (hcb : ExP.nd 1000000000 y ≤ cb) (hLa : 0 < x → a ∈ L) (hLb : 0 < y → b ∈ L) (hs : SlAt a (nv .u32 1000000000 x) w) (ht : SlAt b (nv .u32 1000000000 y) w) :
  Calls Tryz.prog 186 #[.slice a (ExP.nd 1000000000 x) ca, .slice b (ExP.nd 1000000000 y) cb] w (NatAny L .u32 1000000000 (Nat.gcd x y) w) := by
 refine yE Tryz.func186 rfl Tryz.results186 Tryz.ntmps186 [] [] [.any (.slice a (ExP.nd 1000000000 x) ca), .any (.slice b (ExP.nd 1000000000 y) cb)] w ?_
 repeat' (first | refine yX ?_ | (apply And.intro <;> intro _) | apply bothI | refine retB fun β => ?_ | intro βe | exact trivial)
 refine loop_learnA a (nv .u32 1000000000 x) hw0 rfl hs ?_
 refine loop_learnA b (nv .u32 1000000000 y) hw0 rfl ht ?_
 refine loop env_ok rfl (T := {t : CmT // CmI x y t}) (fun t => ⟨[(0, .any (.slice t.1.a (ExP.nd 1000000000 t.1.u) t.1.c)), (1, .any (.slice t.1.b (ExP.nd 1000000000 t.1.v) t.1.d))], [(0, false, .blob (SlL w.heap.size L t.1.a (nv .u32 1000000000 t.1.u))), (1, false, .blob (SlL w.heap.size L t.1.b (nv .u32 1000000000 t.1.v)))], 2, 19⟩) (fun t => t.1.v) ⟨⟨x, y, a, ca, b, cb⟩, ⟨rfl, hx, hy, ha, hca, hb, hcb⟩⟩ 1000 [] [] (fun _ => by exact Nat.zero_le _) (by dsimp only; ((with_reducible show wk _ _); repeat' (first | exact trivial | exact eqSV_refl _ | refine eqI ?_ | refine eqS ?_ | apply And.intro | exact yV | fail)); all_goals first | exact fun b x h => ⟨h, (by first | exact slL_or hLa | exact slL_or hLb)⟩) (fun t I hI => ?_)
 obtain ⟨⟨u, v, a1, c1, b1, d1⟩, hG, hu, hv, ha1, hc1, hb1, hd1⟩ := t
 dsimp only at hG hu hv ha1 hc1 hb1 hd1 ⊢
 have hZ := fun w => zero_any b1 (ExP.nd 1000000000 v) d1 w
 by_cases hv0 : v = 0
 ·have hz : decide ((ExP.nd 1000000000 v : Int) = 0) = true := by subst hv0; rw [ExP.nd_zero]; rfl
  rw [hz] at hZ
  repeat' (first | refine yX ?_ | (apply And.intro <;> intro _) | apply bothI | refine retB fun β => ?_ | intro βe | refine yK (.lit true) (fun β w hm => hZ w) ?_ | exact trivial)
  refine ret fun β w' hm => ?_
  subst hv0
  rw [Nat.gcd_zero_right] at hG
  subst hG
  obtain ⟨q1, -, -, -⟩ := hm.row 0 _ _ rfl
  refine ⟨a1, c1, rfl, q1.2.1.at q1.1, q1.2.2.imp (fun h => ?_) id, ha1, hc1, hm.below⟩
  exact SlF.fresh (w := w') ⟨q1.2.1, h⟩ rfl
 ·have hz : decide ((ExP.nd 1000000000 v : Int) = 0) = false := by
   have := (ExP.nd_pos (b := 1000000000) (by omega)).2 (Nat.pos_of_ne_zero hv0)
   exact decide_eq_false (by omega)
  rw [hz] at hZ
  have hDV := fun (w' : World) h0 h1 h2 => divide_any a1 b1 c1 d1 u v w' h0 hu hv (Nat.pos_of_ne_zero hv0) h1 h2
  have hml := Nat.mod_lt u (Nat.pos_of_ne_zero hv0)
  have hmn := ExP.nd_mono (b := 1000000000) (by omega) (Nat.le_of_lt hml)
  have hg2 : Nat.gcd v (u % v) = Nat.gcd x y := by rw [← hG, Nat.gcd_comm u v, Nat.gcd_rec v u, Nat.gcd_comm]
  generalize u % v = r at *
  generalize u / v = q at *
  repeat' (first | refine yX ?_ | (apply And.intro <;> intro _) | apply bothI | refine retB fun β => ?_ | intro βe | refine yK (.lit false) (fun β w hm => hZ w) ?_ | (refine callNat2 .u32 1000000000 q r hw0 (by kernel_rfl) rfl (fun β w' hm => hDV w' (Nat.lt_of_lt_of_le hw0 hm.base_le) ((hm.row 0 _ _ rfl).1.2.1.at (hm.row 0 _ _ rfl).1.1) ((hm.row 1 _ _ rfl).1.2.1.at (hm.row 1 _ _ rfl).1.1)) (fun qa qc ra rc h1 h2 h3 h4 h5 h6 => ?_)) | exact trivial)
  refine back_copy 0 1 rfl rfl rfl (Nat.zero_le _) (by kernel_rfl) ?_
  refine back_copy 1 3 rfl rfl rfl (Nat.zero_le _) (by kernel_rfl) ?_
  refine hI _ ⟨⟨v, r, b1, d1, ra, rc⟩, ⟨hg2, hv, by dsimp only; omega, hb1, hd1, h4, h5⟩⟩ (by dsimp only; omega) (by dsimp only; ((with_reducible show wk _ _); repeat' (first | exact trivial | exact eqSV_refl _ | refine eqI ?_ | refine eqS ?_ | apply And.intro | exact yV | fail)); all_goals first | exact fun b x h => h | exact fun b x h => ⟨h.1, .inl h.2⟩)
theorem sum_any (x y : FrV) (w : World) (hw0 : 0 < w.heap.size) (hx : FrIn .u32 1000000000 x w) (hy : FrIn .u32 1000000000 y w)
  (hxn : ExP.nd 1000000000 x.n ≤ 1000000) (hxd : ExP.nd 1000000000 x.d ≤ 1000000) (hyn : ExP.nd 1000000000 y.n ≤ 1000000) (hyd : ExP.nd 1000000000 y.d ≤ 1000000) :
  Calls Tryz.prog 175 #[x.val 1000000000, y.val 1000000000] w (FrOut .u32 1000000000 (ExP.sumN x.num y.num) w) := by
 obtain ⟨xm, xn, xd, xa, xc, xb, xe⟩ := x
 obtain ⟨ym, yn, yd, ya, yc, yb, ye⟩ := y
 obtain ⟨hx1, hx2, ⟨hx3, hx4, hx5, hx6⟩⟩ := hx
 obtain ⟨hy1, hy2, ⟨hy3, hy4, hy5, hy6⟩⟩ := hy
 dsimp only [FrV.num, FrV.val] at *
 have T1 := fun (w' : World) (h : BW w w') => times_any xa yb xc ye xn yd w' (by omega) (by omega) (hx1.below h) (hy2.below h)
 have T2 := fun (w' : World) (h : BW w w') => times_any ya xb yc xe yn xd w' (by omega) (by omega) (hy1.below h) (hx2.below h)
 have T3 := fun (w' : World) (h : BW w w') => times_any xb yb xe ye xd yd w' (by omega) (by omega) (hx2.below h) (hy2.below h)
 have m1 := ExP.nd_mul (b := 1000000000) (x := xn) (y := yd) (by omega)
 have m2 := ExP.nd_mul (b := 1000000000) (x := yn) (y := xd) (by omega)
 by_cases hm : xm = ym
 ·have hS : ExP.sumN ⟨xm, xn, xd⟩ ⟨ym, yn, yd⟩ = ⟨xm, xn * yd + yn * xd, xd * yd⟩ := by simp [ExP.sumN, hm]
  rw [hS]
  obtain rfl : xm = ym := hm
  refine yE Tryz.func175 rfl Tryz.results175 Tryz.ntmps175 [] [200001, 200004, 200006, 200007] [.agg [.bool xm, .any (.slice xa (ExP.nd 1000000000 xn) xc), .any (.slice xb (ExP.nd 1000000000 xd) xe)], .agg [.bool xm, .any (.slice ya (ExP.nd 1000000000 yn) yc), .any (.slice yb (ExP.nd 1000000000 yd) ye)]] w ?_
  repeat' (first | refine yX ?_ | (apply And.intro <;> intro _) | apply bothI | refine retB fun β => ?_ | intro βe | (refine callNat .u32 1000000000 (xn * yd) hw0 (by kernel_rfl) rfl (fun β w' hm => T1 w' hm.below) (fun a1 c1 h1 h2 h3 => ?_)) | (refine callNat .u32 1000000000 (yn * xd) hw0 (by kernel_rfl) rfl (fun β w' hm => T2 w' hm.below) (fun a2 c2 h4 h5 h6 => ?_)) | (refine callNat .u32 1000000000 (xd * yd) hw0 (by kernel_rfl) rfl (fun β w' hm => T3 w' hm.below) (fun a3 c3 h7 h8 h9 => ?_)) | (refine callNat .u32 1000000000 (xn * yd + yn * xd) hw0 (by kernel_rfl) rfl (fun β w' hm => plus_any a1 a2 c1 c2 _ _ w' (by omega) (by omega) (hm.slF 3 rfl) (hm.slF 4 rfl)) (fun a4 c4 h10 h11 h12 => ?_)) | (refine callNat .u32 1000000000 (xn * yd + yn * xd) hw0 (by kernel_rfl) rfl (fun β w' hm => plus_any a1 a2 c1 c2 _ _ w' (by omega) (by omega) (hm.slF 4 rfl) (hm.slF 3 rfl)) (fun a4 c4 h10 h11 h12 => ?_)) | refine yO (x_eqBB xm xm true (fun _ => rfl) (fun _ => rfl) (by simp) Tryz.underlying4) ?_ | exact trivial)
  all_goals first | (exfalso; simp_all; done) | skip
  all_goals refine ret fun β w' hm => ?_
  all_goals exact ⟨⟨_, _, _, a4, c4, a3, c3⟩, rfl, rfl, ⟨h10, h7, h11, h8⟩, Ls2 (hm.slF 6 rfl) (hm.freshF 6 rfl rfl) (hm.slF 5 rfl) (hm.freshF 5 rfl rfl), hm.below⟩
 ·by_cases hle : yn * xd ≤ xn * yd
  ·have hS : ExP.sumN ⟨xm, xn, xd⟩ ⟨ym, yn, yd⟩ = ⟨xm, xn * yd - yn * xd, xd * yd⟩ := by simp [ExP.sumN, hm, hle]
   rw [hS]
   have hc := (ExP.cmp_sgn 1000000000 (x := xn * yd) (y := yn * xd) (by omega)).1.2 hle
   refine yE Tryz.func175 rfl Tryz.results175 Tryz.ntmps175 [] [200001, 200004, 200006, 200007] [.agg [.bool xm, .any (.slice xa (ExP.nd 1000000000 xn) xc), .any (.slice xb (ExP.nd 1000000000 xd) xe)], .agg [.bool ym, .any (.slice ya (ExP.nd 1000000000 yn) yc), .any (.slice yb (ExP.nd 1000000000 yd) ye)]] w ?_
   repeat' (first | refine yX ?_ | (apply And.intro <;> intro _) | apply bothI | refine retB fun β => ?_ | intro βe | (refine callNat .u32 1000000000 (xn * yd) hw0 (by kernel_rfl) rfl (fun β w' hm => T1 w' hm.below) (fun a1 c1 h1 h2 h3 => ?_)) | (refine callNat .u32 1000000000 (yn * xd) hw0 (by kernel_rfl) rfl (fun β w' hm => T2 w' hm.below) (fun a2 c2 h4 h5 h6 => ?_)) | (refine callNat .u32 1000000000 (xd * yd) hw0 (by kernel_rfl) rfl (fun β w' hm => T3 w' hm.below) (fun a3 c3 h7 h8 h9 => ?_)) | refine yK (.int .i64 (ExP.cmpN 1000000000 (xn * yd) (yn * xd))) (fun β w' hm => compare_any a1 a2 c1 c2 _ _ w' (by omega) (by omega) (hm.slF 3 rfl) (hm.slF 4 rfl)) ?_ | refine yK (.int .i64 (ExP.cmpN 1000000000 (xn * yd) (yn * xd))) (fun β w' hm => compare_any a1 a2 c1 c2 _ _ w' (by omega) (by omega) (hm.slF 4 rfl) (hm.slF 3 rfl)) ?_ | (refine callNat .u32 1000000000 (xn * yd - yn * xd) hw0 (by kernel_rfl) rfl (fun β w' hm => minus_any a1 a2 c1 c2 _ _ w' (by omega) (by omega) hle h1 (hm.slF 3 rfl) (hm.slF 4 rfl)) (fun a4 c4 h10 h11 h12 => ?_)) | (refine callNat .u32 1000000000 (xn * yd - yn * xd) hw0 (by kernel_rfl) rfl (fun β w' hm => minus_any a1 a2 c1 c2 _ _ w' (by omega) (by omega) hle h1 (hm.slF 4 rfl) (hm.slF 3 rfl)) (fun a4 c4 h10 h11 h12 => ?_)) | refine yO (x_eqBB xm ym false (fun _ => rfl) (fun _ => rfl) (by simpa using hm) Tryz.underlying4) ?_ | exact trivial)
   all_goals first | (exfalso; simp_all; done) | skip
   all_goals refine ret fun β w' hm => ?_
   all_goals exact ⟨⟨_, _, _, a4, c4, a3, c3⟩, rfl, rfl, ⟨h10, h7, h11, h8⟩, Ls2 (hm.slF 6 rfl) (hm.freshF 6 rfl rfl) (hm.slF 5 rfl) (hm.freshF 5 rfl rfl), hm.below⟩
  ·have hS : ExP.sumN ⟨xm, xn, xd⟩ ⟨ym, yn, yd⟩ = ⟨ym, yn * xd - xn * yd, xd * yd⟩ := by simp [ExP.sumN, hm, hle]
   rw [hS]
   have hc := fun h => hle ((ExP.cmp_sgn 1000000000 (x := xn * yd) (y := yn * xd) (by omega)).1.1 h)
   refine yE Tryz.func175 rfl Tryz.results175 Tryz.ntmps175 [] [200001, 200004, 200006, 200007] [.agg [.bool xm, .any (.slice xa (ExP.nd 1000000000 xn) xc), .any (.slice xb (ExP.nd 1000000000 xd) xe)], .agg [.bool ym, .any (.slice ya (ExP.nd 1000000000 yn) yc), .any (.slice yb (ExP.nd 1000000000 yd) ye)]] w ?_
   repeat' (first | refine yX ?_ | (apply And.intro <;> intro _) | apply bothI | refine retB fun β => ?_ | intro βe | (refine callNat .u32 1000000000 (xn * yd) hw0 (by kernel_rfl) rfl (fun β w' hm => T1 w' hm.below) (fun a1 c1 h1 h2 h3 => ?_)) | (refine callNat .u32 1000000000 (yn * xd) hw0 (by kernel_rfl) rfl (fun β w' hm => T2 w' hm.below) (fun a2 c2 h4 h5 h6 => ?_)) | (refine callNat .u32 1000000000 (xd * yd) hw0 (by kernel_rfl) rfl (fun β w' hm => T3 w' hm.below) (fun a3 c3 h7 h8 h9 => ?_)) | refine yK (.int .i64 (ExP.cmpN 1000000000 (xn * yd) (yn * xd))) (fun β w' hm => compare_any a1 a2 c1 c2 _ _ w' (by omega) (by omega) (hm.slF 3 rfl) (hm.slF 4 rfl)) ?_ | refine yK (.int .i64 (ExP.cmpN 1000000000 (xn * yd) (yn * xd))) (fun β w' hm => compare_any a1 a2 c1 c2 _ _ w' (by omega) (by omega) (hm.slF 4 rfl) (hm.slF 3 rfl)) ?_ | (refine callNat .u32 1000000000 (yn * xd - xn * yd) hw0 (by kernel_rfl) rfl (fun β w' hm => minus_any a2 a1 c2 c1 _ _ w' (by omega) (by omega) (by omega) h4 (hm.slF 4 rfl) (hm.slF 3 rfl)) (fun a4 c4 h10 h11 h12 => ?_)) | (refine callNat .u32 1000000000 (yn * xd - xn * yd) hw0 (by kernel_rfl) rfl (fun β w' hm => minus_any a2 a1 c2 c1 _ _ w' (by omega) (by omega) (by omega) h4 (hm.slF 3 rfl) (hm.slF 4 rfl)) (fun a4 c4 h10 h11 h12 => ?_)) | refine yO (x_eqBB xm ym false (fun _ => rfl) (fun _ => rfl) (by simpa using hm) Tryz.underlying4) ?_ | exact trivial)
   all_goals first | (exfalso; simp_all; done) | skip
   all_goals refine ret fun β w' hm => ?_
   all_goals exact ⟨⟨_, _, _, a4, c4, a3, c3⟩, rfl, rfl, ⟨h10, h7, h11, h8⟩, Ls2 (hm.slF 6 rfl) (hm.freshF 6 rfl rfl) (hm.slF 5 rfl) (hm.freshF 5 rfl rfl), hm.below⟩
theorem add1_any (x y : FrV) (w : World) (hw0 : 0 < w.heap.size) (hx : FrIn .u32 1000000000 x w) (hy : FrIn .u32 1000000000 y w)
  (hxn : ExP.nd 1000000000 x.n ≤ 1000000) (hxd : ExP.nd 1000000000 x.d ≤ 1000000) (hyn : ExP.nd 1000000000 y.n ≤ 1000000) (hyd : ExP.nd 1000000000 y.d ≤ 1000000) :
  Calls Tryz.prog 174 #[x.val 1000000000, y.val 1000000000] w (FrOutE .u32 1000000000 (ExP.sumN x.num y.num) 0 w) := by
 have S1 := fun (w' : World) (h : BW w w') => sum_any x y w' (Nat.lt_of_lt_of_le hw0 h.size) (hx.below h) (hy.below h) hxn hxd hyn hyd
 have S2 := fun (w' : World) (h : BW w w') => sum_any x ⟨!y.m, y.n, y.d, y.a, y.c, y.b, y.e⟩ w' (Nat.lt_of_lt_of_le hw0 h.size) (hx.below h) ⟨hy.sn.below h, hy.sd.below h, ⟨hy.cap.an, hy.cap.bn, hy.cap.cn, hy.cap.cd⟩⟩ hxn hxd hyn hyd
 obtain ⟨xm, xn, xd, xa, xc, xb, xe⟩ := x
 obtain ⟨ym, yn, yd, ya, yc, yb, ye⟩ := y
 obtain ⟨hx1, hx2, ⟨hx3, hx4, hx5, hx6⟩⟩ := hx
 obtain ⟨hy1, hy2, ⟨hy3, hy4, hy5, hy6⟩⟩ := hy
 dsimp only [FrV.num, FrV.val] at *
 refine yE Tryz.func174 rfl Tryz.results174 Tryz.ntmps174 [] [] [.agg [.bool xm, .any (.slice xa (ExP.nd 1000000000 xn) xc), .any (.slice xb (ExP.nd 1000000000 xd) xe)], .agg [.bool ym, .any (.slice ya (ExP.nd 1000000000 yn) yc), .any (.slice yb (ExP.nd 1000000000 yd) ye)]] w ?_
 repeat' (first | refine yX ?_ | (apply And.intro <;> intro _) | apply bothI | refine retB fun β => ?_ | intro βe | (refine callFr .u32 1000000000 (ExP.sumN ⟨xm, xn, xd⟩ ⟨ym, yn, yd⟩) hw0 (by kernel_rfl) rfl (fun β w' hm => S1 w' hm.below) (fun a1 c1 a2 c2 hcap => ?_)) | exact trivial)
 all_goals refine ret fun β w' hm => ?_
 all_goals exact ⟨⟨_, _, _, _, _, _, _⟩, rfl, rfl, hcap, Ls2 (hm.slF 3 rfl) (hm.freshF 3 rfl rfl) (hm.slF 4 rfl) (hm.freshF 4 rfl rfl), hm.below⟩
theorem div1_any (x y : FrV) (w : World) (hw0 : 0 < w.heap.size) (hx : FrIn .u32 1000000000 x w) (hy : FrIn .u32 1000000000 y w) (h0 : y.n ≠ 0)
  (hxn : ExP.nd 1000000000 x.n ≤ 1000000) (hxd : ExP.nd 1000000000 x.d ≤ 1000000) (hyn : ExP.nd 1000000000 y.n ≤ 1000000) (hyd : ExP.nd 1000000000 y.d ≤ 1000000) :
  Calls Tryz.prog 171 #[x.val 1000000000, y.val 1000000000] w (FrOutE .u32 1000000000 (ExP.mulN x.num (ExP.invN y.num)) 0 w) := by
 have S1 := fun (w' : World) (h : BW w w') => sum_any x y w' (Nat.lt_of_lt_of_le hw0 h.size) (hx.below h) (hy.below h) hxn hxd hyn hyd
 have S2 := fun (w' : World) (h : BW w w') => sum_any x ⟨!y.m, y.n, y.d, y.a, y.c, y.b, y.e⟩ w' (Nat.lt_of_lt_of_le hw0 h.size) (hx.below h) ⟨hy.sn.below h, hy.sd.below h, ⟨hy.cap.an, hy.cap.bn, hy.cap.cn, hy.cap.cd⟩⟩ hxn hxd hyn hyd
 obtain ⟨xm, xn, xd, xa, xc, xb, xe⟩ := x
 obtain ⟨ym, yn, yd, ya, yc, yb, ye⟩ := y
 obtain ⟨hx1, hx2, ⟨hx3, hx4, hx5, hx6⟩⟩ := hx
 obtain ⟨hy1, hy2, ⟨hy3, hy4, hy5, hy6⟩⟩ := hy
 dsimp only [FrV.num, FrV.val] at *
 have hz := fun w' => zero_any ya (ExP.nd 1000000000 yn) yc w'
 rw [show decide ((ExP.nd 1000000000 yn : Int) = 0) = false from decide_eq_false (by have := (ExP.nd_pos (b := 1000000000) (by omega)).2 (Nat.pos_of_ne_zero h0); omega)] at hz
 refine yE Tryz.func171 rfl Tryz.results171 Tryz.ntmps171 [] [200003] [.agg [.bool xm, .any (.slice xa (ExP.nd 1000000000 xn) xc), .any (.slice xb (ExP.nd 1000000000 xd) xe)], .agg [.bool ym, .any (.slice ya (ExP.nd 1000000000 yn) yc), .any (.slice yb (ExP.nd 1000000000 yd) ye)]] w ?_
 repeat' (first | refine yX ?_ | (apply And.intro <;> intro _) | apply bothI | refine retB fun β => ?_ | intro βe | refine yK (.lit false) (fun β w' hm => hz w') ?_ | (refine callNat .u32 1000000000 (xn * yd) hw0 (by kernel_rfl) rfl (fun β w' hm => times_any xa yb xc ye xn yd w' (by omega) (by omega) (hx1.below hm.below) (hy2.below hm.below)) (fun p cp h1 h2 h3 => ?_)) | (refine callNat .u32 1000000000 (xd * yn) hw0 (by kernel_rfl) rfl (fun β w' hm => times_any xb ya xe yc xd yn w' (by omega) (by omega) (hx2.below hm.below) (hy1.below hm.below)) (fun q cq h4 h5 h6 => ?_)) | refine yO (x_neBB xm ym (fun _ => rfl) (fun _ => rfl) Tryz.underlying4) ?_ | exact trivial)
 all_goals refine ret fun β w' hm => ?_
 all_goals first | exact ⟨⟨_, _, _, p, cp, q, cq⟩, rfl, rfl, ⟨h1, h4, h2, h5⟩, Ls2 (hm.slF 3 rfl) (hm.freshF 3 rfl rfl) (hm.slF 4 rfl) (hm.freshF 4 rfl rfl), hm.below⟩ | exact ⟨⟨_, _, _, p, cp, q, cq⟩, rfl, rfl, ⟨h1, h4, h2, h5⟩, Ls2 (hm.slF 4 rfl) (hm.freshF 4 rfl rfl) (hm.slF 3 rfl) (hm.freshF 3 rfl rfl), hm.below⟩
theorem div1_zero (x y : FrV) (w : World) (hw0 : 0 < w.heap.size) (hx : FrIn .u32 1000000000 x w) (hy : FrIn .u32 1000000000 y w) (h0 : y.n = 0)
  (hxn : ExP.nd 1000000000 x.n ≤ 1000000) (hxd : ExP.nd 1000000000 x.d ≤ 1000000) (hyn : ExP.nd 1000000000 y.n ≤ 1000000) (hyd : ExP.nd 1000000000 y.d ≤ 1000000) :
  Calls Tryz.prog 171 #[x.val 1000000000, y.val 1000000000] w (FrOutE .u32 1000000000 (⟨false, 0, 0⟩) 1 w) := by
 have S1 := fun (w' : World) (h : BW w w') => sum_any x y w' (Nat.lt_of_lt_of_le hw0 h.size) (hx.below h) (hy.below h) hxn hxd hyn hyd
 have S2 := fun (w' : World) (h : BW w w') => sum_any x ⟨!y.m, y.n, y.d, y.a, y.c, y.b, y.e⟩ w' (Nat.lt_of_lt_of_le hw0 h.size) (hx.below h) ⟨hy.sn.below h, hy.sd.below h, ⟨hy.cap.an, hy.cap.bn, hy.cap.cn, hy.cap.cd⟩⟩ hxn hxd hyn hyd
 obtain ⟨xm, xn, xd, xa, xc, xb, xe⟩ := x
 obtain ⟨ym, yn, yd, ya, yc, yb, ye⟩ := y
 obtain ⟨hx1, hx2, ⟨hx3, hx4, hx5, hx6⟩⟩ := hx
 obtain ⟨hy1, hy2, ⟨hy3, hy4, hy5, hy6⟩⟩ := hy
 dsimp only [FrV.num, FrV.val] at *
 have hz := fun w' => zero_any ya (ExP.nd 1000000000 yn) yc w'
 rw [show decide ((ExP.nd 1000000000 yn : Int) = 0) = true from decide_eq_true (by subst h0; rw [ExP.nd_zero]; rfl)] at hz
 refine yE Tryz.func171 rfl Tryz.results171 Tryz.ntmps171 [] [200003] [.agg [.bool xm, .any (.slice xa (ExP.nd 1000000000 xn) xc), .any (.slice xb (ExP.nd 1000000000 xd) xe)], .agg [.bool ym, .any (.slice ya (ExP.nd 1000000000 yn) yc), .any (.slice yb (ExP.nd 1000000000 yd) ye)]] w ?_
 repeat' (first | refine yX ?_ | (apply And.intro <;> intro _) | apply bothI | refine retB fun β => ?_ | intro βe | refine yK (.lit true) (fun β w' hm => hz w') ?_ | refine yO (x_neBB xm ym (fun _ => rfl) (fun _ => rfl) Tryz.underlying4) ?_ | exact trivial)
 all_goals refine ret fun β w' hm => ?_
 all_goals exact ⟨⟨false, 0, 0, none, 0, none, 0⟩, by simp [FrV.val, SV.den, SV.dens, ExP.nd_zero], rfl, FrCap0, Ls0, hm.below⟩
end Go.Proofs.YtdkhkfdenlabaaaGreatDoor
namespace Go.Proofs.YtdkhkfdenlabaaaGreatDoor
open Go.RowKit
open Sym
attribute [local irreducible] Calls Sym.AggEq ExP.nd ExP.dig
theorem intInfo : (Tryz.prog.info? 3).map (fun i => (i.zero, i.size, i.bytes)) = some (some (.int .i64 0), 1, 8) := by kernel_rfl
theorem rtrim_any (a : Option Addr) (n cap x : Nat) (w : World) (hx : x < 10 ^ n) (hn : n ≤ cap) (hl : n ≤ 100000000) (hs : SlAt a (valsK .i64 (ExP.dgN 10 n x)) w) : QC 181 #[.slice a n cap] w (.slice a (ExP.nd 10 x) cap) := by
 refine yE Tryz.func181 rfl Tryz.results181 Tryz.ntmps181 [] [] [.any (.slice a n cap)] w ?_
 repeat' (first | refine yX ?_ | (apply And.intro <;> intro _) | apply bothI | refine retB fun β => ?_ | intro βe | exact trivial)
 refine yZ (T := {m : Nat // m ≤ n ∧ x < 10 ^ m}) (fun t => ⟨[(0, .any (.slice a t.1 cap))], [], 0, 21⟩) (fun t => t.1) ⟨n, Nat.le_refl _, hx⟩ [] [] (fun t I hI => ?_)
 obtain ⟨m, hm, hxm⟩ := t
 dsimp only
 by_cases h0 : m = 0
 ·subst h0
  rw [ExP.trim_end (b := 10) (by omega) hxm (.inl rfl)]
  repeat' (first | refine yX ?_ | (apply And.intro <;> intro _) | apply bothI | refine retB fun β => ?_ | intro βe | refine yO (x_len Tryz.underlying70) ?_ | exact trivial)
  all_goals rfl
 ·obtain ⟨ad, rfl⟩ : ∃ ad, a = some ad := SlAt.some hs (fun e => by have := congrArg List.length e; rw [valsK_len, ExP.dgN_len] at this; simp at this; omega)
  have hc := sl_read hs (i := m - 1) (valsK_get (ExP.dgN_get 10 n x (m - 1) (by omega)))
  obtain ⟨m', hm'⟩ : ∃ m', m = m' + 1 := ⟨m - 1, by omega⟩
  have ht := fun h => ExP.trim_step (b := 10) (x := x) (m := m') (by omega) (by rw [← hm']; exact hxm) h
  have he := fun h => ExP.trim_end (b := 10) (x := x) (m := m) (by omega) hxm (.inr h)
  rw [show m - 1 = m' by omega] at hc he
  generalize ExP.dig 10 m' x = dd at *
  repeat' (first | refine yX ?_ | (apply And.intro <;> intro _) | apply bothI | refine retB fun β => ?_ | intro βe | refine yO (x_len Tryz.underlying70) ?_ | refine yN (j := m') Tryz.underlying70 Tryz.sizeOf3 ?_ | refine yO (v := .int .i64 (dd : Nat)) (x_load1 (fun w => Tryz.isAgg3 w) (fun w' hb β => by rw [Nat.mul_one]; exact hc w' hb)) ?_ | refine yO (x_sub (j := m') (by omega) Tryz.underlying70 (fun w => Tryz.sizeOf3 w) (by omega)) ?_ | exact trivial)
  all_goals first | (refine hI _ ⟨m', by omega, ht (by omega)⟩ (by dsimp only; omega) yW; done) | (rw [he (by omega)]; rfl)
def ExP.cmpS (x y : Nat) : Int := if x < y then -1 else if y < x then 1 else 0
theorem ExP.cmpS_top {b x y j : Nat} (hb : 2 ≤ b) (h : x / b ^ (j + 1) = y / b ^ (j + 1)) (hd : ExP.dig b j x ≠ ExP.dig b j y) : ExP.cmpS x y = if ExP.dig b j x < ExP.dig b j y then -1 else 1 := by
 unfold ExP.cmpS
 rcases Nat.lt_or_ge (ExP.dig b j x) (ExP.dig b j y) with h1 | h1
 ·rw [if_pos (ExP.cmp_less (by omega) h h1), if_pos h1]
 ·have := ExP.cmp_less (b := b) (by omega) h.symm (by omega : ExP.dig b j y < ExP.dig b j x)
  rw [if_neg (by omega), if_pos this, if_neg (by omega)]
theorem rcompare_any (a b : Option Addr) (ca cb x y : Nat) (w : World) (hx : ExP.nd 10 x ≤ 100000000) (hy : ExP.nd 10 y ≤ 100000000) (hs : SlAt a (nv .i64 10 x) w) (ht : SlAt b (nv .i64 10 y) w) :
  QC 183 #[.slice a (ExP.nd 10 x) ca, .slice b (ExP.nd 10 y) cb] w (.int .i64 (ExP.cmpS x y)) := by
 refine yE Tryz.func183 rfl Tryz.results183 Tryz.ntmps183 [] [] [.any (.slice a (ExP.nd 10 x) ca), .any (.slice b (ExP.nd 10 y) cb)] w ?_
 by_cases hn : ExP.nd 10 x = ExP.nd 10 y
 ·have hxp := ExP.nd_lt (b := 10) (by omega) x
  have hyp := ExP.nd_lt (b := 10) (by omega) y
  have h0 : x / 10 ^ ExP.nd 10 x = y / 10 ^ ExP.nd 10 x := by rw [Nat.div_eq_of_lt hxp, hn, Nat.div_eq_of_lt hyp]
  have htop := fun j => ExP.cmpS_top (b := 10) (x := x) (y := y) (j := j) (by omega)
  have hnext := fun j => ExP.cmp_next (b := 10) (x := x) (y := y) (i := j) (by omega)
  have hcs : x / 10 ^ 0 = y / 10 ^ 0 → ExP.cmpS x y = 0 := fun h => by simp only [Nat.pow_zero, Nat.div_one] at h; subst h; unfold ExP.cmpS; simp
  clear hxp hyp
  have hgx := fun i (h : i < ExP.nd 10 x) => nv_get (k := .i64) h
  have hgy := fun i (h : i < ExP.nd 10 y) => nv_get (k := .i64) h
  have hnx := nv_ne (k := .i64) (b := 10) (x := x)
  have hny := nv_ne (k := .i64) (b := 10) (x := y)
  rw [← hn] at hgy hny ⊢
  have hdx := fun i => ExP.dig_lt (b := 10) (by omega) i x
  have hdy := fun i => ExP.dig_lt (b := 10) (by omega) i y
  generalize ExP.nd 10 x = n at *
  generalize ExP.cmpS x y = cv at *
  repeat' (first | refine yX ?_ | (apply And.intro <;> intro _) | apply bothI | refine retB fun β => ?_ | intro βe | refine yO (x_len Tryz.underlying70) ?_ | exact trivial)
  refine yZ (T := {j : Nat // j ≤ n ∧ x / 10 ^ j = y / 10 ^ j}) (fun t => ⟨[(0, .any (.slice a n ca)), (1, .any (.slice b n cb)), (5, .int .i64 ((t.1 : Nat) - 1 : Int))], [], 0, 41⟩) (fun t => t.1) ⟨n, Nat.le_refl _, h0⟩ [] [] (fun t I hI => ?_)
  obtain ⟨j, hj, hxy⟩ := t
  dsimp only
  by_cases hj0 : j = 0
  ·subst hj0
   rw [hcs hxy]
   repeat' (first | refine yX ?_ | (apply And.intro <;> intro _) | apply bothI | refine retB fun β => ?_ | intro βe | exact trivial)
   all_goals rfl
  ·obtain ⟨i, rfl⟩ : ∃ i, j = i + 1 := ⟨j - 1, by omega⟩
   obtain ⟨ad, rfl⟩ := SlAt.some hs (hnx (by omega))
   obtain ⟨bd, rfl⟩ := SlAt.some ht (hny (by omega))
   have h1 := sl_read hs (hgx i (by omega))
   have h2 := sl_read ht (hgy i (by omega))
   have htop := htop i hxy
   have hnext := hnext i hxy
   have hdx := hdx i
   have hdy := hdy i
   generalize ExP.dig 10 i x = dx at *
   generalize ExP.dig 10 i y = dy at *
   repeat' (first | refine yX ?_ | (apply And.intro <;> intro _) | apply bothI | refine retB fun β => ?_ | intro βe | refine yO (x_len Tryz.underlying70) ?_ | refine yN (j := i) Tryz.underlying70 Tryz.sizeOf3 ?_ | refine yO (v := .int .i64 (dx : Nat)) (x_load1 (fun w => Tryz.isAgg3 w) (fun w' hb β => by rw [Nat.mul_one]; exact h1 w' hb)) ?_ | refine yO (v := .int .i64 (dy : Nat)) (x_load1 (fun w => Tryz.isAgg3 w) (fun w' hb β => by rw [Nat.mul_one]; exact h2 w' hb)) ?_ | exact trivial)
   ·rw [htop (by omega), if_pos (by omega)]; rfl
   ·rw [htop (by omega), if_neg (by omega)]; rfl
   ·refine hI _ ⟨i, by omega, hnext (by omega)⟩ (by dsimp only; omega) yW
 ·have hcv : ExP.cmpS x y = if ExP.nd 10 x < ExP.nd 10 y then -1 else 1 := by
   unfold ExP.cmpS
   rcases Nat.lt_or_ge (ExP.nd 10 x) (ExP.nd 10 y) with h | h
   ·rw [if_pos (ExP.nd_less (by omega) h), if_pos h]
   ·have := ExP.nd_less (b := 10) (x := y) (y := x) (by omega) (by omega)
    rw [if_neg (by omega), if_pos this, if_neg (by omega)]
  rw [hcv]
  generalize ExP.nd 10 x = n at *
  generalize ExP.nd 10 y = m at *
  repeat' (first | refine yX ?_ | (apply And.intro <;> intro _) | apply bothI | refine retB fun β => ?_ | intro βe | refine yO (x_len Tryz.underlying70) ?_ | exact trivial)
  ·rw [if_pos (by omega)]; rfl
  ·rw [if_neg (by omega)]; rfl
theorem digitAt_any (a : Option Addr) (ca x i : Nat) (w : World) (hx : ExP.nd 10 x ≤ 100000000) (hi : i ≤ 1000000000) (hs : SlAt a (nv .i64 10 x) w) :
  QC 214 #[.slice a (ExP.nd 10 x) ca, .int .i64 (i : Nat)] w (.int .i64 (ExP.dig 10 i x : Nat)) := by
 refine yE Tryz.func214 rfl Tryz.results214 Tryz.ntmps214 [] [] [.any (.slice a (ExP.nd 10 x) ca), .int .i64 (i : Nat)] w ?_
 by_cases h : i < ExP.nd 10 x
 ·obtain ⟨ad, rfl⟩ := SlAt.some hs (nv_ne (by omega))
  have h1 := sl_read hs (nv_get (k := .i64) h)
  generalize ExP.nd 10 x = n at *
  generalize ExP.dig 10 i x = dx at *
  repeat' (first | refine yX ?_ | (apply And.intro <;> intro _) | apply bothI | refine retB fun β => ?_ | intro βe | refine yO (x_len Tryz.underlying70) ?_ | refine yN (j := i) Tryz.underlying70 Tryz.sizeOf3 ?_ | refine yO (v := .int .i64 (dx : Nat)) (x_load1 (fun w => Tryz.isAgg3 w) (fun w' hb β => by rw [Nat.mul_one]; exact h1 w' hb)) ?_ | exact trivial)
  all_goals rfl
 ·rw [ExP.dig_big (b := 10) (by omega) (by omega : ExP.nd 10 x ≤ i)]
  generalize ExP.nd 10 x = n at *
  repeat' (first | refine yX ?_ | (apply And.intro <;> intro _) | apply bothI | refine retB fun β => ?_ | intro βe | refine yO (x_len Tryz.underlying70) ?_ | exact trivial)
  all_goals rfl
abbrev apJ (fr : List (Nat × SV)) (d n i : Nat) (g cap : Nat) (xs : List Value) : St := match i with
 | 0 => ⟨(d, .any (.slice none 0 0)) :: fr, [], 0, n⟩
 | i + 1 => ⟨(d, .any (.slice (some ⟨g, 0, none⟩) (i + 1) cap)) :: fr, [(1, true, .blob (OwnS 3 1 g (i + 1) cap xs))], 2, n⟩
theorem rplus_any (a b : Option Addr) (ca cb x y : Nat) (w : World) (hx : ExP.nd 10 x ≤ 100000000) (hy : ExP.nd 10 y ≤ 100000000) (hs : SlAt a (nv .i64 10 x) w) (ht : SlAt b (nv .i64 10 y) w) :
  Calls Tryz.prog 182 #[.slice a (ExP.nd 10 x) ca, .slice b (ExP.nd 10 y) cb] w (NatOut .i64 10 (x + y) w) := by
 obtain ⟨i0, hi, hz0, hz1, hz2⟩ := info_parts intInfo
 have hu := Tryz.underlying70
 have hsz := fun w => Tryz.sizeOf3 w
 have hzv := fun w => Tryz.zeroValue3 w
 have hnext := fun {i c S} => ExP.plus_next (b := 10) (x := x) (y := y) (i := i) (c := c) (S := S) (by omega)
 have hend := fun {i S} => ExP.plus_end (b := 10) (x := x) (y := y) (i := i) (S := S) (by omega)
 have hcar := fun {i c S} => ExP.plus_carry (b := 10) (x := x) (y := y) (i := i) (c := c) (S := S) (by omega)
 have hov := fun {i c S} => ExP.plus_over (b := 10) (x := x) (y := y) (i := i) (c := c) (S := S) (by omega)
 have hdx := fun i => ExP.dig_lt (b := 10) (by omega) i x
 have hdy := fun i => ExP.dig_lt (b := 10) (by omega) i y
 have HX := fun i (h : i ≤ 1000000000) w' hb => digitAt_any a ca x i w' hx h (SlAt.below hs hb)
 have HY := fun i (h : i ≤ 1000000000) w' hb => digitAt_any b cb y i w' hy h (SlAt.below ht hb)
 refine yE Tryz.func182 rfl Tryz.results182 Tryz.ntmps182 [] [] [.any (.slice a (ExP.nd 10 x) ca), .any (.slice b (ExP.nd 10 y) cb)] w ?_
 generalize ExP.nd 10 x = n at *
 generalize ExP.nd 10 y = m at *
 repeat' (first | refine yX ?_ | (apply And.intro <;> intro _) | apply bothI | refine retB fun β => ?_ | intro βe | exact trivial)
 refine loop env_ok rfl (T := {t : PlT // ExP.PlusI 10 x y t.i t.c t.S ∧ t.i ≤ max n m + 1}) (fun t => apJ [(0, .any (.slice a n ca)), (1, .any (.slice b m cb)), (6, .int .i64 (t.1.c : Nat)), (7, .int .i64 (t.1.i : Nat))] 5 42 t.1.i t.1.g t.1.cap (valsK .i64 (ExP.dgN 10 t.1.i t.1.S))) (fun t => max n m + 2 - t.1.i) ⟨⟨0, 0, 0, 0, 0⟩, ⟨by simp [Nat.mod_one], by simp, .inl rfl⟩, Nat.zero_le _⟩ 1000 [] [] (fun t => by exact Nat.zero_le _) (by dsimp only [apJ]; ((with_reducible show wk _ _); repeat' (first | exact trivial | exact eqSV_refl _ | refine eqI ?_ | refine eqS ?_ | apply And.intro | exact yV | fail))) (fun t I hI => ?_)
 obtain ⟨⟨i, c, S, g, cap⟩, hP, hib⟩ := t
 dsimp only at hP hib ⊢
 have hc := hcar hP
 have hS := hP.lt
 have hN := hnext hP
 have hE := fun (h : c = 0) => by subst h; exact hend hP
 have hdx := hdx i
 have hdy := hdy i
 have hrow := fun (v : Int) (d : Nat) (hd : d < 10) (hv : v = (d : Int)) => ExP.row_snoc (k := .i64) (b := 10) (i := i) (S := S) (by omega) hS hd hv
 have HX := HX i (by omega)
 have HY := HY i (by omega)
 have htop : i ≤ max n m ∨ c = 0 := by
  rcases Nat.lt_or_ge (max n m) i with h | h
  ·exact .inr (hov hP (by omega) (by omega))
  ·exact .inl h
 clear hnext hend hcar hov
 generalize ExP.dig 10 i x = dx at *
 generalize ExP.dig 10 i y = dy at *
 by_cases hgo : i < n ∨ i < m ∨ 0 < c
 ·cases i with
  | zero =>
    dsimp only [apJ]
    repeat' (first | refine yX ?_ | (apply And.intro <;> intro _) | apply bothI | refine retB fun β => ?_ | intro βe | refine yK (.int .i64 (dx : Nat)) (fun β w hm => HX w hm.below) ?_ | refine yK (.int .i64 (dy : Nat)) (fun β w hm => HY w hm.below) ?_ | (refine opx_build1 (sz := 1) rfl rfl rfl (xs := [.int .i64 (((c + dx + dy) % 10 : Nat) : Int)]) (fun β => by simp only [SV.dens, SV.den]; congr 2; omega) rfl (by omega) (by omega) hu hsz hzv (fun g1 => ?_)) | (refine opx_append0 (sz := 1) 0 rfl hu hi hz0 hz1 rfl (by omega) rfl rfl rfl (by unfold maxLen; omega) (by rw [hz2]; omega) (by simp [Value.oneCell']) (by omega) (fun g2 cap2 => ?_)) | refine yO (x_len Tryz.underlying70) ?_ | refine yO (x_rem (by omega) (by omega)) ?_ | refine yO (x_quo (by omega) (by omega) (by simp only [inK]; omega)) ?_ | exact trivial)
    all_goals first | (refine hI _ ⟨⟨0 + 1, (c + dx + dy) / 10, S + (c + dx + dy) % 10 * 10 ^ 0, g2, cap2⟩, hN hgo, by dsimp only; omega⟩ (by dsimp only; omega) (by dsimp only [apJ]; rw [← hrow _ ((c + dx + dy) % 10) (by omega) rfl]; ((with_reducible show wk _ _); repeat' (first | exact trivial | exact eqSV_refl _ | refine eqI ?_ | refine eqS ?_ | apply And.intro | exact yV | fail)); all_goals (exact fun b x h => h)); done) | (exfalso; omega)
  | succ i =>
    dsimp only [apJ]
    repeat' (first | refine yX ?_ | (apply And.intro <;> intro _) | apply bothI | refine retB fun β => ?_ | intro βe | refine yK (.int .i64 (dx : Nat)) (fun β w hm => HX w hm.below) ?_ | refine yK (.int .i64 (dy : Nat)) (fun β w hm => HY w hm.below) ?_ | (refine opx_build1 (sz := 1) rfl rfl rfl (xs := [.int .i64 (((c + dx + dy) % 10 : Nat) : Int)]) (fun β => by simp only [SV.dens, SV.den]; congr 2; omega) rfl (by omega) (by omega) hu hsz hzv (fun g1 => ?_)) | (refine opx_append (sz := 1) 1 2 rfl hu hi hz0 hz1 rfl (by omega) rfl rfl rfl rfl (by unfold maxLen; omega) (by rw [hz2]; omega) (by simp [Value.oneCell']) (by kernel_rfl) (Nat.zero_le _) (fun g2 cap2 => ?_)) | refine yO (x_len Tryz.underlying70) ?_ | refine yO (x_rem (by omega) (by omega)) ?_ | refine yO (x_quo (by omega) (by omega) (by simp only [inK]; omega)) ?_ | exact trivial)
    all_goals first | (refine hI _ ⟨⟨i + 1 + 1, (c + dx + dy) / 10, S + (c + dx + dy) % 10 * 10 ^ (i + 1), g2, cap2⟩, hN hgo, by dsimp only; omega⟩ (by dsimp only; omega) (by dsimp only [apJ]; rw [← hrow _ ((c + dx + dy) % 10) (by omega) rfl]; ((with_reducible show wk _ _); repeat' (first | exact trivial | exact eqSV_refl _ | refine eqI ?_ | refine eqS ?_ | apply And.intro | exact yV | fail)); all_goals (exact fun b x h => h)); done) | (exfalso; omega)
 ·obtain ⟨rfl, hie⟩ := hE (by omega) (by omega) (by omega)
  cases i with
  | zero =>
    dsimp only [apJ]
    have e : nv .i64 10 (x + y) = [] := List.length_eq_zero_iff.1 (by rw [nv_len, ← hie])
    repeat' (first | refine yX ?_ | (apply And.intro <;> intro _) | apply bothI | refine retB fun β => ?_ | intro βe | refine yO (x_len Tryz.underlying70) ?_ | exact trivial)
    refine ret fun β w' hm => ?_
    exact ⟨none, 0, by rw [← hie]; rfl, by rw [e]; exact sl_nil _ _, fun h => absurd e h, fun _ => rfl, by rw [← hie]; exact Nat.le_refl _, hm.below⟩
  | succ i =>
    dsimp only [apJ]
    have e : nv .i64 10 (x + y) = valsK .i64 (ExP.dgN 10 (i + 1) (x + y)) := by show valsK .i64 (ExP.dgN 10 (ExP.nd 10 (x + y)) (x + y)) = _; rw [← hie]
    repeat' (first | refine yX ?_ | (apply And.intro <;> intro _) | apply bothI | refine retB fun β => ?_ | intro βe | refine yO (x_len Tryz.underlying70) ?_ | exact trivial)
    refine ret fun β w' hm => ?_
    obtain ⟨q1, q2, q3⟩ := Mem.own hm 1 rfl
    exact ⟨_, cap, by rw [← hie]; rfl, by rw [e]; exact q1, by rw [e]; exact fresh_own q2 rfl, (fun h => by cases h), by rw [← hie]; exact q3, hm.below⟩
theorem rless_any (a b : Option Addr) (ca cb x y : Nat) (w : World) (hx : ExP.nd 10 x ≤ 100000000) (hy : ExP.nd 10 y ≤ 100000000) (hyx : y ≤ x) (hs : SlAt a (nv .i64 10 x) w) (ht : SlAt b (nv .i64 10 y) w) :
  Calls Tryz.prog 184 #[.slice a (ExP.nd 10 x) ca, .slice b (ExP.nd 10 y) cb] w (NatOut .i64 10 (x - y) w) := by
 obtain ⟨i0, hi, hz0, hz1, hz2⟩ := info_parts intInfo
 have hu := Tryz.underlying70
 have hsz := fun w => Tryz.sizeOf3 w
 have hzv := fun w => Tryz.zeroValue3 w
 have hdx := fun i => ExP.dig_lt (b := 10) (by omega) i x
 have hdy := fun i => ExP.dig_lt (b := 10) (by omega) i y
 have hgx := fun i (h : i < ExP.nd 10 x) => nv_get (k := .i64) h
 have hnx := nv_ne (k := .i64) (b := 10) (x := x)
 have HY := fun i (h : i ≤ 1000000000) w' hb => digitAt_any b cb y i w' hy h (SlAt.below ht hb)
 have hxlt := ExP.nd_lt (b := 10) (by omega) x
 have hTR := fun a (cap V : Nat) (w' : World) (hV : V < 10 ^ ExP.nd 10 x) hc hs' => rtrim_any a (ExP.nd 10 x) cap V w' hV hc hx hs'
 refine yE Tryz.func184 rfl Tryz.results184 Tryz.ntmps184 [] [] [.any (.slice a (ExP.nd 10 x) ca), .any (.slice b (ExP.nd 10 y) cb)] w ?_
 generalize ExP.nd 10 x = n at *
 generalize ExP.nd 10 y = m at *
 repeat' (first | refine yX ?_ | (apply And.intro <;> intro _) | apply bothI | refine retB fun β => ?_ | intro βe | refine yO (x_len Tryz.underlying70) ?_ | exact trivial)
 refine loop env_ok rfl (T := {t : PlT // ExP.MinusI 10 x y t.i t.c t.S ∧ t.i ≤ n}) (fun t => apJ [(0, .any (.slice a n ca)), (1, .any (.slice b m cb)), (6, .int .i64 (t.1.c : Nat)), (10, .int .i64 (n : Nat)), (11, .int .i64 (t.1.i : Nat))] 5 35 t.1.i t.1.g t.1.cap (valsK .i64 (ExP.dgN 10 t.1.i t.1.S))) (fun t => n - t.1.i) ⟨⟨0, 0, 0, 0, 0⟩, ⟨by simp [Nat.mod_one], by simp, by simp⟩, Nat.zero_le _⟩ 1000 [] [] (fun t => by exact Nat.zero_le _) (by dsimp only [apJ]; ((with_reducible show wk _ _); repeat' (first | exact trivial | exact eqSV_refl _ | refine eqI ?_ | refine eqS ?_ | apply And.intro | exact yV | fail))) (fun t I hI => ?_)
 obtain ⟨⟨i, c, D, g, cap⟩, hM, hin⟩ := t
 dsimp only at hM hin ⊢
 have hc := hM.bit
 have hD := hM.lt
 by_cases hlt : i < n
 ·obtain ⟨ad, rfl⟩ := SlAt.some hs (hnx (by omega))
  have r1 := sl_read hs (hgx i hlt)
  have hn1 := ExP.minus_next (b := 10) (by omega) hM
  have hn0 := ExP.minus_next0 (b := 10) (by omega) hM
  have hdx := hdx i
  have hdy := hdy i
  have HY := HY i (by omega)
  have hrow := fun (v : Int) (d : Nat) (hd : d < 10) (hv : v = (d : Int)) => ExP.row_snoc (k := .i64) (b := 10) (i := i) (S := D) (by omega) hD hd hv
  generalize ExP.dig 10 i x = dx at *
  generalize ExP.dig 10 i y = dy at *
  cases i with
  | zero =>
    dsimp only [apJ]
    by_cases hb : dx < c + dy
    ·repeat' (first | refine yX ?_ | (apply And.intro <;> intro _) | apply bothI | refine retB fun β => ?_ | intro βe | (refine opx_build1 (sz := 1) rfl rfl rfl (xs := [.int .i64 ((dx + 10 - (c + dy) : Nat) : Int)]) (fun β => by simp only [SV.dens, SV.den]; congr 2; omega) rfl (by omega) (by omega) hu hsz hzv (fun g1 => ?_)) | (refine opx_append0 (sz := 1) 0 rfl hu hi hz0 hz1 rfl (by omega) rfl rfl rfl (by unfold maxLen; omega) (by rw [hz2]; omega) (by simp [Value.oneCell']) (by omega) (fun g2 cap2 => ?_)) | ((with_reducible show ∃ _ : SV, _); first | refine yO (x_len Tryz.underlying70) ?_ | refine yN (j := 0) Tryz.underlying70 Tryz.sizeOf3 ?_ | refine yO (v := .int .i64 (dx : Nat)) (x_load1 (fun w => Tryz.isAgg3 w) (fun w' hb β => by rw [Nat.mul_one]; exact r1 w' hb)) ?_ | (refine ⟨.int .i64 (dy : Nat), by kernel_rfl, trivial, fun β w hm => HY w hm.below, ?_⟩)) | exact trivial)
     refine hI _ ⟨⟨0 + 1, 1, D + (dx + 10 - (c + dy)) * 10 ^ 0, g2, cap2⟩, hn1 hb, by dsimp only; omega⟩ (by dsimp only; omega) (by dsimp only [apJ]; rw [← hrow _ (dx + 10 - (c + dy)) (by omega) rfl]; ((with_reducible show wk _ _); repeat' (first | exact trivial | exact eqSV_refl _ | refine eqI ?_ | refine eqS ?_ | apply And.intro | exact yV | fail)); all_goals (exact fun b x h => h))
    ·repeat' (first | refine yX ?_ | (apply And.intro <;> intro _) | apply bothI | refine retB fun β => ?_ | intro βe | (refine opx_build1 (sz := 1) rfl rfl rfl (xs := [.int .i64 ((dx - (c + dy) : Nat) : Int)]) (fun β => by simp only [SV.dens, SV.den]; congr 2; omega) rfl (by omega) (by omega) hu hsz hzv (fun g1 => ?_)) | (refine opx_append0 (sz := 1) 0 rfl hu hi hz0 hz1 rfl (by omega) rfl rfl rfl (by unfold maxLen; omega) (by rw [hz2]; omega) (by simp [Value.oneCell']) (by omega) (fun g2 cap2 => ?_)) | ((with_reducible show ∃ _ : SV, _); first | refine yO (x_len Tryz.underlying70) ?_ | refine yN (j := 0) Tryz.underlying70 Tryz.sizeOf3 ?_ | refine yO (v := .int .i64 (dx : Nat)) (x_load1 (fun w => Tryz.isAgg3 w) (fun w' hb β => by rw [Nat.mul_one]; exact r1 w' hb)) ?_ | (refine ⟨.int .i64 (dy : Nat), by kernel_rfl, trivial, fun β w hm => HY w hm.below, ?_⟩)) | exact trivial)
     refine hI _ ⟨⟨0 + 1, 0, D + (dx - (c + dy)) * 10 ^ 0, g2, cap2⟩, hn0 hb, by dsimp only; omega⟩ (by dsimp only; omega) (by dsimp only [apJ]; rw [← hrow _ (dx - (c + dy)) (by omega) rfl]; ((with_reducible show wk _ _); repeat' (first | exact trivial | exact eqSV_refl _ | refine eqI ?_ | refine eqS ?_ | apply And.intro | exact yV | fail)); all_goals (exact fun b x h => h))
  | succ i =>
    dsimp only [apJ]
    by_cases hb : dx < c + dy
    ·repeat' (first | refine yX ?_ | (apply And.intro <;> intro _) | apply bothI | refine retB fun β => ?_ | intro βe | (refine opx_build1 (sz := 1) rfl rfl rfl (xs := [.int .i64 ((dx + 10 - (c + dy) : Nat) : Int)]) (fun β => by simp only [SV.dens, SV.den]; congr 2; omega) rfl (by omega) (by omega) hu hsz hzv (fun g1 => ?_)) | (refine opx_append (sz := 1) 1 2 rfl hu hi hz0 hz1 rfl (by omega) rfl rfl rfl rfl (by unfold maxLen; omega) (by rw [hz2]; omega) (by simp [Value.oneCell']) (by kernel_rfl) (Nat.zero_le _) (fun g2 cap2 => ?_)) | ((with_reducible show ∃ _ : SV, _); first | refine yO (x_len Tryz.underlying70) ?_ | refine yN (j := i + 1) Tryz.underlying70 Tryz.sizeOf3 ?_ | refine yO (v := .int .i64 (dx : Nat)) (x_load1 (fun w => Tryz.isAgg3 w) (fun w' hb β => by rw [Nat.mul_one]; exact r1 w' hb)) ?_ | (refine ⟨.int .i64 (dy : Nat), by kernel_rfl, trivial, fun β w hm => HY w hm.below, ?_⟩)) | exact trivial)
     refine hI _ ⟨⟨i + 1 + 1, 1, D + (dx + 10 - (c + dy)) * 10 ^ (i + 1), g2, cap2⟩, hn1 hb, by dsimp only; omega⟩ (by dsimp only; omega) (by dsimp only [apJ]; rw [← hrow _ (dx + 10 - (c + dy)) (by omega) rfl]; ((with_reducible show wk _ _); repeat' (first | exact trivial | exact eqSV_refl _ | refine eqI ?_ | refine eqS ?_ | apply And.intro | exact yV | fail)); all_goals (exact fun b x h => h))
    ·repeat' (first | refine yX ?_ | (apply And.intro <;> intro _) | apply bothI | refine retB fun β => ?_ | intro βe | (refine opx_build1 (sz := 1) rfl rfl rfl (xs := [.int .i64 ((dx - (c + dy) : Nat) : Int)]) (fun β => by simp only [SV.dens, SV.den]; congr 2; omega) rfl (by omega) (by omega) hu hsz hzv (fun g1 => ?_)) | (refine opx_append (sz := 1) 1 2 rfl hu hi hz0 hz1 rfl (by omega) rfl rfl rfl rfl (by unfold maxLen; omega) (by rw [hz2]; omega) (by simp [Value.oneCell']) (by kernel_rfl) (Nat.zero_le _) (fun g2 cap2 => ?_)) | ((with_reducible show ∃ _ : SV, _); first | refine yO (x_len Tryz.underlying70) ?_ | refine yN (j := i + 1) Tryz.underlying70 Tryz.sizeOf3 ?_ | refine yO (v := .int .i64 (dx : Nat)) (x_load1 (fun w => Tryz.isAgg3 w) (fun w' hb β => by rw [Nat.mul_one]; exact r1 w' hb)) ?_ | (refine ⟨.int .i64 (dy : Nat), by kernel_rfl, trivial, fun β w hm => HY w hm.below, ?_⟩)) | exact trivial)
     refine hI _ ⟨⟨i + 1 + 1, 0, D + (dx - (c + dy)) * 10 ^ (i + 1), g2, cap2⟩, hn0 hb, by dsimp only; omega⟩ (by dsimp only; omega) (by dsimp only [apJ]; rw [← hrow _ (dx - (c + dy)) (by omega) rfl]; ((with_reducible show wk _ _); repeat' (first | exact trivial | exact eqSV_refl _ | refine eqI ?_ | refine eqS ?_ | apply And.intro | exact yV | fail)); all_goals (exact fun b x h => h))
 ·obtain rfl : i = n := by omega
  obtain ⟨rfl, -⟩ := ExP.minus_end (b := 10) (by omega) hM hxlt hyx
  have hle := ExP.nd_le (b := 10) (by omega) hD
  cases i with
  | zero =>
    dsimp only [apJ]
    have h0 : ExP.nd 10 (x - y) = 0 := by omega
    have e : nv .i64 10 (x - y) = [] := List.length_eq_zero_iff.1 (by rw [nv_len, h0])
    have hT := fun w' => hTR none 0 (x - y) w' hD (Nat.le_refl _) (sl_nil _ _)
    rw [h0] at hT
    repeat' (first | refine yX ?_ | (apply And.intro <;> intro _) | apply bothI | refine retB fun β => ?_ | intro βe | refine yK (.any (.slice none 0 0)) (fun β w hm => hT w) ?_ | refine yO (x_len Tryz.underlying70) ?_ | exact trivial)
    refine ret fun β w' hm => ?_
    exact ⟨none, 0, by rw [h0]; rfl, by rw [e]; exact sl_nil _ _, fun h => absurd e h, fun _ => rfl, by rw [h0]; exact Nat.le_refl _, hm.below⟩
  | succ i =>
    dsimp only [apJ]
    repeat' (first | refine yX ?_ | (apply And.intro <;> intro _) | apply bothI | refine retB fun β => ?_ | intro βe | refine yK (.any (.slice (some ⟨g, 0, none⟩) (ExP.nd 10 (x - y)) cap)) (fun β w hm => hTR (some ⟨g, 0, none⟩) cap (x - y) w hD (Mem.own hm 1 rfl).2.2 (Mem.own hm 1 rfl).1) ?_ | refine yO (x_len Tryz.underlying70) ?_ | exact trivial)
    refine ret fun β w' hm => ?_
    obtain ⟨q1, q2, q3⟩ := Mem.own hm 1 rfl
    exact ⟨_, cap, rfl, sl_pre q1 (dgN_pre hle .i64), fresh_own q2 rfl, (fun h => by cases h), Nat.le_trans hle q3, hm.below⟩
end Go.Proofs.YtdkhkfdenlabaaaGreatDoor
namespace Go.Proofs.YtdkhkfdenlabaaaGreatDoor
open Sym
namespace ExP
def phA (b x y i N k : Nat) : List Nat := tab N (fun j => dig b j ((x % b ^ i) * y) + if i ≤ j ∧ j < i + k then dig b i x * dig b (j - i) y else 0)
def phB (b x y i N k S : Nat) : List Nat := tab N (fun j => if j < k then dig b j S else mixP b x y i j)
theorem phA_zero (b x y i N : Nat) : phA b x y i N 0 = dgN b N ((x % b ^ i) * y) := by
 unfold phA dgN
 apply tab_congr
 intro j hj
 rw [if_neg (by omega), Nat.add_zero]
theorem phA_set (b x y i N k : Nat) : (phA b x y i N k).set (i + k) (dig b (i + k) ((x % b ^ i) * y) + dig b i x * dig b k y) = phA b x y i N (k + 1) := by
 unfold phA
 rw [tab_set]
 apply tab_congr
 intro j hj
 by_cases h : j = i + k
 ·subst h
  rw [if_pos rfl, if_pos (by omega), Nat.add_sub_cancel_left]
 ·rw [if_neg h]
  congr 1
  by_cases h2 : i ≤ j ∧ j < i + k
  ·rw [if_pos h2, if_pos (by omega)]
  ·rw [if_neg h2, if_neg (by omega)]
theorem phA_get {b x y i N k : Nat} (h : i + k < N) : (phA b x y i N k)[i + k]? = some (dig b (i + k) ((x % b ^ i) * y)) := by
 unfold phA; rw [tab_get _ _ _ h, if_neg (by omega), Nat.add_zero]
theorem phA_end {b x y i N : Nat} (hb : 2 ≤ b) : phA b x y i N (nd b y) = phB b x y i N i (((x % b ^ i) * y) % b ^ i) := by
 unfold phA phB mixP
 apply tab_congr
 intro j hj
 by_cases h : j < i
 ·rw [if_pos h, if_neg (by omega), Nat.add_zero]
  have e := parts b ((x % b ^ i) * y) i
  have hl : (x % b ^ i) * y % b ^ i < b ^ i := Nat.mod_lt _ (Nat.pow_pos (by omega))
  have e2 := Nat.mod_add_div ((x % b ^ i) * y) (b ^ i)
  rw [Nat.mul_comm (b ^ i)] at e2
  have e3 := dig_add (by omega : 0 < b) hl (m := (x % b ^ i) * y / b ^ i) j
  rw [e2, if_pos h] at e3
  exact e3
 ·rw [if_neg h]
  congr 1
  by_cases h2 : j < i + nd b y
  ·rw [if_pos ⟨by omega, h2⟩, if_pos (by omega)]
  ·rw [if_neg (by omega), if_pos (by omega), dig_big hb (by omega : nd b y ≤ j - i), Nat.mul_zero]
theorem phB_set {b x y i N k S d : Nat} (hb : 0 < b) (hS : S < b ^ k) (hd : d < b) : (phB b x y i N k S).set k d = phB b x y i N (k + 1) (S + d * b ^ k) := by
 unfold phB
 rw [tab_set]
 apply tab_congr
 intro j hj
 have e := dig_add hb hS (m := d) j
 by_cases h1 : j < k
 ·rw [if_neg (by omega), if_pos h1, if_pos (by omega), e, if_pos h1]
 ·by_cases h2 : j = k
  ·subst h2
   rw [if_pos rfl, if_pos (by omega), e, if_neg h1, Nat.sub_self]
   simp [dig, Nat.mod_eq_of_lt hd]
  ·rw [if_neg h2, if_neg h1, if_neg (by omega)]
theorem phB_get {b x y i N k S : Nat} (h : k < N) : (phB b x y i N k S)[k]? = some (mixP b x y i k) := by
 unfold phB; rw [tab_get _ _ _ h, if_neg (by omega)]
theorem phB_end (b x y i N S : Nat) : phB b x y i N N S = dgN b N S := by
 unfold phB dgN; exact tab_congr fun k hk => by rw [if_pos hk]
theorem mixP_le {x y i k : Nat} : mixP 10 x y i k ≤ 90 := by
 unfold mixP
 have h1 := dig_lt (b := 10) (by omega) k ((x % 10 ^ i) * y)
 have h2 := dig_lt (b := 10) (by omega) i x
 have h3 := dig_lt (b := 10) (by omega) (k - i) y
 have h4 : dig 10 i x * dig 10 (k - i) y ≤ 9 * 9 := Nat.mul_le_mul (by omega) (by omega)
 split <;> omega
end ExP
end Go.Proofs.YtdkhkfdenlabaaaGreatDoor
