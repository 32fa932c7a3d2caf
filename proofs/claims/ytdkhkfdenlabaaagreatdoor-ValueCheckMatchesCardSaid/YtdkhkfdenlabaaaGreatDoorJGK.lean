/- The program's numbers: quotients and common divisors. The program's numbers: common divisors. Fractions of the program: sums. Fractions of the program: the functions within Add, Sub, Mul and Div. -/
import Derived.Test.YtdkhkfdenlabaaaGreatDoorJGJ
import Derived.Test.YtdkhkfdenlabaaaGreatDoorJGE
set_option linter.unusedSimpArgs false
set_option linter.unusedVariables false
namespace Go.Proofs.YtdkhkfdenlabaaaGreatDoor
open Go.RowKit
open Sym
attribute [local irreducible] Calls Sym.AggEq ExP.nd ExP.dig ExP.upd
theorem nv_nil0 (k : IntKind) (b : Nat) : nv k b 0 = [] := by
  have := nv_len k b 0
  rw [ExP.nd_zero] at this
  exact List.length_eq_zero_iff.1 this
structure DvT where
  j : Nat
  V : Nat
  r : Nat
  ra : Option Addr
  rc : Nat
structure DvI (x y n : Nat) (t : DvT) : Prop where
  hj : t.j ≤ n
  d : ExP.DivI 1000000000 x y t.j t.V t.r
  hn : t.ra = none → t.rc = 0
  hc : ExP.nd 1000000000 t.r ≤ t.rc
set_option maxRecDepth 100000 in
set_option maxHeartbeats 2000000 in
theorem divide_any (a b : Option Addr) (ca cb x y : Nat) (w : World) (hw0 : 0 < w.heap.size) (hx : ExP.nd 1000000000 x ≤ 10000000) (hy : ExP.nd 1000000000 y ≤ 10000000) (hy0 : 0 < y) (hs : SlAt a (nv .u32 1000000000 x) w) (ht : SlAt b (nv .u32 1000000000 y) w) :
    Calls Tryz.prog 203 #[.slice a (ExP.nd 1000000000 x) ca, .slice b (ExP.nd 1000000000 y) cb] w (NatOut2 .u32 1000000000 (x / y) (x % y) w) := by
  obtain ⟨i0, hi, hz0, hz1, hz2⟩ := info_parts u32Info
  have hu := Tryz.underlying137
  have hsz := fun w => Tryz.sizeOf161 w
  have hzv := fun w => Tryz.zeroValue161 w
  have hgx := fun i (h : i < ExP.nd 1000000000 x) => nv_get (k := .u32) h
  have hnx := nv_ne (k := .u32) (b := 1000000000) (x := x)
  have hdx := fun i => ExP.dig_lt (b := 1000000000) (by omega) i x
  have hxl := ExP.nd_lt (b := 1000000000) (by omega) x
  have hTR := fun g (V : Nat) (w' : World) (hV : V < 1000000000 ^ (ExP.nd 1000000000 x)) hs' => trim_any (some ⟨g, 0, none⟩) (ExP.nd 1000000000 x) (ExP.nd 1000000000 x) V w' hV (Nat.le_refl _) (by omega) hs'
  have hyb := hy
  have hDG := fun (g c R : Nat) (w' : World) (h0 : 0 < w'.heap.size) (hR : ExP.nd 1000000000 R ≤ 20000000) (hRy : R < y * 1000000000) hb h => digit_any (some ⟨g, 0, none⟩) b c cb R y w' h0 hR (by omega) hy0 hRy h (SlAt.below ht hb)
  have hTM := fun (g m : Nat) (hm : m < 1000000000) (w' : World) hb (h : SlAt (some ⟨g, 0, none⟩) (nv .u32 1000000000 m) w') => times_any b (some ⟨g, 0, none⟩) cb 1 y m w' (by omega) (by have := ExP.dg_one (b := 1000000000) (by omega) hm; omega) (SlAt.below ht hb) h
  refine enter env_ok Tryz.func203 rfl Tryz.results203 Tryz.ntmps203 [] [] [.any (.slice a (ExP.nd 1000000000 x) ca), .any (.slice b (ExP.nd 1000000000 y) cb)] ⟨rfl, rfl, trivial⟩ (Nat.le_of_ble_eq_true rfl) w _ 1000 ?_
  generalize ExP.nd 1000000000 x = n at *
  generalize hMY : ExP.nd 1000000000 y = m at *
  repeat' (first | ((with_reducible first | show wpS .. | show putD .. | show putW .. | show splitG .. | show wpQ .. | show wpD .. | show wpX .. | show expX .. | show stepX .. | show keepR .. | show wpY ..); conv => whnf) | ((with_reducible show RetN ..); refine retB fun β => ?_) | ((with_reducible show _ ∧ _); first | (refine ⟨fun h => absurd h (by first | omega | decide), fun _ => ?_⟩) | (refine ⟨fun _ => ?_, fun h => absurd h (by first | omega | decide)⟩) | (refine ⟨fun _ => ?_, fun _ => ?_⟩) | (apply And.intro; · kernel_rfl) | (apply And.intro; · (show inK _ _; unfold inK; omega)) | (apply And.intro; · (show (_ : Int) ≤ 9223372036854775807; (try simp only [lenS]); omega))) | ((with_reducible show AllBe ..); refine allBe fun βe => ?_; conv => whnf) | ((with_reducible show bothX ..); refine bothI ?_ ?_; conv => whnf) | (with_reducible exact trivial) | ((with_reducible show CallN ..); refine call_of env_ok rfl 1000 ?_) | ((with_reducible show XopN ..); refine xop_of env_ok rfl 1000 ?_) | ((with_reducible show CallX ..); first | fail) | ((with_reducible show OpX ..); first | (refine opx_make (m := n) rfl (by omega) rfl rfl hu hi hz0 hz1 rfl (by rw [hz2]; omega) (by unfold maxLen; omega) (fun g => ?_))) | ((with_reducible show ∃ _ : SV, _); first | (refine ⟨_, ?ok, x_len Tryz.underlying137, ?_⟩; (case ok => exact fun _ _ => trivial))) | ((with_reducible show ∃ _, _); first | fail))
  rw [rep_row 1000000000]
  refine loop_learn0 hw0 ?_
  refine loop env_ok rfl (T := {t : DvT // DvI x y n t}) (fun t => ⟨[(0, .any (.slice a n ca)), (1, .any (.slice b m cb)), (6, .any (.slice (some ⟨g, 0, none⟩) n n)), (7, .any (.slice t.1.ra (ExP.nd 1000000000 t.1.r) t.1.rc)), (8, .int .i64 ((t.1.j : Nat) - 1 : Int))], [(0, true, .blob (OwnS 161 1 g n n (valsK .u32 (ExP.dgN 1000000000 n t.1.V)))), (1, false, .blob (SlF w.heap.size t.1.ra (nv .u32 1000000000 t.1.r)))], 2, 46⟩) (fun t => t.1.j) ⟨⟨n, 0, 0, none, 0⟩, ⟨Nat.le_refl _, ExP.div_start hxl, fun _ => rfl, by rw [ExP.nd_zero]; exact Nat.le_refl _⟩⟩ 1000 [] [] (fun _ => by exact Nat.zero_le _) (by dsimp only; rw [nv_nil0, ExP.nd_zero]; ((with_reducible show wk _ _); repeat' (first | exact trivial | exact eqSV_refl _ | (refine eqI ?_) | (refine eqS ?_) | (with_reducible exact rfl) | apply And.intro | exact Nat.zero_lt_one | exact Nat.le_of_ble_eq_true rfl | (with_reducible assumption) | ((show (_ : Int) = _); (try dsimp only); omega) | ((show eqSV _ _); simp [eqSV, isB, bval, *]; done) | rfl)); all_goals exact fun b x h => h) (fun t I hI => ?_)
  obtain ⟨⟨j, V, r, ra, rc⟩, hj, hD, hn, hc⟩ := t
  dsimp only at hj hD hn hc ⊢
  by_cases hj0 : j = 0
  · subst hj0
    obtain ⟨rfl, rfl⟩ := ExP.div_end hD
    have hl := ExP.div_lt (by omega) hD hxl
    repeat' (first | ((with_reducible first | show wpS .. | show putD .. | show putW .. | show splitG .. | show wpQ .. | show wpD .. | show wpX .. | show expX .. | show stepX .. | show keepR .. | show wpY ..); conv => whnf) | ((with_reducible show RetN ..); refine retB fun β => ?_) | ((with_reducible show _ ∧ _); first | (refine ⟨fun h => absurd h (by first | omega | decide), fun _ => ?_⟩) | (refine ⟨fun _ => ?_, fun h => absurd h (by first | omega | decide)⟩) | (refine ⟨fun _ => ?_, fun _ => ?_⟩) | (apply And.intro; · kernel_rfl) | (apply And.intro; · (show inK _ _; unfold inK; omega)) | (apply And.intro; · (show (_ : Int) ≤ 9223372036854775807; (try simp only [lenS]); omega))) | ((with_reducible show AllBe ..); refine allBe fun βe => ?_; conv => whnf) | ((with_reducible show bothX ..); refine bothI ?_ ?_; conv => whnf) | (with_reducible exact trivial) | ((with_reducible show CallN ..); refine call_of env_ok rfl 1000 ?_) | ((with_reducible show XopN ..); refine xop_of env_ok rfl 1000 ?_) | ((with_reducible show CallX ..); first | (refine callX (.any (.slice (some ⟨g, 0, none⟩) (ExP.nd 1000000000 (x / y)) n)) (by kernel_rfl) rfl (rfl) (fun β w hm => hTR g (x / y) w hl (Mem.own hm 0 rfl).1) ?_)) | ((with_reducible show OpX ..); first | fail) | ((with_reducible show ∃ _ : SV, _); first | fail) | ((with_reducible show ∃ _, _); first | fail))
    refine ret fun β w' hm => ?_
    obtain ⟨q1, q2, q3⟩ := Mem.own hm 0 rfl
    have hle := ExP.nd_le (b := 1000000000) (by omega) hl
    exact ⟨_, n, ra, rc, rfl, ⟨sl_pre q1 (dgN_pre hle .u32), fresh_own q2 rfl, (fun h => by cases h), hle⟩, ⟨Mem.slF hm 1 rfl, Mem.freshF hm 1 rfl rfl, hn, hc⟩, hm.below⟩
  · obtain ⟨i, rfl⟩ : ∃ i, j = i + 1 := ⟨j - 1, by omega⟩
    obtain ⟨ad, rfl⟩ := SlAt.some hs (hnx (by omega))
    have r1 := sl_read hs (hgx i (by omega))
    have hdx := hdx i
    have hry : r < y := by rw [hD.r]; exact Nat.mod_lt _ hy0
    obtain ⟨hD1, hq⟩ := ExP.div_next (by omega) hy0 hD rfl
    have hrn := ExP.nd_mono (b := 1000000000) (by omega) (Nat.le_of_lt hry)
    rw [hMY] at hrn
    have hRl := ExP.cons_lt hdx (ExP.nd_lt (b := 1000000000) (by omega) r)
    have hcons := ExP.cons_dg (b := 1000000000) (r := r) (by omega) hdx (ExP.nd 1000000000 r)
    have hset := ExP.dgN_set (b := 1000000000) (n := n) (V := V) (j := i) (by omega) hq
    have hRy : ExP.dig 1000000000 i x + r * 1000000000 < y * 1000000000 := by omega
    have hnl := nv_len .u32 1000000000 r
    have hrow : ([.int .u32 ((ExP.dig 1000000000 i x : Nat) : Int)] : List Value) ++ nv .u32 1000000000 r = valsK .u32 (ExP.dgN 1000000000 (1 + ExP.nd 1000000000 r) (ExP.dig 1000000000 i x + r * 1000000000)) := by rw [Nat.add_comm 1, hcons]; rfl
    generalize ExP.dig 1000000000 i x = dx at *
    generalize hR : dx + r * 1000000000 = R at *
    have hRn := ExP.nd_le (b := 1000000000) (by omega) hRl
    have hmod : R % y = R - y * (R / y) := by have := Nat.div_add_mod R y; omega
    have hle : y * (R / y) ≤ R := Nat.mul_div_le R y
    have hMN := fun (g c : Nat) (a2 : Option Addr) (c2 : Nat) (w' : World) h1 h2 => minus_any (some ⟨g, 0, none⟩) a2 c c2 R (y * (R / y)) w' (by omega) (by have := ExP.nd_mono (b := 1000000000) (by omega) hle; omega) hle (fun h => by cases h) h1 h2
    rw [hmod] at hD1
    have hDG := fun g c w' h0 => hDG g c R w' h0 (by omega) hRy
    have hT2 := fun g (c : Nat) hc (w' : World) hs' => trim_any (some ⟨g, 0, none⟩) (1 + ExP.nd 1000000000 r) c R w' (by rw [Nat.add_comm]; exact hRl) hc (by omega) hs'
    have hpre := dgN_pre (b := 1000000000) (x := R) (by omega : ExP.nd 1000000000 R ≤ 1 + ExP.nd 1000000000 r) .u32
    generalize R / y = q at *
    have hTM := hTM
    have hT1 := fun g (w' : World) hs' => trim_any (some ⟨g, 0, none⟩) 1 1 q w' (by simpa using hq) (Nat.le_refl _) (by omega) hs'
    rw [one_row hq] at hT1
    have hpre1 : ∀ (i : Nat) (v : Value), (nv .u32 1000000000 q)[i]? = some v → ([.int .u32 (q : Nat)] : List Value)[i]? = some v := by rw [← one_row hq]; exact dgN_pre (ExP.dg_one (by omega) hq) .u32
    repeat' (first | ((with_reducible first | show wpS .. | show putD .. | show putW .. | show splitG .. | show wpQ .. | show wpD .. | show wpX .. | show expX .. | show stepX .. | show keepR .. | show wpY ..); conv => whnf) | ((with_reducible show RetN ..); refine retB fun β => ?_) | ((with_reducible show _ ∧ _); first | (refine ⟨fun h => absurd h (by first | omega | decide), fun _ => ?_⟩) | (refine ⟨fun _ => ?_, fun h => absurd h (by first | omega | decide)⟩) | (refine ⟨fun _ => ?_, fun _ => ?_⟩) | (apply And.intro; · kernel_rfl) | (apply And.intro; · (show inK _ _; unfold inK; omega)) | (apply And.intro; · (show (_ : Int) ≤ 9223372036854775807; (try simp only [lenS]); omega))) | ((with_reducible show AllBe ..); refine allBe fun βe => ?_; conv => whnf) | ((with_reducible show bothX ..); refine bothI ?_ ?_; conv => whnf) | (with_reducible exact trivial) | ((with_reducible show CallN ..); refine call_of env_ok rfl 1000 ?_) | ((with_reducible show XopN ..); refine xop_of env_ok rfl 1000 ?_) | ((with_reducible show CallX ..); first | (refine callX (.any (.slice (some ⟨g2, 0, none⟩) (ExP.nd 1000000000 R) cap2)) (by kernel_rfl) rfl (rfl) (fun β w hm => hT2 g2 cap2 (Mem.own hm 2 rfl).2.2 w (by have := (Mem.own hm 2 rfl).1; rw [hrow] at this; exact this)) ?_) | (refine callX (.int .u32 (q : Nat)) (by kernel_rfl) rfl (trivial) (fun β w hm => hDG g2 cap2 w (Nat.lt_of_lt_of_le hw0 hm.base_le) hm.below (sl_pre (by have := (Mem.own hm 2 rfl).1; rw [hrow] at this; exact this) hpre)) ?_) | (refine callX (.any (.slice (some ⟨g3, 0, none⟩) (ExP.nd 1000000000 q) 1)) (by kernel_rfl) rfl (rfl) (fun β w hm => hT1 g3 w (Mem.own hm 3 rfl).1) ?_) | (refine callNat .u32 1000000000 (y * q) hw0 (by kernel_rfl) rfl (fun β w' hm => hTM g3 q hq w' hm.below (sl_pre (Mem.own hm 3 rfl).1 hpre1)) (fun ta tca hn1 hc1 hs1 => ?_)) | (refine callNat .u32 1000000000 (R - y * q) hw0 (by kernel_rfl) rfl (fun β w' hm => hMN g2 cap2 ta tca w' (sl_pre (by have := (Mem.own hm 2 rfl).1; rw [hrow] at this; exact this) hpre) (Mem.slF hm 4 rfl)) (fun ua uca hn2 hc2 hs2 => ?_))) | ((with_reducible show OpX ..); first | (refine opx_build1 (sz := 1) rfl rfl rfl (xs := [.int .u32 (dx : Nat)]) (fun β => rfl) rfl (by omega) (by omega) hu hsz hzv (fun g1 => ?_)) | (refine opx_appendW (sz := 1) 2 (ys := nv .u32 1000000000 r) rfl hu hi hz0 hz1 rfl (by omega) rfl rfl rfl hn (by rw [Nat.mul_one]; exact hnl) (fun β w' hm => Mem.slF hm 1 rfl) (by unfold maxLen; omega) (by rw [hz2]; omega) (valsK_one _ _) (by kernel_rfl) (Nat.zero_le _) (fun g2 cap2 => ?_)) | (refine opx_store env_ok 0 (u := .int .u32 (q : Nat)) rfl rfl rfl rfl (fun β => rfl) rfl rfl (by omega) ?_) | (refine opx_build1 (sz := 1) rfl rfl rfl (xs := [.int .u32 (q : Nat)]) (fun β => rfl) rfl (by omega) (by omega) hu hsz hzv (fun g3 => ?_))) | ((with_reducible show ∃ _ : SV, _); first | (refine ⟨_, ?ok, x_len Tryz.underlying137, ?_⟩; (case ok => exact fun _ _ => trivial)) | (refine ⟨_, ?ok, x_index (j := i) (by omega) Tryz.underlying137 (fun w => Tryz.sizeOf161 w) (by omega), ?_⟩; (case ok => exact fun _ _ => rfl)) | (refine ⟨.int .u32 (dx : Nat), fun _ _ => trivial, x_load1 (fun w => Tryz.isAgg161 w) (fun w' hb β => by rw [Nat.mul_one]; exact r1 w' hb), ?_⟩) | (refine ⟨.int .u32 (q : Nat), fun _ _ => trivial, x_loadO 0 (.int .u32 (q : Nat)) (fun w => Tryz.isAgg161 w) rfl (fun β => by rw [Nat.mul_one, List.getElem?_set_self (by rw [valsK_len, ExP.dgN_len]; omega)]; rfl), ?_⟩)) | ((with_reducible show ∃ _, _); first | fail))
    refine back_copy 1 5 rfl rfl rfl (Nat.zero_le _) (by kernel_rfl) ?_
    refine hI _ ⟨⟨i, ExP.upd 1000000000 V i q, R - y * q, ua, uca⟩, ⟨by dsimp only; omega, hD1, hn2, hc2⟩⟩ (by dsimp only; omega) (by dsimp only; ((with_reducible show wk _ _); repeat' (first | exact trivial | exact eqSV_refl _ | (refine eqI ?_) | (refine eqS ?_) | (with_reducible exact rfl) | apply And.intro | exact Nat.zero_lt_one | exact Nat.le_of_ble_eq_true rfl | (with_reducible assumption) | ((show (_ : Int) = _); (try dsimp only); omega) | ((show eqSV _ _); simp [eqSV, isB, bval, *]; done) | rfl)); all_goals first | exact fun b x h => h | (rw [Nat.mul_one, valsK_set, hset]; exact fun b x h => h))
end Go.Proofs.YtdkhkfdenlabaaaGreatDoor
namespace Go.Proofs.YtdkhkfdenlabaaaGreatDoor
open Go.RowKit
open Sym
attribute [local irreducible] Calls Sym.AggEq ExP.nd ExP.dig ExP.upd
/-- what a slice shows, and that it is not older than base or one of those named -/
def SlL (base : Nat) (L : List (Option Addr)) (a : Option Addr) (xs : List Value) (b : Nat) (o : Option Obj) : Prop := SlB a xs b o ∧ ((xs ≠ [] → base ≤ b) ∨ a ∈ L)
structure CmT where
  u : Nat
  v : Nat
  a : Option Addr
  c : Nat
  b : Option Addr
  d : Nat
structure CmI (x y : Nat) (t : CmT) : Prop where
  g : Nat.gcd t.u t.v = Nat.gcd x y
  hu : ExP.nd 1000000000 t.u ≤ 10000000
  hv : ExP.nd 1000000000 t.v ≤ 10000000
  ha : t.a = none → t.c = 0
  hc : ExP.nd 1000000000 t.u ≤ t.c
  hb : t.b = none → t.d = 0
  hd : ExP.nd 1000000000 t.v ≤ t.d
set_option maxRecDepth 100000 in
set_option maxHeartbeats 2000000 in
theorem common_any (L : List (Option Addr)) (a b : Option Addr) (ca cb x y : Nat) (w : World) (hw0 : 0 < w.heap.size) (hx : ExP.nd 1000000000 x ≤ 10000000) (hy : ExP.nd 1000000000 y ≤ 10000000) (ha : a = none → ca = 0) (hca : ExP.nd 1000000000 x ≤ ca) (hb : b = none → cb = 0) (hcb : ExP.nd 1000000000 y ≤ cb) (hLa : 0 < x → a ∈ L) (hLb : 0 < y → b ∈ L) (hs : SlAt a (nv .u32 1000000000 x) w) (ht : SlAt b (nv .u32 1000000000 y) w) :
    Calls Tryz.prog 186 #[.slice a (ExP.nd 1000000000 x) ca, .slice b (ExP.nd 1000000000 y) cb] w (NatAny L .u32 1000000000 (Nat.gcd x y) w) := by
  refine enter env_ok Tryz.func186 rfl Tryz.results186 Tryz.ntmps186 [] [] [.any (.slice a (ExP.nd 1000000000 x) ca), .any (.slice b (ExP.nd 1000000000 y) cb)] ⟨rfl, rfl, trivial⟩ (Nat.le_of_ble_eq_true rfl) w _ 1000 ?_
  repeat' (first | ((with_reducible first | show wpS .. | show putD .. | show putW .. | show splitG .. | show wpQ .. | show wpD .. | show wpX .. | show expX .. | show stepX .. | show keepR .. | show wpY ..); conv => whnf) | ((with_reducible show RetN ..); refine retB fun β => ?_) | ((with_reducible show _ ∧ _); first | (refine ⟨fun h => absurd h (by first | omega | decide), fun _ => ?_⟩) | (refine ⟨fun _ => ?_, fun h => absurd h (by first | omega | decide)⟩) | (refine ⟨fun _ => ?_, fun _ => ?_⟩) | (apply And.intro; · kernel_rfl) | (apply And.intro; · (show inK _ _; unfold inK; omega)) | (apply And.intro; · (show (_ : Int) ≤ 9223372036854775807; (try simp only [lenS]); omega))) | ((with_reducible show AllBe ..); refine allBe fun βe => ?_; conv => whnf) | ((with_reducible show bothX ..); refine bothI ?_ ?_; conv => whnf) | (with_reducible exact trivial) | ((with_reducible show CallN ..); refine call_of env_ok rfl 1000 ?_) | ((with_reducible show XopN ..); refine xop_of env_ok rfl 1000 ?_) | ((with_reducible show CallX ..); first | fail) | ((with_reducible show OpX ..); first | fail) | ((with_reducible show ∃ _ : SV, _); first | fail) | ((with_reducible show ∃ _, _); first | fail))
  refine loop_learnA a (nv .u32 1000000000 x) hw0 rfl hs ?_
  refine loop_learnA b (nv .u32 1000000000 y) hw0 rfl ht ?_
  refine loop env_ok rfl (T := {t : CmT // CmI x y t}) (fun t => ⟨[(0, .any (.slice t.1.a (ExP.nd 1000000000 t.1.u) t.1.c)), (1, .any (.slice t.1.b (ExP.nd 1000000000 t.1.v) t.1.d))], [(0, false, .blob (SlL w.heap.size L t.1.a (nv .u32 1000000000 t.1.u))), (1, false, .blob (SlL w.heap.size L t.1.b (nv .u32 1000000000 t.1.v)))], 2, 19⟩) (fun t => t.1.v) ⟨⟨x, y, a, ca, b, cb⟩, ⟨rfl, hx, hy, ha, hca, hb, hcb⟩⟩ 1000 [] [] (fun _ => by exact Nat.zero_le _) (by dsimp only; ((with_reducible show wk _ _); repeat' (first | exact trivial | exact eqSV_refl _ | (refine eqI ?_) | (refine eqS ?_) | (with_reducible exact rfl) | apply And.intro | exact Nat.zero_lt_one | exact Nat.le_of_ble_eq_true rfl | (with_reducible assumption) | ((show (_ : Int) = _); (try dsimp only); omega) | ((show eqSV _ _); simp [eqSV, isB, bval, *]; done) | rfl)); all_goals first | exact fun b x h => ⟨h, (by first | exact slL_or hLa | exact slL_or hLb)⟩) (fun t I hI => ?_)
  obtain ⟨⟨u, v, a1, c1, b1, d1⟩, hG, hu, hv, ha1, hc1, hb1, hd1⟩ := t
  dsimp only at hG hu hv ha1 hc1 hb1 hd1 ⊢
  have hZ := fun w => zero_any b1 (ExP.nd 1000000000 v) d1 w
  by_cases hv0 : v = 0
  · have hz : decide ((ExP.nd 1000000000 v : Int) = 0) = true := by subst hv0; rw [ExP.nd_zero]; rfl
    rw [hz] at hZ
    repeat' (first | ((with_reducible first | show wpS .. | show putD .. | show putW .. | show splitG .. | show wpQ .. | show wpD .. | show wpX .. | show expX .. | show stepX .. | show keepR .. | show wpY ..); conv => whnf) | ((with_reducible show RetN ..); refine retB fun β => ?_) | ((with_reducible show _ ∧ _); first | (refine ⟨fun h => absurd h (by first | omega | decide), fun _ => ?_⟩) | (refine ⟨fun _ => ?_, fun h => absurd h (by first | omega | decide)⟩) | (refine ⟨fun _ => ?_, fun _ => ?_⟩) | (apply And.intro; · kernel_rfl) | (apply And.intro; · (show inK _ _; unfold inK; omega)) | (apply And.intro; · (show (_ : Int) ≤ 9223372036854775807; (try simp only [lenS]); omega))) | ((with_reducible show AllBe ..); refine allBe fun βe => ?_; conv => whnf) | ((with_reducible show bothX ..); refine bothI ?_ ?_; conv => whnf) | (with_reducible exact trivial) | ((with_reducible show CallN ..); refine call_of env_ok rfl 1000 ?_) | ((with_reducible show XopN ..); refine xop_of env_ok rfl 1000 ?_) | ((with_reducible show CallX ..); first | (refine callX (.lit true) (by kernel_rfl) rfl (trivial) (fun β w hm => hZ w) ?_)) | ((with_reducible show OpX ..); first | fail) | ((with_reducible show ∃ _ : SV, _); first | fail) | ((with_reducible show ∃ _, _); first | fail))
    refine ret fun β w' hm => ?_
    subst hv0
    rw [Nat.gcd_zero_right] at hG
    subst hG
    obtain ⟨q1, -, -, -⟩ := hm.row 0 _ _ rfl
    refine ⟨a1, c1, rfl, q1.2.1.at q1.1, q1.2.2.imp (fun h => ?_) id, ha1, hc1, hm.below⟩
    exact SlF.fresh (w := w') ⟨q1.2.1, h⟩ rfl
  · have hz : decide ((ExP.nd 1000000000 v : Int) = 0) = false := by
      have := (ExP.nd_pos (b := 1000000000) (by omega)).2 (Nat.pos_of_ne_zero hv0)
      exact decide_eq_false (by omega)
    rw [hz] at hZ
    have hDV := fun (w' : World) h0 h1 h2 => divide_any a1 b1 c1 d1 u v w' h0 hu hv (Nat.pos_of_ne_zero hv0) h1 h2
    have hml := Nat.mod_lt u (Nat.pos_of_ne_zero hv0)
    have hmn := ExP.nd_mono (b := 1000000000) (by omega) (Nat.le_of_lt hml)
    have hg2 : Nat.gcd v (u % v) = Nat.gcd x y := by rw [← hG, Nat.gcd_comm u v, Nat.gcd_rec v u, Nat.gcd_comm]
    generalize u % v = r at *
    generalize u / v = q at *
    repeat' (first | ((with_reducible first | show wpS .. | show putD .. | show putW .. | show splitG .. | show wpQ .. | show wpD .. | show wpX .. | show expX .. | show stepX .. | show keepR .. | show wpY ..); conv => whnf) | ((with_reducible show RetN ..); refine retB fun β => ?_) | ((with_reducible show _ ∧ _); first | (refine ⟨fun h => absurd h (by first | omega | decide), fun _ => ?_⟩) | (refine ⟨fun _ => ?_, fun h => absurd h (by first | omega | decide)⟩) | (refine ⟨fun _ => ?_, fun _ => ?_⟩) | (apply And.intro; · kernel_rfl) | (apply And.intro; · (show inK _ _; unfold inK; omega)) | (apply And.intro; · (show (_ : Int) ≤ 9223372036854775807; (try simp only [lenS]); omega))) | ((with_reducible show AllBe ..); refine allBe fun βe => ?_; conv => whnf) | ((with_reducible show bothX ..); refine bothI ?_ ?_; conv => whnf) | (with_reducible exact trivial) | ((with_reducible show CallN ..); refine call_of env_ok rfl 1000 ?_) | ((with_reducible show XopN ..); refine xop_of env_ok rfl 1000 ?_) | ((with_reducible show CallX ..); first | (refine callX (.lit false) (by kernel_rfl) rfl (trivial) (fun β w hm => hZ w) ?_) | (refine callNat2 .u32 1000000000 q r hw0 (by kernel_rfl) rfl (fun β w' hm => hDV w' (Nat.lt_of_lt_of_le hw0 hm.base_le) ((hm.row 0 _ _ rfl).1.2.1.at (hm.row 0 _ _ rfl).1.1) ((hm.row 1 _ _ rfl).1.2.1.at (hm.row 1 _ _ rfl).1.1)) (fun qa qc ra rc h1 h2 h3 h4 h5 h6 => ?_))) | ((with_reducible show OpX ..); first | fail) | ((with_reducible show ∃ _ : SV, _); first | fail) | ((with_reducible show ∃ _, _); first | fail))
    refine back_copy 0 1 rfl rfl rfl (Nat.zero_le _) (by kernel_rfl) ?_
    refine back_copy 1 3 rfl rfl rfl (Nat.zero_le _) (by kernel_rfl) ?_
    refine hI _ ⟨⟨v, r, b1, d1, ra, rc⟩, ⟨hg2, hv, by dsimp only; omega, hb1, hd1, h4, h5⟩⟩ (by dsimp only; omega) (by dsimp only; ((with_reducible show wk _ _); repeat' (first | exact trivial | exact eqSV_refl _ | (refine eqI ?_) | (refine eqS ?_) | (with_reducible exact rfl) | apply And.intro | exact Nat.zero_lt_one | exact Nat.le_of_ble_eq_true rfl | (with_reducible assumption) | ((show (_ : Int) = _); (try dsimp only); omega) | ((show eqSV _ _); simp [eqSV, isB, bval, *]; done) | rfl)); all_goals first | exact fun b x h => h | exact fun b x h => ⟨h.1, .inl h.2⟩)
end Go.Proofs.YtdkhkfdenlabaaaGreatDoor
namespace Go.Proofs.YtdkhkfdenlabaaaGreatDoor
open Go.RowKit
open Sym
attribute [local irreducible] Calls Sym.AggEq ExP.nd ExP.dig ExP.upd
set_option maxRecDepth 100000 in
set_option maxHeartbeats 4000000 in
theorem sum_any (x y : FrV) (w : World) (hw0 : 0 < w.heap.size) (hx : FrIn .u32 1000000000 x w) (hy : FrIn .u32 1000000000 y w)
    (hxn : ExP.nd 1000000000 x.n ≤ 1000000) (hxd : ExP.nd 1000000000 x.d ≤ 1000000) (hyn : ExP.nd 1000000000 y.n ≤ 1000000) (hyd : ExP.nd 1000000000 y.d ≤ 1000000) :
    Calls Tryz.prog 175 #[x.val 1000000000, y.val 1000000000] w (FrOut .u32 1000000000 (ExP.sumN x.num y.num) w) := by
  obtain ⟨xm, xn, xd, xa, xc, xb, xe⟩ := x
  obtain ⟨ym, yn, yd, ya, yc, yb, ye⟩ := y
  obtain ⟨hx1, hx2, ⟨hx3, hx4, hx5, hx6⟩⟩ := hx
  obtain ⟨hy1, hy2, ⟨hy3, hy4, hy5, hy6⟩⟩ := hy
  dsimp only [FrV.num, FrV.val] at *
  have T1 := fun (w' : World) (h : Below w.heap.size w w') => times_any xa yb xc ye xn yd w' (by omega) (by omega) (hx1.below h) (hy2.below h)
  have T2 := fun (w' : World) (h : Below w.heap.size w w') => times_any ya xb yc xe yn xd w' (by omega) (by omega) (hy1.below h) (hx2.below h)
  have T3 := fun (w' : World) (h : Below w.heap.size w w') => times_any xb yb xe ye xd yd w' (by omega) (by omega) (hx2.below h) (hy2.below h)
  have m1 := ExP.nd_mul (b := 1000000000) (x := xn) (y := yd) (by omega)
  have m2 := ExP.nd_mul (b := 1000000000) (x := yn) (y := xd) (by omega)
  by_cases hm : xm = ym
  · have hS : ExP.sumN ⟨xm, xn, xd⟩ ⟨ym, yn, yd⟩ = ⟨xm, xn * yd + yn * xd, xd * yd⟩ := by simp [ExP.sumN, hm]
    rw [hS]
    obtain rfl : xm = ym := hm
    refine enter env_ok Tryz.func175 rfl Tryz.results175 Tryz.ntmps175 [] [200001, 200004, 200006, 200007] [.agg [.bool xm, .any (.slice xa (ExP.nd 1000000000 xn) xc), .any (.slice xb (ExP.nd 1000000000 xd) xe)], .agg [.bool xm, .any (.slice ya (ExP.nd 1000000000 yn) yc), .any (.slice yb (ExP.nd 1000000000 yd) ye)]] ⟨⟨trivial, rfl, rfl, trivial⟩, ⟨trivial, rfl, rfl, trivial⟩, trivial⟩ (Nat.le_of_ble_eq_true rfl) w _ 1000 ?_
    repeat' (first | ((with_reducible first | show wpS .. | show putD .. | show putW .. | show splitG .. | show wpQ .. | show wpD .. | show wpX .. | show expX .. | show stepX .. | show keepR .. | show wpY ..); conv => whnf) | ((with_reducible show RetN ..); refine retB fun β => ?_) | ((with_reducible show _ ∧ _); first | (refine ⟨fun h => absurd h (by first | omega | decide), fun _ => ?_⟩) | (refine ⟨fun _ => ?_, fun h => absurd h (by first | omega | decide)⟩) | (refine ⟨fun _ => ?_, fun _ => ?_⟩) | (apply And.intro; · kernel_rfl) | (apply And.intro; · (show inK _ _; unfold inK; omega)) | (apply And.intro; · (show (_ : Int) ≤ 9223372036854775807; (try simp only [lenS]); omega))) | ((with_reducible show AllBe ..); refine allBe fun βe => ?_; conv => whnf) | ((with_reducible show bothX ..); refine bothI ?_ ?_; conv => whnf) | (with_reducible exact trivial) | ((with_reducible show CallN ..); refine call_of env_ok rfl 1000 ?_) | ((with_reducible show XopN ..); refine xop_of env_ok rfl 1000 ?_) | ((with_reducible show CallX ..); first | (refine callNat .u32 1000000000 (xn * yd) hw0 (by kernel_rfl) rfl (fun β w' hm => T1 w' hm.below) (fun a1 c1 h1 h2 h3 => ?_)) | (refine callNat .u32 1000000000 (yn * xd) hw0 (by kernel_rfl) rfl (fun β w' hm => T2 w' hm.below) (fun a2 c2 h4 h5 h6 => ?_)) | (refine callNat .u32 1000000000 (xd * yd) hw0 (by kernel_rfl) rfl (fun β w' hm => T3 w' hm.below) (fun a3 c3 h7 h8 h9 => ?_)) | (refine callNat .u32 1000000000 (xn * yd + yn * xd) hw0 (by kernel_rfl) rfl (fun β w' hm => plus_any a1 a2 c1 c2 _ _ w' (by omega) (by omega) (hm.slF 3 rfl) (hm.slF 4 rfl)) (fun a4 c4 h10 h11 h12 => ?_)) | (refine callNat .u32 1000000000 (xn * yd + yn * xd) hw0 (by kernel_rfl) rfl (fun β w' hm => plus_any a1 a2 c1 c2 _ _ w' (by omega) (by omega) (hm.slF 4 rfl) (hm.slF 3 rfl)) (fun a4 c4 h10 h11 h12 => ?_))) | ((with_reducible show OpX ..); first | fail) | ((with_reducible show ∃ _ : SV, _); first | (refine ⟨_, ?ok, x_eqBB xm xm true (fun _ => rfl) (fun _ => rfl) (by simp) Tryz.underlying4, ?_⟩; (case ok => exact fun _ _ => trivial))) | ((with_reducible show ∃ _, _); first | fail))
    all_goals first | (exfalso; simp_all; done) | skip
    all_goals refine ret fun β w' hm => ?_
    all_goals exact ⟨⟨_, _, _, a4, c4, a3, c3⟩, rfl, rfl, ⟨h10, h7, h11, h8⟩, Ls2 (hm.slF 6 rfl) (hm.freshF 6 rfl rfl) (hm.slF 5 rfl) (hm.freshF 5 rfl rfl), hm.below⟩
  · by_cases hle : yn * xd ≤ xn * yd
    · have hS : ExP.sumN ⟨xm, xn, xd⟩ ⟨ym, yn, yd⟩ = ⟨xm, xn * yd - yn * xd, xd * yd⟩ := by simp [ExP.sumN, hm, hle]
      rw [hS]
      have hc := (ExP.cmp_sgn 1000000000 (x := xn * yd) (y := yn * xd) (by omega)).1.2 hle
      refine enter env_ok Tryz.func175 rfl Tryz.results175 Tryz.ntmps175 [] [200001, 200004, 200006, 200007] [.agg [.bool xm, .any (.slice xa (ExP.nd 1000000000 xn) xc), .any (.slice xb (ExP.nd 1000000000 xd) xe)], .agg [.bool ym, .any (.slice ya (ExP.nd 1000000000 yn) yc), .any (.slice yb (ExP.nd 1000000000 yd) ye)]] ⟨⟨trivial, rfl, rfl, trivial⟩, ⟨trivial, rfl, rfl, trivial⟩, trivial⟩ (Nat.le_of_ble_eq_true rfl) w _ 1000 ?_
      repeat' (first | ((with_reducible first | show wpS .. | show putD .. | show putW .. | show splitG .. | show wpQ .. | show wpD .. | show wpX .. | show expX .. | show stepX .. | show keepR .. | show wpY ..); conv => whnf) | ((with_reducible show RetN ..); refine retB fun β => ?_) | ((with_reducible show _ ∧ _); first | (refine ⟨fun h => absurd h (by first | omega | decide), fun _ => ?_⟩) | (refine ⟨fun _ => ?_, fun h => absurd h (by first | omega | decide)⟩) | (refine ⟨fun _ => ?_, fun _ => ?_⟩) | (apply And.intro; · kernel_rfl) | (apply And.intro; · (show inK _ _; unfold inK; omega)) | (apply And.intro; · (show (_ : Int) ≤ 9223372036854775807; (try simp only [lenS]); omega))) | ((with_reducible show AllBe ..); refine allBe fun βe => ?_; conv => whnf) | ((with_reducible show bothX ..); refine bothI ?_ ?_; conv => whnf) | (with_reducible exact trivial) | ((with_reducible show CallN ..); refine call_of env_ok rfl 1000 ?_) | ((with_reducible show XopN ..); refine xop_of env_ok rfl 1000 ?_) | ((with_reducible show CallX ..); first | (refine callNat .u32 1000000000 (xn * yd) hw0 (by kernel_rfl) rfl (fun β w' hm => T1 w' hm.below) (fun a1 c1 h1 h2 h3 => ?_)) | (refine callNat .u32 1000000000 (yn * xd) hw0 (by kernel_rfl) rfl (fun β w' hm => T2 w' hm.below) (fun a2 c2 h4 h5 h6 => ?_)) | (refine callNat .u32 1000000000 (xd * yd) hw0 (by kernel_rfl) rfl (fun β w' hm => T3 w' hm.below) (fun a3 c3 h7 h8 h9 => ?_)) | (refine callX (.int .i64 (ExP.cmpN 1000000000 (xn * yd) (yn * xd))) (by kernel_rfl) rfl trivial (fun β w' hm => compare_any a1 a2 c1 c2 _ _ w' (by omega) (by omega) (hm.slF 3 rfl) (hm.slF 4 rfl)) ?_) | (refine callX (.int .i64 (ExP.cmpN 1000000000 (xn * yd) (yn * xd))) (by kernel_rfl) rfl trivial (fun β w' hm => compare_any a1 a2 c1 c2 _ _ w' (by omega) (by omega) (hm.slF 4 rfl) (hm.slF 3 rfl)) ?_) | (refine callNat .u32 1000000000 (xn * yd - yn * xd) hw0 (by kernel_rfl) rfl (fun β w' hm => minus_any a1 a2 c1 c2 _ _ w' (by omega) (by omega) hle h1 (hm.slF 3 rfl) (hm.slF 4 rfl)) (fun a4 c4 h10 h11 h12 => ?_)) | (refine callNat .u32 1000000000 (xn * yd - yn * xd) hw0 (by kernel_rfl) rfl (fun β w' hm => minus_any a1 a2 c1 c2 _ _ w' (by omega) (by omega) hle h1 (hm.slF 4 rfl) (hm.slF 3 rfl)) (fun a4 c4 h10 h11 h12 => ?_))) | ((with_reducible show OpX ..); first | fail) | ((with_reducible show ∃ _ : SV, _); first | (refine ⟨_, ?ok, x_eqBB xm ym false (fun _ => rfl) (fun _ => rfl) (by simpa using hm) Tryz.underlying4, ?_⟩; (case ok => exact fun _ _ => trivial))) | ((with_reducible show ∃ _, _); first | fail))
      all_goals first | (exfalso; simp_all; done) | skip
      all_goals refine ret fun β w' hm => ?_
      all_goals exact ⟨⟨_, _, _, a4, c4, a3, c3⟩, rfl, rfl, ⟨h10, h7, h11, h8⟩, Ls2 (hm.slF 6 rfl) (hm.freshF 6 rfl rfl) (hm.slF 5 rfl) (hm.freshF 5 rfl rfl), hm.below⟩
    · have hS : ExP.sumN ⟨xm, xn, xd⟩ ⟨ym, yn, yd⟩ = ⟨ym, yn * xd - xn * yd, xd * yd⟩ := by simp [ExP.sumN, hm, hle]
      rw [hS]
      have hc := fun h => hle ((ExP.cmp_sgn 1000000000 (x := xn * yd) (y := yn * xd) (by omega)).1.1 h)
      refine enter env_ok Tryz.func175 rfl Tryz.results175 Tryz.ntmps175 [] [200001, 200004, 200006, 200007] [.agg [.bool xm, .any (.slice xa (ExP.nd 1000000000 xn) xc), .any (.slice xb (ExP.nd 1000000000 xd) xe)], .agg [.bool ym, .any (.slice ya (ExP.nd 1000000000 yn) yc), .any (.slice yb (ExP.nd 1000000000 yd) ye)]] ⟨⟨trivial, rfl, rfl, trivial⟩, ⟨trivial, rfl, rfl, trivial⟩, trivial⟩ (Nat.le_of_ble_eq_true rfl) w _ 1000 ?_
      repeat' (first | ((with_reducible first | show wpS .. | show putD .. | show putW .. | show splitG .. | show wpQ .. | show wpD .. | show wpX .. | show expX .. | show stepX .. | show keepR .. | show wpY ..); conv => whnf) | ((with_reducible show RetN ..); refine retB fun β => ?_) | ((with_reducible show _ ∧ _); first | (refine ⟨fun h => absurd h (by first | omega | decide), fun _ => ?_⟩) | (refine ⟨fun _ => ?_, fun h => absurd h (by first | omega | decide)⟩) | (refine ⟨fun _ => ?_, fun _ => ?_⟩) | (apply And.intro; · kernel_rfl) | (apply And.intro; · (show inK _ _; unfold inK; omega)) | (apply And.intro; · (show (_ : Int) ≤ 9223372036854775807; (try simp only [lenS]); omega))) | ((with_reducible show AllBe ..); refine allBe fun βe => ?_; conv => whnf) | ((with_reducible show bothX ..); refine bothI ?_ ?_; conv => whnf) | (with_reducible exact trivial) | ((with_reducible show CallN ..); refine call_of env_ok rfl 1000 ?_) | ((with_reducible show XopN ..); refine xop_of env_ok rfl 1000 ?_) | ((with_reducible show CallX ..); first | (refine callNat .u32 1000000000 (xn * yd) hw0 (by kernel_rfl) rfl (fun β w' hm => T1 w' hm.below) (fun a1 c1 h1 h2 h3 => ?_)) | (refine callNat .u32 1000000000 (yn * xd) hw0 (by kernel_rfl) rfl (fun β w' hm => T2 w' hm.below) (fun a2 c2 h4 h5 h6 => ?_)) | (refine callNat .u32 1000000000 (xd * yd) hw0 (by kernel_rfl) rfl (fun β w' hm => T3 w' hm.below) (fun a3 c3 h7 h8 h9 => ?_)) | (refine callX (.int .i64 (ExP.cmpN 1000000000 (xn * yd) (yn * xd))) (by kernel_rfl) rfl trivial (fun β w' hm => compare_any a1 a2 c1 c2 _ _ w' (by omega) (by omega) (hm.slF 3 rfl) (hm.slF 4 rfl)) ?_) | (refine callX (.int .i64 (ExP.cmpN 1000000000 (xn * yd) (yn * xd))) (by kernel_rfl) rfl trivial (fun β w' hm => compare_any a1 a2 c1 c2 _ _ w' (by omega) (by omega) (hm.slF 4 rfl) (hm.slF 3 rfl)) ?_) | (refine callNat .u32 1000000000 (yn * xd - xn * yd) hw0 (by kernel_rfl) rfl (fun β w' hm => minus_any a2 a1 c2 c1 _ _ w' (by omega) (by omega) (by omega) h4 (hm.slF 4 rfl) (hm.slF 3 rfl)) (fun a4 c4 h10 h11 h12 => ?_)) | (refine callNat .u32 1000000000 (yn * xd - xn * yd) hw0 (by kernel_rfl) rfl (fun β w' hm => minus_any a2 a1 c2 c1 _ _ w' (by omega) (by omega) (by omega) h4 (hm.slF 3 rfl) (hm.slF 4 rfl)) (fun a4 c4 h10 h11 h12 => ?_))) | ((with_reducible show OpX ..); first | fail) | ((with_reducible show ∃ _ : SV, _); first | (refine ⟨_, ?ok, x_eqBB xm ym false (fun _ => rfl) (fun _ => rfl) (by simpa using hm) Tryz.underlying4, ?_⟩; (case ok => exact fun _ _ => trivial))) | ((with_reducible show ∃ _, _); first | fail))
      all_goals first | (exfalso; simp_all; done) | skip
      all_goals refine ret fun β w' hm => ?_
      all_goals exact ⟨⟨_, _, _, a4, c4, a3, c3⟩, rfl, rfl, ⟨h10, h7, h11, h8⟩, Ls2 (hm.slF 6 rfl) (hm.freshF 6 rfl rfl) (hm.slF 5 rfl) (hm.freshF 5 rfl rfl), hm.below⟩
end Go.Proofs.YtdkhkfdenlabaaaGreatDoor
namespace Go.Proofs.YtdkhkfdenlabaaaGreatDoor
open Go.RowKit
open Sym
attribute [local irreducible] Calls Sym.AggEq ExP.nd ExP.dig ExP.upd
set_option maxRecDepth 100000 in
set_option maxHeartbeats 4000000 in
theorem div1_any (x y : FrV) (w : World) (hw0 : 0 < w.heap.size) (hx : FrIn .u32 1000000000 x w) (hy : FrIn .u32 1000000000 y w) (h0 : y.n ≠ 0)
    (hxn : ExP.nd 1000000000 x.n ≤ 1000000) (hxd : ExP.nd 1000000000 x.d ≤ 1000000) (hyn : ExP.nd 1000000000 y.n ≤ 1000000) (hyd : ExP.nd 1000000000 y.d ≤ 1000000) :
    Calls Tryz.prog 171 #[x.val 1000000000, y.val 1000000000] w (FrOutE .u32 1000000000 (ExP.mulN x.num (ExP.invN y.num)) 0 w) := by
  have S1 := fun (w' : World) (h : Below w.heap.size w w') => sum_any x y w' (Nat.lt_of_lt_of_le hw0 h.size) (hx.below h) (hy.below h) hxn hxd hyn hyd
  have S2 := fun (w' : World) (h : Below w.heap.size w w') => sum_any x ⟨!y.m, y.n, y.d, y.a, y.c, y.b, y.e⟩ w' (Nat.lt_of_lt_of_le hw0 h.size) (hx.below h) ⟨hy.sn.below h, hy.sd.below h, ⟨hy.cap.an, hy.cap.bn, hy.cap.cn, hy.cap.cd⟩⟩ hxn hxd hyn hyd
  obtain ⟨xm, xn, xd, xa, xc, xb, xe⟩ := x
  obtain ⟨ym, yn, yd, ya, yc, yb, ye⟩ := y
  obtain ⟨hx1, hx2, ⟨hx3, hx4, hx5, hx6⟩⟩ := hx
  obtain ⟨hy1, hy2, ⟨hy3, hy4, hy5, hy6⟩⟩ := hy
  dsimp only [FrV.num, FrV.val] at *
  have hz := fun w' => zero_any ya (ExP.nd 1000000000 yn) yc w'
  rw [show decide ((ExP.nd 1000000000 yn : Int) = 0) = false from decide_eq_false (by have := (ExP.nd_pos (b := 1000000000) (by omega)).2 (Nat.pos_of_ne_zero h0); omega)] at hz
  refine enter env_ok Tryz.func171 rfl Tryz.results171 Tryz.ntmps171 [] [200003] [.agg [.bool xm, .any (.slice xa (ExP.nd 1000000000 xn) xc), .any (.slice xb (ExP.nd 1000000000 xd) xe)], .agg [.bool ym, .any (.slice ya (ExP.nd 1000000000 yn) yc), .any (.slice yb (ExP.nd 1000000000 yd) ye)]] ⟨⟨trivial, rfl, rfl, trivial⟩, ⟨trivial, rfl, rfl, trivial⟩, trivial⟩ (Nat.le_of_ble_eq_true rfl) w _ 1000 ?_
  repeat' (first | ((with_reducible first | show wpS .. | show putD .. | show putW .. | show splitG .. | show wpQ .. | show wpD .. | show wpX .. | show expX .. | show stepX .. | show keepR .. | show wpY ..); conv => whnf) | ((with_reducible show RetN ..); refine retB fun β => ?_) | ((with_reducible show _ ∧ _); first | (refine ⟨fun h => absurd h (by first | omega | decide), fun _ => ?_⟩) | (refine ⟨fun _ => ?_, fun h => absurd h (by first | omega | decide)⟩) | (refine ⟨fun _ => ?_, fun _ => ?_⟩) | (apply And.intro; · kernel_rfl) | (apply And.intro; · (show inK _ _; unfold inK; omega)) | (apply And.intro; · (show (_ : Int) ≤ 9223372036854775807; (try simp only [lenS]); omega))) | ((with_reducible show AllBe ..); refine allBe fun βe => ?_; conv => whnf) | ((with_reducible show bothX ..); refine bothI ?_ ?_; conv => whnf) | (with_reducible exact trivial) | ((with_reducible show CallN ..); refine call_of env_ok rfl 1000 ?_) | ((with_reducible show XopN ..); refine xop_of env_ok rfl 1000 ?_) | ((with_reducible show CallX ..); first | (refine callX (.lit false) (by kernel_rfl) rfl trivial (fun β w' hm => hz w') ?_) | (refine callNat .u32 1000000000 (xn * yd) hw0 (by kernel_rfl) rfl (fun β w' hm => times_any xa yb xc ye xn yd w' (by omega) (by omega) (hx1.below hm.below) (hy2.below hm.below)) (fun p cp h1 h2 h3 => ?_)) | (refine callNat .u32 1000000000 (xd * yn) hw0 (by kernel_rfl) rfl (fun β w' hm => times_any xb ya xe yc xd yn w' (by omega) (by omega) (hx2.below hm.below) (hy1.below hm.below)) (fun q cq h4 h5 h6 => ?_))) | ((with_reducible show OpX ..); first | fail) | ((with_reducible show ∃ _ : SV, _); first | (refine ⟨_, ?ok, x_neBB xm ym (fun _ => rfl) (fun _ => rfl) Tryz.underlying4, ?_⟩; (case ok => exact fun _ _ => trivial))) | ((with_reducible show ∃ _, _); first | fail))
  all_goals refine ret fun β w' hm => ?_
  all_goals first | exact ⟨⟨_, _, _, p, cp, q, cq⟩, rfl, rfl, ⟨h1, h4, h2, h5⟩, Ls2 (hm.slF 3 rfl) (hm.freshF 3 rfl rfl) (hm.slF 4 rfl) (hm.freshF 4 rfl rfl), hm.below⟩ | exact ⟨⟨_, _, _, p, cp, q, cq⟩, rfl, rfl, ⟨h1, h4, h2, h5⟩, Ls2 (hm.slF 4 rfl) (hm.freshF 4 rfl rfl) (hm.slF 3 rfl) (hm.freshF 3 rfl rfl), hm.below⟩
set_option maxRecDepth 100000 in
set_option maxHeartbeats 4000000 in
theorem div1_zero (x y : FrV) (w : World) (hw0 : 0 < w.heap.size) (hx : FrIn .u32 1000000000 x w) (hy : FrIn .u32 1000000000 y w) (h0 : y.n = 0)
    (hxn : ExP.nd 1000000000 x.n ≤ 1000000) (hxd : ExP.nd 1000000000 x.d ≤ 1000000) (hyn : ExP.nd 1000000000 y.n ≤ 1000000) (hyd : ExP.nd 1000000000 y.d ≤ 1000000) :
    Calls Tryz.prog 171 #[x.val 1000000000, y.val 1000000000] w (FrOutE .u32 1000000000 (⟨false, 0, 0⟩) 1 w) := by
  have S1 := fun (w' : World) (h : Below w.heap.size w w') => sum_any x y w' (Nat.lt_of_lt_of_le hw0 h.size) (hx.below h) (hy.below h) hxn hxd hyn hyd
  have S2 := fun (w' : World) (h : Below w.heap.size w w') => sum_any x ⟨!y.m, y.n, y.d, y.a, y.c, y.b, y.e⟩ w' (Nat.lt_of_lt_of_le hw0 h.size) (hx.below h) ⟨hy.sn.below h, hy.sd.below h, ⟨hy.cap.an, hy.cap.bn, hy.cap.cn, hy.cap.cd⟩⟩ hxn hxd hyn hyd
  obtain ⟨xm, xn, xd, xa, xc, xb, xe⟩ := x
  obtain ⟨ym, yn, yd, ya, yc, yb, ye⟩ := y
  obtain ⟨hx1, hx2, ⟨hx3, hx4, hx5, hx6⟩⟩ := hx
  obtain ⟨hy1, hy2, ⟨hy3, hy4, hy5, hy6⟩⟩ := hy
  dsimp only [FrV.num, FrV.val] at *
  have hz := fun w' => zero_any ya (ExP.nd 1000000000 yn) yc w'
  rw [show decide ((ExP.nd 1000000000 yn : Int) = 0) = true from decide_eq_true (by subst h0; rw [ExP.nd_zero]; rfl)] at hz
  refine enter env_ok Tryz.func171 rfl Tryz.results171 Tryz.ntmps171 [] [200003] [.agg [.bool xm, .any (.slice xa (ExP.nd 1000000000 xn) xc), .any (.slice xb (ExP.nd 1000000000 xd) xe)], .agg [.bool ym, .any (.slice ya (ExP.nd 1000000000 yn) yc), .any (.slice yb (ExP.nd 1000000000 yd) ye)]] ⟨⟨trivial, rfl, rfl, trivial⟩, ⟨trivial, rfl, rfl, trivial⟩, trivial⟩ (Nat.le_of_ble_eq_true rfl) w _ 1000 ?_
  repeat' (first | ((with_reducible first | show wpS .. | show putD .. | show putW .. | show splitG .. | show wpQ .. | show wpD .. | show wpX .. | show expX .. | show stepX .. | show keepR .. | show wpY ..); conv => whnf) | ((with_reducible show RetN ..); refine retB fun β => ?_) | ((with_reducible show _ ∧ _); first | (refine ⟨fun h => absurd h (by first | omega | decide), fun _ => ?_⟩) | (refine ⟨fun _ => ?_, fun h => absurd h (by first | omega | decide)⟩) | (refine ⟨fun _ => ?_, fun _ => ?_⟩) | (apply And.intro; · kernel_rfl) | (apply And.intro; · (show inK _ _; unfold inK; omega)) | (apply And.intro; · (show (_ : Int) ≤ 9223372036854775807; (try simp only [lenS]); omega))) | ((with_reducible show AllBe ..); refine allBe fun βe => ?_; conv => whnf) | ((with_reducible show bothX ..); refine bothI ?_ ?_; conv => whnf) | (with_reducible exact trivial) | ((with_reducible show CallN ..); refine call_of env_ok rfl 1000 ?_) | ((with_reducible show XopN ..); refine xop_of env_ok rfl 1000 ?_) | ((with_reducible show CallX ..); first | (refine callX (.lit true) (by kernel_rfl) rfl trivial (fun β w' hm => hz w') ?_)) | ((with_reducible show OpX ..); first | fail) | ((with_reducible show ∃ _ : SV, _); first | (refine ⟨_, ?ok, x_neBB xm ym (fun _ => rfl) (fun _ => rfl) Tryz.underlying4, ?_⟩; (case ok => exact fun _ _ => trivial))) | ((with_reducible show ∃ _, _); first | fail))
  all_goals refine ret fun β w' hm => ?_
  all_goals exact ⟨⟨false, 0, 0, none, 0, none, 0⟩, by simp [FrV.val, SV.den, SV.dens, ExP.nd_zero], rfl, FrCap0, Ls0, hm.below⟩
end Go.Proofs.YtdkhkfdenlabaaaGreatDoor
