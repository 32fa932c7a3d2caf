/- Fractions of the program: the functions within Add, Sub, Mul and Div. The reference's numbers: trim, Compare, digitAt, Plus, Less. The reference's product, phase by phase. The reference's numbers: halves and products. The reference's numbers: quotients. Numbers read and written: the program's parse, the reference's NatOf and Text. The shelf's contracts: those of the first text. Strings of digits; fractions read: the program's digits, read, both, Check. Fractions of the program: read, both, Check. -/
import Derived.Test.YtdkhkfdenlabaaaGreatDoorVGJ
import Derived.Test.YtdkhkfdenlabaaaGreatDoorVGD
import Derived.Test.YtdkhkfdenlabaaaGreatDoorVGG
import Derived.Lib.AtoiErrMem
import Derived.Shelf.Strings.SlTrimAscii
set_option linter.unusedSimpArgs false
set_option linter.unusedVariables false
namespace Go.Proofs.YtdkhkfdenlabaaaGreatDoor
open Go.RowKit
open Sym
attribute [local irreducible] Calls Sym.AggEq ExP.nd ExP.dig ExP.upd
set_option maxRecDepth 100000 in
set_option maxHeartbeats 4000000 in
theorem div1_any (x y : FrV) (w : World) (hw0 : 0 < w.heap.size) (hx : FrIn .u32 1000000000 x w) (hy : FrIn .u32 1000000000 y w) (h0 : y.n ≠ 0)
    (hxn : ExP.nd 1000000000 x.n ≤ 1000000) (hxd : ExP.nd 1000000000 x.d ≤ 1000000) (hyn : ExP.nd 1000000000 y.n ≤ 1000000) (hyd : ExP.nd 1000000000 y.d ≤ 1000000) :
    Calls Tryz.prog 171 #[x.val 1000000000, y.val 1000000000] w (FrOutE .u32 1000000000 (ExP.mulN x.num (ExP.invN y.num)) 0 w) := by
  have S1 := fun (w' : World) (h : Below w.heap.size w w') => sum_any x y w' (Nat.lt_of_lt_of_le hw0 h.size) (hx.below h) (hy.below h) hxn hxd hyn hyd
  have S2 := fun (w' : World) (h : Below w.heap.size w w') => sum_any x ⟨!y.m, y.n, y.d, y.a, y.c, y.b, y.e⟩ w' (Nat.lt_of_lt_of_le hw0 h.size) (hx.below h) ⟨hy.sn.below h, hy.sd.below h, ⟨hy.cap.an, hy.cap.bn, hy.cap.cn, hy.cap.cd⟩⟩ hxn hxd hyn hyd
  obtain ⟨xm, xn, xd, xa, xc, xb, xe⟩ := x
  obtain ⟨ym, yn, yd, ya, yc, yb, ye⟩ := y
  obtain ⟨hx1, hx2, ⟨hx3, hx4, hx5, hx6⟩⟩ := hx
  obtain ⟨hy1, hy2, ⟨hy3, hy4, hy5, hy6⟩⟩ := hy
  dsimp only [FrV.num, FrV.val] at *
  have hz := fun w' => zero_any ya (ExP.nd 1000000000 yn) yc w'
  rw [show decide ((ExP.nd 1000000000 yn : Int) = 0) = false from decide_eq_false (by have := (ExP.nd_pos (b := 1000000000) (by omega)).2 (Nat.pos_of_ne_zero h0); omega)] at hz
  refine enter env_ok Tryz.func171 rfl Tryz.results171 Tryz.ntmps171 [] [200003] [.agg [.bool xm, .any (.slice xa (ExP.nd 1000000000 xn) xc), .any (.slice xb (ExP.nd 1000000000 xd) xe)], .agg [.bool ym, .any (.slice ya (ExP.nd 1000000000 yn) yc), .any (.slice yb (ExP.nd 1000000000 yd) ye)]] ⟨⟨trivial, rfl, rfl, trivial⟩, ⟨trivial, rfl, rfl, trivial⟩, trivial⟩ (Nat.le_of_ble_eq_true rfl) w _ 1000 ?_
  repeat' (first | ((with_reducible first | show wpS _ _ _ _ | show putD _ _ _ _ | show putW _ _ _ _ | show splitG _ _ _ | show wpQ _ _ _ _ _ _ | show wpD _ _ _ _ _ _ _ | show wpX _ _ _ _ _ _ _ | show expX _ _ _ _ _ _ | show stepX _ _ _ _ | show keepR _ _ _ | show wpY _ _ _ _); conv => whnf) | ((with_reducible show RetN _ _ _); refine retB fun β => ?_) | ((with_reducible show _ ∧ _); first | (apply And.intro; (· intro h; exfalso; first | omega | (revert h; decide)); intro _) | (apply And.intro; rotate_left; (· intro h; exfalso; first | omega | (revert h; decide)); intro _) | (refine ⟨fun _ => ?_, fun _ => ?_⟩) | (apply And.intro; · kernel_rfl) | (apply And.intro; · (show inK _ _; unfold inK; omega)) | (apply And.intro; · (show (_ : Int) ≤ 9223372036854775807; (try simp only [List.length_append, List.length_drop, List.length_take, List.length_cons, List.length_nil]); omega))) | ((with_reducible show AllBe _); refine allBe fun βe => ?_; conv => whnf) | ((with_reducible show bothX _ _); refine bothI ?_ ?_; conv => whnf) | (with_reducible exact trivial) | ((with_reducible show CallN _ _ _ _ _ _ _ _); refine call_of env_ok rfl 1000 ?_) | ((with_reducible show XopN _ _ _ _ _ _); refine xop_of env_ok rfl 1000 ?_) | ((with_reducible show CallX _ _ _ _ _ _); first | (refine callX (.lit false) (by kernel_rfl) rfl trivial (fun β w' hm => hz w') ?_) | (refine callNat .u32 1000000000 (xn * yd) hw0 (by kernel_rfl) rfl (fun β w' hm => times_any xa yb xc ye xn yd w' (by omega) (by omega) (hx1.below hm.below) (hy2.below hm.below)) (fun p cp h1 h2 h3 => ?_)) | (refine callNat .u32 1000000000 (xd * yn) hw0 (by kernel_rfl) rfl (fun β w' hm => times_any xb ya xe yc xd yn w' (by omega) (by omega) (hx2.below hm.below) (hy1.below hm.below)) (fun q cq h4 h5 h6 => ?_))) | ((with_reducible show OpX _ _ _ _); first | fail) | ((with_reducible show ∃ _ : SV, _); first | (refine ⟨_, ?ok, x_neBB xm ym (fun _ => rfl) (fun _ => rfl) Tryz.underlying4, ?_⟩; (case ok => exact fun _ _ => trivial))) | ((with_reducible show ∃ _, _); first | fail))
  all_goals refine ret fun β w' hm => ?_
  all_goals first | exact ⟨⟨_, _, _, p, cp, q, cq⟩, rfl, rfl, ⟨h1, h4, h2, h5⟩, Ls2 (hm.slF 3 rfl) (hm.freshF 3 rfl rfl) (hm.slF 4 rfl) (hm.freshF 4 rfl rfl), hm.below⟩ | exact ⟨⟨_, _, _, p, cp, q, cq⟩, rfl, rfl, ⟨h1, h4, h2, h5⟩, Ls2 (hm.slF 4 rfl) (hm.freshF 4 rfl rfl) (hm.slF 3 rfl) (hm.freshF 3 rfl rfl), hm.below⟩
set_option maxRecDepth 100000 in
set_option maxHeartbeats 4000000 in
theorem div1_zero (x y : FrV) (w : World) (hw0 : 0 < w.heap.size) (hx : FrIn .u32 1000000000 x w) (hy : FrIn .u32 1000000000 y w) (h0 : y.n = 0)
    (hxn : ExP.nd 1000000000 x.n ≤ 1000000) (hxd : ExP.nd 1000000000 x.d ≤ 1000000) (hyn : ExP.nd 1000000000 y.n ≤ 1000000) (hyd : ExP.nd 1000000000 y.d ≤ 1000000) :
    Calls Tryz.prog 171 #[x.val 1000000000, y.val 1000000000] w (FrOutE .u32 1000000000 (⟨false, 0, 0⟩) 1 w) := by
  have S1 := fun (w' : World) (h : Below w.heap.size w w') => sum_any x y w' (Nat.lt_of_lt_of_le hw0 h.size) (hx.below h) (hy.below h) hxn hxd hyn hyd
  have S2 := fun (w' : World) (h : Below w.heap.size w w') => sum_any x ⟨!y.m, y.n, y.d, y.a, y.c, y.b, y.e⟩ w' (Nat.lt_of_lt_of_le hw0 h.size) (hx.below h) ⟨hy.sn.below h, hy.sd.below h, ⟨hy.cap.an, hy.cap.bn, hy.cap.cn, hy.cap.cd⟩⟩ hxn hxd hyn hyd
  obtain ⟨xm, xn, xd, xa, xc, xb, xe⟩ := x
  obtain ⟨ym, yn, yd, ya, yc, yb, ye⟩ := y
  obtain ⟨hx1, hx2, ⟨hx3, hx4, hx5, hx6⟩⟩ := hx
  obtain ⟨hy1, hy2, ⟨hy3, hy4, hy5, hy6⟩⟩ := hy
  dsimp only [FrV.num, FrV.val] at *
  have hz := fun w' => zero_any ya (ExP.nd 1000000000 yn) yc w'
  rw [show decide ((ExP.nd 1000000000 yn : Int) = 0) = true from decide_eq_true (by subst h0; rw [ExP.nd_zero]; rfl)] at hz
  refine enter env_ok Tryz.func171 rfl Tryz.results171 Tryz.ntmps171 [] [200003] [.agg [.bool xm, .any (.slice xa (ExP.nd 1000000000 xn) xc), .any (.slice xb (ExP.nd 1000000000 xd) xe)], .agg [.bool ym, .any (.slice ya (ExP.nd 1000000000 yn) yc), .any (.slice yb (ExP.nd 1000000000 yd) ye)]] ⟨⟨trivial, rfl, rfl, trivial⟩, ⟨trivial, rfl, rfl, trivial⟩, trivial⟩ (Nat.le_of_ble_eq_true rfl) w _ 1000 ?_
  repeat' (first | ((with_reducible first | show wpS _ _ _ _ | show putD _ _ _ _ | show putW _ _ _ _ | show splitG _ _ _ | show wpQ _ _ _ _ _ _ | show wpD _ _ _ _ _ _ _ | show wpX _ _ _ _ _ _ _ | show expX _ _ _ _ _ _ | show stepX _ _ _ _ | show keepR _ _ _ | show wpY _ _ _ _); conv => whnf) | ((with_reducible show RetN _ _ _); refine retB fun β => ?_) | ((with_reducible show _ ∧ _); first | (apply And.intro; (· intro h; exfalso; first | omega | (revert h; decide)); intro _) | (apply And.intro; rotate_left; (· intro h; exfalso; first | omega | (revert h; decide)); intro _) | (refine ⟨fun _ => ?_, fun _ => ?_⟩) | (apply And.intro; · kernel_rfl) | (apply And.intro; · (show inK _ _; unfold inK; omega)) | (apply And.intro; · (show (_ : Int) ≤ 9223372036854775807; (try simp only [List.length_append, List.length_drop, List.length_take, List.length_cons, List.length_nil]); omega))) | ((with_reducible show AllBe _); refine allBe fun βe => ?_; conv => whnf) | ((with_reducible show bothX _ _); refine bothI ?_ ?_; conv => whnf) | (with_reducible exact trivial) | ((with_reducible show CallN _ _ _ _ _ _ _ _); refine call_of env_ok rfl 1000 ?_) | ((with_reducible show XopN _ _ _ _ _ _); refine xop_of env_ok rfl 1000 ?_) | ((with_reducible show CallX _ _ _ _ _ _); first | (refine callX (.lit true) (by kernel_rfl) rfl trivial (fun β w' hm => hz w') ?_)) | ((with_reducible show OpX _ _ _ _); first | fail) | ((with_reducible show ∃ _ : SV, _); first | (refine ⟨_, ?ok, x_neBB xm ym (fun _ => rfl) (fun _ => rfl) Tryz.underlying4, ?_⟩; (case ok => exact fun _ _ => trivial))) | ((with_reducible show ∃ _, _); first | fail))
  all_goals refine ret fun β w' hm => ?_
  all_goals exact ⟨⟨false, 0, 0, none, 0, none, 0⟩, by simp [FrV.val, SV.den, SV.dens, ExP.nd_zero], rfl, FrCap0, Ls0, hm.below⟩
end Go.Proofs.YtdkhkfdenlabaaaGreatDoor
namespace Go.Proofs.YtdkhkfdenlabaaaGreatDoor
open Go.RowKit
open Sym
attribute [local irreducible] Calls Sym.AggEq ExP.nd ExP.dig
end Go.Proofs.YtdkhkfdenlabaaaGreatDoor
namespace Go.Proofs.YtdkhkfdenlabaaaGreatDoor
open Sym
namespace ExP
end ExP
end Go.Proofs.YtdkhkfdenlabaaaGreatDoor
namespace Go.Proofs.YtdkhkfdenlabaaaGreatDoor
open Go.RowKit
open Sym
attribute [local irreducible] Calls Sym.AggEq ExP.nd ExP.dig ExP.upd ExP.mixP
end Go.Proofs.YtdkhkfdenlabaaaGreatDoor
namespace Go.Proofs.YtdkhkfdenlabaaaGreatDoor
open Go.RowKit
open Sym
attribute [local irreducible] Calls Sym.AggEq ExP.nd ExP.dig ExP.upd
structure RvI (x y n : Nat) (t : DvT) : Prop where
  hj : t.j ≤ n
  d : ExP.DivI 10 x y t.j t.V t.r
  hn : t.ra = none → t.rc = 0
  hc : ExP.nd 10 t.r ≤ t.rc
structure RwT where
  t : Nat
  ra : Option Addr
  rc : Nat
end Go.Proofs.YtdkhkfdenlabaaaGreatDoor
namespace Go.Proofs.YtdkhkfdenlabaaaGreatDoor
open Go.RowKit
open Sym
attribute [local irreducible] Calls Sym.AggEq ExP.nd ExP.dig ExP.upd
theorem ExP.decFrom_val : ∀ (s : List UInt8) (n : Nat), s.all ExP.digC = true → Lib.decFrom n s = some (ExP.valF n s)
  | [], _, _ => by rw [ExP.valF_nil]; rfl
  | c :: r, n, h => by
    simp only [List.all_cons, Bool.and_eq_true] at h
    have hc := h.1
    unfold ExP.digC at hc
    simp only [Bool.and_eq_true, decide_eq_true_eq, UInt8.le_iff_toNat_le] at hc
    have hv : Lib.digitVal c = some (c.toNat - 48) := by
      unfold Lib.digitVal; rw [if_pos (by simpa using hc)]
    rw [Lib.decFrom, hv]
    dsimp only
    rw [ExP.decFrom_val r _ h.2, ExP.valF_cons]
theorem ExP.atoi_val (s : List UInt8) (h0 : s ≠ []) (h : s.all ExP.digC = true) : Lib.atoi s = some (ExP.valS s : Int) := by
  cases s with
  | nil => exact absurd rfl h0
  | cons c r =>
    have hc : ExP.digC c = true := by simp only [List.all_cons, Bool.and_eq_true] at h; exact h.1
    have hc := ExP.digC_nat.1 hc
    have h45 : (c == 45) = false := by rw [beq_eq_false_iff_ne]; intro e; rw [e] at hc; simp at hc
    have h43 : (c == 43) = false := by rw [beq_eq_false_iff_ne]; intro e; rw [e] at hc; simp at hc
    have e : Lib.decNat (c :: r) = some (ExP.valS (c :: r)) := by
      unfold Lib.decNat; rw [ExP.decFrom_val _ _ h]; rfl
    simp [Lib.atoi, h45, h43, e]
theorem atoi_any (s : List UInt8) (w : World) (h0 : s ≠ []) (hl : s.length ≤ 18) (h : s.all ExP.digC = true) : Calls Tryz.prog 177 #[.string (bstr s)] w fun e w' => e = .returned (.tuple #[.int .i64 (ExP.valS s : Int), .nilIface]) ∧ Below w.heap.size w w' := by
  refine (Tryz.strconv_Atoi (bstr s) _ (by rw [bstr_size]; exact hl) (ExP.atoi_val s h0 h) w).mono ?_
  rintro e w' ⟨h, t, rfl⟩
  exact ⟨h, Lib.bytesWorld_below _ _ _⟩
abbrev apJ32 (fr : List (Nat × SV)) (d n i : Nat) (g cap : Nat) (xs : List Value) : St := match i with
  | 0 => ⟨(d, .any (.slice none 0 0)) :: fr, [], 0, n⟩
  | i + 1 => ⟨(d, .any (.slice (some ⟨g, 0, none⟩) (i + 1) cap)) :: fr, [(1, true, .blob (OwnS 161 1 g (i + 1) cap xs))], 2, n⟩
theorem all_drop {p : UInt8 → Bool} {s : List UInt8} (h : s.all p = true) (n : Nat) : (s.drop n).all p = true := by
  rw [List.all_eq_true] at h ⊢
  exact fun x hx => h x (List.mem_of_mem_drop hx)
theorem all_take {p : UInt8 → Bool} {s : List UInt8} (h : s.all p = true) (n : Nat) : (s.take n).all p = true := by
  rw [List.all_eq_true] at h ⊢
  exact fun x hx => h x (List.mem_of_mem_take hx)
structure PsT where
  i : Nat
  m : Nat
  g : Nat
  cap : Nat
set_option maxRecDepth 100000 in
set_option maxHeartbeats 2000000 in
theorem parse_any (s : List UInt8) (w : World) (hs : s.length ≤ 1000000) (hd : s.all ExP.digC = true) : Calls Tryz.prog 166 #[.string (bstr s)] w (NatOut .u32 1000000000 (ExP.valS s) w) := by
  obtain ⟨i0, hi, hz0, hz1, hz2⟩ := info_parts u32Info
  have hu := Tryz.underlying137
  have hsz := fun w => Tryz.sizeOf161 w
  have hzv := fun w => Tryz.zeroValue161 w
  have e9 : (1000000000 : Nat) = 10 ^ 9 := by decide
  have hVl : ∀ m i, s.length - m ≤ 9 * i → ExP.valS (s.drop m) < 1000000000 ^ i := fun m i h => by
    have h1 := ExP.val_lt _ (all_drop hd m)
    rw [List.length_drop] at h1
    rw [e9, ← Nat.pow_mul]
    exact Nat.lt_of_lt_of_le h1 (Nat.pow_le_pow_right (by omega) h)
  refine enter env_ok Tryz.func166 rfl Tryz.results166 Tryz.ntmps166 [] [] [.str s] (by simp [SV.oks, SV.ok]) (Nat.le_of_ble_eq_true rfl) w _ 1000 ?_
  repeat' (first | ((with_reducible first | show wpS _ _ _ _ | show putD _ _ _ _ | show putW _ _ _ _ | show splitG _ _ _ | show wpQ _ _ _ _ _ _ | show wpD _ _ _ _ _ _ _ | show wpX _ _ _ _ _ _ _ | show expX _ _ _ _ _ _ | show stepX _ _ _ _ | show keepR _ _ _ | show wpY _ _ _ _); conv => whnf) | ((with_reducible show RetN _ _ _); refine retB fun β => ?_) | ((with_reducible show _ ∧ _); first | (apply And.intro; (· intro h; exfalso; first | omega | (revert h; decide)); intro _) | (apply And.intro; rotate_left; (· intro h; exfalso; first | omega | (revert h; decide)); intro _) | (refine ⟨fun _ => ?_, fun _ => ?_⟩) | (apply And.intro; · kernel_rfl) | (apply And.intro; · (show inK _ _; unfold inK; omega)) | (apply And.intro; · (show (_ : Int) ≤ 9223372036854775807; (try simp only [List.length_append, List.length_drop, List.length_take, List.length_cons, List.length_nil]); omega))) | ((with_reducible show AllBe _); refine allBe fun βe => ?_; conv => whnf) | ((with_reducible show bothX _ _); refine bothI ?_ ?_; conv => whnf) | (with_reducible exact trivial) | ((with_reducible show CallN _ _ _ _ _ _ _ _); refine call_of env_ok rfl 1000 ?_) | ((with_reducible show XopN _ _ _ _ _ _); refine xop_of env_ok rfl 1000 ?_) | ((with_reducible show CallX _ _ _ _ _ _); first | fail) | ((with_reducible show OpX _ _ _ _); first | fail) | ((with_reducible show ∃ _ : SV, _); first | fail) | ((with_reducible show ∃ _, _); first | fail))
  refine loop env_ok rfl (T := {t : PsT // t.m ≤ s.length ∧ s.length - t.m ≤ 9 * t.i ∧ (0 < t.m → s.length - t.m = 9 * t.i) ∧ t.i ≤ s.length}) (fun t => apJ32 [(0, .str (s.take t.1.m))] 3 31 t.1.i t.1.g t.1.cap (valsK .u32 (ExP.dgN 1000000000 t.1.i (ExP.valS (s.drop t.1.m))))) (fun t => t.1.m) ⟨⟨0, s.length, 0, 0⟩, Nat.le_refl _, by dsimp only; omega, fun _ => by dsimp only; omega, Nat.zero_le _⟩ 1000 [] [] (fun t => by exact Nat.zero_le _) (by dsimp only [apJ32]; rw [List.take_of_length_le (Nat.le_refl _)]; ((with_reducible show wk _ _); repeat' (first | exact trivial | exact eqSV_refl _ | (refine eqI ?_) | (refine eqS ?_) | (with_reducible exact rfl) | apply And.intro | exact Nat.zero_lt_one | exact Nat.le_of_ble_eq_true rfl | (with_reducible assumption) | ((show (_ : Int) = _); (try dsimp only); omega) | ((show eqSV _ _); simp [eqSV, isB, bval, *]; done) | rfl))) (fun t I hI => ?_)
  obtain ⟨⟨i, m, g, cap⟩, hm, hl1, hl2, hil⟩ := t
  dsimp only at hm hl1 hl2 hil ⊢
  have hV := hVl m i hl1
  have htl : (s.take m).length = m := by rw [List.length_take]; omega
  by_cases hm0 : 0 < m
  · have hl2 := hl2 hm0
    obtain ⟨q, hq⟩ : ∃ q, q = m - 9 := ⟨_, rfl⟩
    have hck : ((s.take m).drop q).length = m - q := by rw [List.length_drop, htl]
    have hcd : ((s.take m).drop q).all ExP.digC = true := all_drop (all_take hd m) q
    have hcn := ExP.val_lt _ hcd
    have hcb : ExP.valS ((s.take m).drop q) < 1000000000 := by
      rw [hck] at hcn
      exact Nat.lt_of_lt_of_le hcn (by rw [e9]; exact Nat.pow_le_pow_right (by omega) (by omega))
    have hA := fun w => atoi_any ((s.take m).drop q) w (fun e => by rw [e] at hck; simp at hck; omega) (by omega) hcd
    have hVq : ExP.valS (s.drop q) = ExP.valS (s.drop m) + ExP.valS ((s.take m).drop q) * 1000000000 ^ i := by
      have e : s.drop q = (s.take m).drop q ++ s.drop m := by
        have h1 : s = s.take m ++ s.drop m := (List.take_append_drop m s).symm
        conv => lhs; rw [h1]
        rw [List.drop_append_of_le_length (by rw [htl]; omega)]
      rw [e, ExP.val_append, List.length_drop, hl2, e9, ← Nat.pow_mul, Nat.add_comm]
    have hrow := fun (v : Int) (hv : v = ((ExP.valS ((s.take m).drop q) : Nat) : Int)) => ExP.row_snoc (k := .u32) (b := 1000000000) (i := i) (S := ExP.valS (s.drop m)) (by omega) hV hcb hv
    rw [← hVq] at hrow
    have htt : (s.take m).take q = s.take q := by rw [List.take_take, Nat.min_eq_left (by omega)]
    generalize ExP.valS ((s.take m).drop q) = cv at *
    cases i with
    | zero =>
      dsimp only [apJ32]
      repeat' (first | ((with_reducible first | show wpS _ _ _ _ | show putD _ _ _ _ | show putW _ _ _ _ | show splitG _ _ _ | show wpQ _ _ _ _ _ _ | show wpD _ _ _ _ _ _ _ | show wpX _ _ _ _ _ _ _ | show expX _ _ _ _ _ _ | show stepX _ _ _ _ | show keepR _ _ _ | show wpY _ _ _ _); conv => whnf) | ((with_reducible show RetN _ _ _); refine retB fun β => ?_) | ((with_reducible show _ ∧ _); first | (apply And.intro; (· intro h; exfalso; first | omega | (revert h; decide)); intro _) | (apply And.intro; rotate_left; (· intro h; exfalso; first | omega | (revert h; decide)); intro _) | (refine ⟨fun _ => ?_, fun _ => ?_⟩) | (apply And.intro; · kernel_rfl) | (apply And.intro; · (show inK _ _; unfold inK; omega)) | (apply And.intro; · (show (_ : Int) ≤ 9223372036854775807; (try simp only [List.length_append, List.length_drop, List.length_take, List.length_cons, List.length_nil]); omega))) | ((with_reducible show AllBe _); refine allBe fun βe => ?_; conv => whnf) | ((with_reducible show bothX _ _); refine bothI ?_ ?_; conv => whnf) | (with_reducible exact trivial) | ((with_reducible show CallN _ _ _ _ _ _ _ _); refine call_of env_ok rfl 1000 ?_) | ((with_reducible show XopN _ _ _ _ _ _); refine xop_of env_ok rfl 1000 ?_) | ((with_reducible show CallX _ _ _ _ _ _); first | (refine callX (.tup [.int .i64 (cv : Nat), .any .nilIface]) (by kernel_rfl) rfl (⟨trivial, rfl, trivial⟩) (fun β w hm => hA w) ?_)) | ((with_reducible show OpX _ _ _ _); first | (refine opx_build1 (sz := 1) rfl rfl rfl (xs := [.int .u32 (cv : Nat)]) (fun β => rfl) rfl (by omega) (by omega) hu hsz hzv (fun g1 => ?_)) | (refine opx_append0 (sz := 1) 0 rfl hu hi hz0 hz1 rfl (by omega) rfl rfl rfl (by unfold maxLen; omega) (by rw [hz2]; omega) (by simp [Value.oneCell']) (by omega) (fun g2 cap2 => ?_))) | ((with_reducible show ∃ _ : SV, _); first | fail) | ((with_reducible show ∃ _, _); first | (refine ⟨q, by rw [htl]; omega, by rw [htl]; omega, ?_⟩)))
      refine hI _ ⟨⟨0 + 1, q, g2, cap2⟩, by dsimp only; omega, by dsimp only; omega, fun h => by dsimp only at h ⊢; omega, by dsimp only; omega⟩ (by dsimp only; omega) (by dsimp only [apJ32]; rw [← hrow _ rfl, ← htt]; ((with_reducible show wk _ _); repeat' (first | exact trivial | exact eqSV_refl _ | (refine eqI ?_) | (refine eqS ?_) | (with_reducible exact rfl) | apply And.intro | exact Nat.zero_lt_one | exact Nat.le_of_ble_eq_true rfl | (with_reducible assumption) | ((show (_ : Int) = _); (try dsimp only); omega) | ((show eqSV _ _); simp [eqSV, isB, bval, *]; done) | rfl)); all_goals (exact fun b x h => h))
    | succ i =>
      dsimp only [apJ32]
      repeat' (first | ((with_reducible first | show wpS _ _ _ _ | show putD _ _ _ _ | show putW _ _ _ _ | show splitG _ _ _ | show wpQ _ _ _ _ _ _ | show wpD _ _ _ _ _ _ _ | show wpX _ _ _ _ _ _ _ | show expX _ _ _ _ _ _ | show stepX _ _ _ _ | show keepR _ _ _ | show wpY _ _ _ _); conv => whnf) | ((with_reducible show RetN _ _ _); refine retB fun β => ?_) | ((with_reducible show _ ∧ _); first | (apply And.intro; (· intro h; exfalso; first | omega | (revert h; decide)); intro _) | (apply And.intro; rotate_left; (· intro h; exfalso; first | omega | (revert h; decide)); intro _) | (refine ⟨fun _ => ?_, fun _ => ?_⟩) | (apply And.intro; · kernel_rfl) | (apply And.intro; · (show inK _ _; unfold inK; omega)) | (apply And.intro; · (show (_ : Int) ≤ 9223372036854775807; (try simp only [List.length_append, List.length_drop, List.length_take, List.length_cons, List.length_nil]); omega))) | ((with_reducible show AllBe _); refine allBe fun βe => ?_; conv => whnf) | ((with_reducible show bothX _ _); refine bothI ?_ ?_; conv => whnf) | (with_reducible exact trivial) | ((with_reducible show CallN _ _ _ _ _ _ _ _); refine call_of env_ok rfl 1000 ?_) | ((with_reducible show XopN _ _ _ _ _ _); refine xop_of env_ok rfl 1000 ?_) | ((with_reducible show CallX _ _ _ _ _ _); first | (refine callX (.tup [.int .i64 (cv : Nat), .any .nilIface]) (by kernel_rfl) rfl (⟨trivial, rfl, trivial⟩) (fun β w hm => hA w) ?_)) | ((with_reducible show OpX _ _ _ _); first | (refine opx_build1 (sz := 1) rfl rfl rfl (xs := [.int .u32 (cv : Nat)]) (fun β => rfl) rfl (by omega) (by omega) hu hsz hzv (fun g1 => ?_)) | (refine opx_append (sz := 1) 1 2 rfl hu hi hz0 hz1 rfl (by omega) rfl rfl rfl rfl (by unfold maxLen; omega) (by rw [hz2]; omega) (by simp [Value.oneCell']) (by kernel_rfl) (Nat.zero_le _) (fun g2 cap2 => ?_))) | ((with_reducible show ∃ _ : SV, _); first | fail) | ((with_reducible show ∃ _, _); first | (refine ⟨q, by rw [htl]; omega, by rw [htl]; omega, ?_⟩)))
      refine hI _ ⟨⟨i + 1 + 1, q, g2, cap2⟩, by dsimp only; omega, by dsimp only; omega, fun h => by dsimp only at h ⊢; omega, by dsimp only; omega⟩ (by dsimp only; omega) (by dsimp only [apJ32]; rw [← hrow _ rfl, ← htt]; ((with_reducible show wk _ _); repeat' (first | exact trivial | exact eqSV_refl _ | (refine eqI ?_) | (refine eqS ?_) | (with_reducible exact rfl) | apply And.intro | exact Nat.zero_lt_one | exact Nat.le_of_ble_eq_true rfl | (with_reducible assumption) | ((show (_ : Int) = _); (try dsimp only); omega) | ((show eqSV _ _); simp [eqSV, isB, bval, *]; done) | rfl)); all_goals (exact fun b x h => h))
  · obtain rfl : m = 0 := by omega
    simp only [List.drop_zero] at hV ⊢
    have hle := ExP.nd_le (b := 1000000000) (by omega) hV
    have hTR := fun a (cap : Nat) (w' : World) hc hs' => trim_any a i cap (ExP.valS s) w' hV hc (by omega) hs'
    cases i with
    | zero =>
      dsimp only [apJ32]
      have h0 : ExP.nd 1000000000 (ExP.valS s) = 0 := by omega
      have e : nv .u32 1000000000 (ExP.valS s) = [] := List.length_eq_zero_iff.1 (by rw [nv_len, h0])
      have hT := fun w' => hTR none 0 w' (Nat.le_refl _) (sl_nil _ _)
      rw [h0] at hT
      repeat' (first | ((with_reducible first | show wpS _ _ _ _ | show putD _ _ _ _ | show putW _ _ _ _ | show splitG _ _ _ | show wpQ _ _ _ _ _ _ | show wpD _ _ _ _ _ _ _ | show wpX _ _ _ _ _ _ _ | show expX _ _ _ _ _ _ | show stepX _ _ _ _ | show keepR _ _ _ | show wpY _ _ _ _); conv => whnf) | ((with_reducible show RetN _ _ _); refine retB fun β => ?_) | ((with_reducible show _ ∧ _); first | (apply And.intro; (· intro h; exfalso; first | omega | (revert h; decide)); intro _) | (apply And.intro; rotate_left; (· intro h; exfalso; first | omega | (revert h; decide)); intro _) | (refine ⟨fun _ => ?_, fun _ => ?_⟩) | (apply And.intro; · kernel_rfl) | (apply And.intro; · (show inK _ _; unfold inK; omega)) | (apply And.intro; · (show (_ : Int) ≤ 9223372036854775807; (try simp only [List.length_append, List.length_drop, List.length_take, List.length_cons, List.length_nil]); omega))) | ((with_reducible show AllBe _); refine allBe fun βe => ?_; conv => whnf) | ((with_reducible show bothX _ _); refine bothI ?_ ?_; conv => whnf) | (with_reducible exact trivial) | ((with_reducible show CallN _ _ _ _ _ _ _ _); refine call_of env_ok rfl 1000 ?_) | ((with_reducible show XopN _ _ _ _ _ _); refine xop_of env_ok rfl 1000 ?_) | ((with_reducible show CallX _ _ _ _ _ _); first | (refine callX (.any (.slice none 0 0)) (by kernel_rfl) rfl (rfl) (fun β w hm => hT w) ?_)) | ((with_reducible show OpX _ _ _ _); first | fail) | ((with_reducible show ∃ _ : SV, _); first | fail) | ((with_reducible show ∃ _, _); first | fail))
      refine ret fun β w' hm => ?_
      exact ⟨none, 0, by rw [h0]; rfl, by rw [e]; exact sl_nil _ _, fun h => absurd e h, fun _ => rfl, by rw [h0]; exact Nat.le_refl _, hm.below⟩
    | succ i =>
      dsimp only [apJ32]
      repeat' (first | ((with_reducible first | show wpS _ _ _ _ | show putD _ _ _ _ | show putW _ _ _ _ | show splitG _ _ _ | show wpQ _ _ _ _ _ _ | show wpD _ _ _ _ _ _ _ | show wpX _ _ _ _ _ _ _ | show expX _ _ _ _ _ _ | show stepX _ _ _ _ | show keepR _ _ _ | show wpY _ _ _ _); conv => whnf) | ((with_reducible show RetN _ _ _); refine retB fun β => ?_) | ((with_reducible show _ ∧ _); first | (apply And.intro; (· intro h; exfalso; first | omega | (revert h; decide)); intro _) | (apply And.intro; rotate_left; (· intro h; exfalso; first | omega | (revert h; decide)); intro _) | (refine ⟨fun _ => ?_, fun _ => ?_⟩) | (apply And.intro; · kernel_rfl) | (apply And.intro; · (show inK _ _; unfold inK; omega)) | (apply And.intro; · (show (_ : Int) ≤ 9223372036854775807; (try simp only [List.length_append, List.length_drop, List.length_take, List.length_cons, List.length_nil]); omega))) | ((with_reducible show AllBe _); refine allBe fun βe => ?_; conv => whnf) | ((with_reducible show bothX _ _); refine bothI ?_ ?_; conv => whnf) | (with_reducible exact trivial) | ((with_reducible show CallN _ _ _ _ _ _ _ _); refine call_of env_ok rfl 1000 ?_) | ((with_reducible show XopN _ _ _ _ _ _); refine xop_of env_ok rfl 1000 ?_) | ((with_reducible show CallX _ _ _ _ _ _); first | (refine callX (.any (.slice (some ⟨g, 0, none⟩) (ExP.nd 1000000000 (ExP.valS s)) cap)) (by kernel_rfl) rfl (rfl) (fun β w hm => hTR (some ⟨g, 0, none⟩) cap w (Mem.own hm 1 rfl).2.2 (Mem.own hm 1 rfl).1) ?_)) | ((with_reducible show OpX _ _ _ _); first | fail) | ((with_reducible show ∃ _ : SV, _); first | fail) | ((with_reducible show ∃ _, _); first | fail))
      refine ret fun β w' hm => ?_
      obtain ⟨q1, q2, q3⟩ := Mem.own hm 1 rfl
      exact ⟨_, cap, rfl, sl_pre q1 (dgN_pre hle .u32), fresh_own q2 rfl, (fun h => by cases h), Nat.le_trans hle q3, hm.below⟩
end Go.Proofs.YtdkhkfdenlabaaaGreatDoor
namespace Go.Proofs
end Go.Proofs
namespace Go.Proofs.YtdkhkfdenlabaaaGreatDoor
open Go.RowKit
open Sym
attribute [local irreducible] Calls Sym.AggEq ExP.nd ExP.dig ExP.upd
theorem dropWhile_nil {p : UInt8 → Bool} : ∀ l : List UInt8, l.dropWhile p = [] ↔ l.all p = true
  | [] => by simp
  | c :: r => by
    by_cases h : p c = true
    · rw [List.dropWhile_cons_of_pos h, dropWhile_nil r, List.all_cons, h, Bool.true_and]
    · rw [List.dropWhile_cons_of_neg h]; simp [h]
def decS : List UInt8 := [48, 49, 50, 51, 52, 53, 54, 55, 56, 57]
set_option maxRecDepth 100000 in
theorem dec_contains (c : UInt8) : decS.contains c = ExP.digC c := by
  have key : ∀ k : Fin 256, decS.contains (UInt8.ofNat k.val) = ExP.digC (UInt8.ofNat k.val) := by decide
  have hc : UInt8.ofNat c.toNat = c := by simp
  have := key ⟨c.toNat, c.toNat_lt⟩
  dsimp only at this
  rw [hc] at this
  exact this
theorem dropWhile_all {p : UInt8 → Bool} : ∀ l : List UInt8, (l.dropWhile p).all p = l.all p
  | [] => rfl
  | c :: r => by
    by_cases h : p c = true
    · rw [List.dropWhile_cons_of_pos h, dropWhile_all r, List.all_cons, h, Bool.true_and]
    · rw [List.dropWhile_cons_of_neg h]
theorem trim_nil (s : List UInt8) : Lib.trimS s decS = [] ↔ s.all ExP.digC = true := by
  have hp : (fun c => decS.contains c) = ExP.digC := funext dec_contains
  unfold Lib.trimS Lib.trimRightS Lib.trimLeftS
  rw [hp, dropWhile_nil, List.all_reverse, dropWhile_all, List.all_reverse]
theorem trim_any' (s : List UInt8) (w : World) (hs : s.length ≤ 9223372036854775807) : Calls Tryz.prog 84 #[.string (bstr s), .string (bstr decS)] w fun e w' => e = .returned (.string (bstr (Lib.trimS s decS))) ∧ Below w.heap.size w w' := by
  have := Any.strings_Trim_laid Tryz.lays160 (by kernel_rfl) (bstr s) (bstr decS) w (by rw [bstr_size]; exact hs) (by decide) (ascii_of_all (by decide))
  exact this
set_option maxRecDepth 100000 in
theorem digits_any (s : List UInt8) (w : World) (hs : s.length ≤ 9223372036854775807) : Calls Tryz.prog 185 #[.string (bstr s)] w fun e w' => e = .returned (.bool (ExP.digitsP s)) ∧ Below w.heap.size w w' := by
  have HT := fun w => trim_any' s w hs
  have ht := trim_nil s
  unfold ExP.digitsP
  generalize Lib.trimS s decS = u at *
  refine enter env_ok Tryz.func185 rfl Tryz.results185 Tryz.ntmps185 [] [] [.str s] (by simp [SV.oks, SV.ok]) (Nat.le_of_ble_eq_true rfl) w _ 1000 ?_
  cases s with
  | nil =>
    repeat' (first | ((with_reducible first | show wpS _ _ _ _ | show putD _ _ _ _ | show putW _ _ _ _ | show splitG _ _ _ | show wpQ _ _ _ _ _ _ | show wpD _ _ _ _ _ _ _ | show wpX _ _ _ _ _ _ _ | show expX _ _ _ _ _ _ | show stepX _ _ _ _ | show keepR _ _ _ | show wpY _ _ _ _); conv => whnf) | ((with_reducible show RetN _ _ _); refine retB fun β => ?_) | ((with_reducible show _ ∧ _); first | (apply And.intro; (· intro h; exfalso; first | omega | (revert h; decide)); intro _) | (apply And.intro; rotate_left; (· intro h; exfalso; first | omega | (revert h; decide)); intro _) | (refine ⟨fun _ => ?_, fun _ => ?_⟩) | (apply And.intro; · kernel_rfl) | (apply And.intro; · (show inK _ _; unfold inK; omega)) | (apply And.intro; · (show (_ : Int) ≤ 9223372036854775807; (try simp only [List.length_append, List.length_drop, List.length_take, List.length_cons, List.length_nil]); omega))) | ((with_reducible show AllBe _); refine allBe fun βe => ?_; conv => whnf) | ((with_reducible show bothX _ _); refine bothI ?_ ?_; conv => whnf) | (with_reducible exact trivial) | ((with_reducible show CallN _ _ _ _ _ _ _ _); refine call_of env_ok rfl 1000 ?_) | ((with_reducible show XopN _ _ _ _ _ _); refine xop_of env_ok rfl 1000 ?_) | ((with_reducible show CallX _ _ _ _ _ _); first | fail) | ((with_reducible show OpX _ _ _ _); first | fail) | ((with_reducible show ∃ _ : SV, _); first | fail) | ((with_reducible show ∃ _, _); first | fail))
    all_goals rfl
  | cons c r =>
    have e0 : (c :: r).getD 0 0 = c := rfl
    by_cases h48 : c = 48
    · subst h48
      have e1 : (((48 : UInt8) :: r).getD 0 0).toNat = 48 := rfl
      by_cases hr : 1 < ((48 : UInt8) :: r).length
      · repeat' (first | ((with_reducible first | show wpS _ _ _ _ | show putD _ _ _ _ | show putW _ _ _ _ | show splitG _ _ _ | show wpQ _ _ _ _ _ _ | show wpD _ _ _ _ _ _ _ | show wpX _ _ _ _ _ _ _ | show expX _ _ _ _ _ _ | show stepX _ _ _ _ | show keepR _ _ _ | show wpY _ _ _ _); conv => whnf) | ((with_reducible show RetN _ _ _); refine retB fun β => ?_) | ((with_reducible show _ ∧ _); first | (apply And.intro; (· intro h; exfalso; first | omega | (revert h; decide)); intro _) | (apply And.intro; rotate_left; (· intro h; exfalso; first | omega | (revert h; decide)); intro _) | (refine ⟨fun _ => ?_, fun _ => ?_⟩) | (apply And.intro; · kernel_rfl) | (apply And.intro; · (show inK _ _; unfold inK; omega)) | (apply And.intro; · (show (_ : Int) ≤ 9223372036854775807; (try simp only [List.length_append, List.length_drop, List.length_take, List.length_cons, List.length_nil]); omega))) | ((with_reducible show AllBe _); refine allBe fun βe => ?_; conv => whnf) | ((with_reducible show bothX _ _); refine bothI ?_ ?_; conv => whnf) | (with_reducible exact trivial) | ((with_reducible show CallN _ _ _ _ _ _ _ _); refine call_of env_ok rfl 1000 ?_) | ((with_reducible show XopN _ _ _ _ _ _); refine xop_of env_ok rfl 1000 ?_) | ((with_reducible show CallX _ _ _ _ _ _); first | fail) | ((with_reducible show OpX _ _ _ _); first | fail) | ((with_reducible show ∃ _ : SV, _); first | fail) | ((with_reducible show ∃ _, _); first | (refine ⟨0, rfl, by simp, ?_⟩)))
        all_goals first | (exfalso; omega) | (exfalso; simp_all; done) | skip
        all_goals (simp only [SV.den]; congr 1; simp only [List.isEmpty_cons, e0]; rw [decide_eq_false (by omega)]; rfl)
      · repeat' (first | ((with_reducible first | show wpS _ _ _ _ | show putD _ _ _ _ | show putW _ _ _ _ | show splitG _ _ _ | show wpQ _ _ _ _ _ _ | show wpD _ _ _ _ _ _ _ | show wpX _ _ _ _ _ _ _ | show expX _ _ _ _ _ _ | show stepX _ _ _ _ | show keepR _ _ _ | show wpY _ _ _ _); conv => whnf) | ((with_reducible show RetN _ _ _); refine retB fun β => ?_) | ((with_reducible show _ ∧ _); first | (apply And.intro; (· intro h; exfalso; first | omega | (revert h; decide)); intro _) | (apply And.intro; rotate_left; (· intro h; exfalso; first | omega | (revert h; decide)); intro _) | (refine ⟨fun _ => ?_, fun _ => ?_⟩) | (apply And.intro; · kernel_rfl) | (apply And.intro; · (show inK _ _; unfold inK; omega)) | (apply And.intro; · (show (_ : Int) ≤ 9223372036854775807; (try simp only [List.length_append, List.length_drop, List.length_take, List.length_cons, List.length_nil]); omega))) | ((with_reducible show AllBe _); refine allBe fun βe => ?_; conv => whnf) | ((with_reducible show bothX _ _); refine bothI ?_ ?_; conv => whnf) | (with_reducible exact trivial) | ((with_reducible show CallN _ _ _ _ _ _ _ _); refine call_of env_ok rfl 1000 ?_) | ((with_reducible show XopN _ _ _ _ _ _); refine xop_of env_ok rfl 1000 ?_) | ((with_reducible show CallX _ _ _ _ _ _); first | (refine callX (.str u) (by kernel_rfl) rfl (trivial) (fun β w hm => HT w) ?_)) | ((with_reducible show OpX _ _ _ _); first | fail) | ((with_reducible show ∃ _ : SV, _); first | fail) | ((with_reducible show ∃ _, _); first | (refine ⟨0, rfl, by simp, ?_⟩)))
        all_goals first | (exfalso; omega) | (exfalso; simp_all; done) | skip
        all_goals (simp only [SV.den]; congr 1; simp only [List.isEmpty_cons, e0]; rw [show decide (((48 : UInt8) :: r).length ≤ 1) = true from decide_eq_true (by omega), Bool.eq_iff_iff]; simpa using ht)
    · have hn : ¬ c.toNat = 48 := fun e => h48 (UInt8.toNat_inj.1 e)
      have e1 : ((c :: r).getD 0 0).toNat = c.toNat := rfl
      repeat' (first | ((with_reducible first | show wpS _ _ _ _ | show putD _ _ _ _ | show putW _ _ _ _ | show splitG _ _ _ | show wpQ _ _ _ _ _ _ | show wpD _ _ _ _ _ _ _ | show wpX _ _ _ _ _ _ _ | show expX _ _ _ _ _ _ | show stepX _ _ _ _ | show keepR _ _ _ | show wpY _ _ _ _); conv => whnf) | ((with_reducible show RetN _ _ _); refine retB fun β => ?_) | ((with_reducible show _ ∧ _); first | (apply And.intro; (· intro h; exfalso; first | omega | (revert h; decide)); intro _) | (apply And.intro; rotate_left; (· intro h; exfalso; first | omega | (revert h; decide)); intro _) | (refine ⟨fun _ => ?_, fun _ => ?_⟩) | (apply And.intro; · kernel_rfl) | (apply And.intro; · (show inK _ _; unfold inK; omega)) | (apply And.intro; · (show (_ : Int) ≤ 9223372036854775807; (try simp only [List.length_append, List.length_drop, List.length_take, List.length_cons, List.length_nil]); omega))) | ((with_reducible show AllBe _); refine allBe fun βe => ?_; conv => whnf) | ((with_reducible show bothX _ _); refine bothI ?_ ?_; conv => whnf) | (with_reducible exact trivial) | ((with_reducible show CallN _ _ _ _ _ _ _ _); refine call_of env_ok rfl 1000 ?_) | ((with_reducible show XopN _ _ _ _ _ _); refine xop_of env_ok rfl 1000 ?_) | ((with_reducible show CallX _ _ _ _ _ _); first | (refine callX (.str u) (by kernel_rfl) rfl (trivial) (fun β w hm => HT w) ?_)) | ((with_reducible show OpX _ _ _ _); first | fail) | ((with_reducible show ∃ _ : SV, _); first | fail) | ((with_reducible show ∃ _, _); first | (refine ⟨0, rfl, by simp, ?_⟩)))
      all_goals first | (exfalso; omega) | (exfalso; simp_all; done) | skip
      all_goals (simp only [SV.den]; congr 1; simp only [List.isEmpty_cons, e0]; rw [bne_iff_ne.2 h48, Bool.eq_iff_iff]; simpa using ht)
end Go.Proofs.YtdkhkfdenlabaaaGreatDoor
namespace Go.Proofs.YtdkhkfdenlabaaaGreatDoor
open Go.RowKit
open Sym
attribute [local irreducible] Calls Sym.AggEq ExP.nd ExP.dig ExP.upd
theorem cutM_prefix (s : List UInt8) : Lib.trimPrefix s [45] = (ExP.cutM s).1 ∧ Lib.hasPrefix s [45] = (ExP.cutM s).2 := by
  cases s with
  | nil => exact ⟨rfl, rfl⟩
  | cons c r =>
    by_cases h : c = 45
    · subst h; simp [Lib.trimPrefix, Lib.hasPrefix, ExP.cutM]
    · have h' : ¬ 45 = c := fun e => h e.symm
      simp [Lib.trimPrefix, Lib.hasPrefix, ExP.cutM, h, List.isPrefixOf, beq_eq_false_iff_ne.2 h']
theorem cutM_any (s : List UInt8) (w : World) : Calls Tryz.prog 54 #[.string (bstr s), .string (bstr [45])] w fun e w' => e = .returned (.tuple #[.string (bstr (ExP.cutM s).1), .bool (ExP.cutM s).2]) ∧ Below w.heap.size w w' := by
  refine (Tryz.strings_CutPrefix (bstr s) (bstr [45]) w).mono ?_
  rintro e w' ⟨h, rfl⟩
  refine ⟨?_, Below.refl _ _⟩
  rw [h, show (bstr s).data.toList = s from rfl, show (bstr [45]).data.toList = [45] from rfl, (cutM_prefix s).1, (cutM_prefix s).2]; rfl
theorem cutM_len (s : List UInt8) : (ExP.cutM s).1.length ≤ s.length := by
  unfold ExP.cutM; split <;> simp
/-- what read answers -/
def ExP.readV (f : ExP.Fr) : ExP.Num := if ExP.readE f = 0 then ExP.readN f else ⟨false, 0, 0⟩
theorem ExP.readV_bad {f : ExP.Fr} {e : Int} (h : ExP.readE f = e) (he : e ≠ 0) : ExP.readV f = ⟨false, 0, 0⟩ := if_neg (by rw [h]; exact he)
/-- the number of limbs of a string of digits -/
theorem ExP.nd_val {b : Nat} {s : List UInt8} (hb : 10 ≤ b) (h : s.all ExP.digC = true) : ExP.nd b (ExP.valS s) ≤ s.length :=
  ExP.nd_le (by omega) (Nat.lt_of_lt_of_le (ExP.val_lt s h) (Nat.pow_le_pow_left hb _))
theorem FrOutE0 {k : IntKind} {b : Nat} {x : ExP.Num} {err : Int} {w w' : World} (hx : x = ⟨false, 0, 0⟩) (hb : Below w.heap.size w w') : FrOutE k b x err w (.returned (.tuple #[.agg #[.bool false, .slice none 0 0, .slice none 0 0], .int .i64 err])) w' := by
  subst hx
  exact ⟨⟨false, 0, 0, none, 0, none, 0⟩, by simp [FrV.val, ExP.nd_zero], rfl, FrCap0, Ls0, hb⟩
set_option maxRecDepth 100000 in
set_option maxHeartbeats 4000000 in
theorem read_any (f : ExP.Fr) (w : World) (hw0 : 0 < w.heap.size) (h1 : f.1.length ≤ 9223372036854775807) (h2 : f.2.length ≤ 9223372036854775807) :
    Calls Tryz.prog 135 #[.agg #[.string (bstr f.1), .string (bstr f.2)]] w (FrOutE .u32 1000000000 (ExP.readV f) (ExP.readE f) w) := by
  obtain ⟨f1, f2⟩ := f
  dsimp only at *
  have hE : ExP.readE (f1, f2) = if ExP.digitsP (ExP.cutM f1).1 = false ∨ ExP.digitsP f2 = false ∨ f2 = [48] ∨ ((ExP.cutM f1).1 = [48] ∧ (ExP.cutM f1).2 = true) then 4
    else if 300 < (ExP.cutM f1).1.length ∨ 300 < f2.length then 3
    else if Nat.gcd (ExP.valS (ExP.cutM f1).1) (ExP.valS f2) ≠ 1 then 4 else 0 := rfl
  have hV : ExP.readE (f1, f2) = 0 → ExP.readV (f1, f2) = ⟨(ExP.cutM f1).2, ExP.valS (ExP.cutM f1).1, ExP.valS f2⟩ := fun h => if_pos h
  have hB := fun e => ExP.readV_bad (f := (f1, f2)) (e := e)
  have hC := fun w => cutM_any f1 w
  have hL := cutM_len f1
  generalize ExP.readV (f1, f2) = V at *
  generalize ExP.readE (f1, f2) = E at *
  generalize (ExP.cutM f1).1 = s at *
  generalize (ExP.cutM f1).2 = m at *
  have hD1 := fun w => digits_any s w (by omega)
  have hD2 := fun w => digits_any f2 w (by omega)
  have hs1 := fun h => ExP.digits_ne (s := s) h
  have hs2 := fun h => ExP.digits_ne (s := f2) h
  have hp2 := fun h => ExP.val_pos (s := f2) h
  generalize ExP.digitsP s = d1 at *
  generalize ExP.digitsP f2 = d2 at *
  refine enter env_ok Tryz.func135 rfl Tryz.results135 Tryz.ntmps135 [] [200006] [.agg [.str f1, .str f2]] (by simp [SV.oks, SV.ok]) (Nat.le_of_ble_eq_true rfl) w _ 1000 ?_
  by_cases hbad : d1 = false ∨ d2 = false ∨ f2 = [48] ∨ (s = [48] ∧ m = true)
  · rw [if_pos hbad] at hE
    have hV0 := hB 4 hE (by decide)
    repeat' (first | ((with_reducible first | show wpS _ _ _ _ | show putD _ _ _ _ | show putW _ _ _ _ | show splitG _ _ _ | show wpQ _ _ _ _ _ _ | show wpD _ _ _ _ _ _ _ | show wpX _ _ _ _ _ _ _ | show expX _ _ _ _ _ _ | show stepX _ _ _ _ | show keepR _ _ _ | show wpY _ _ _ _); conv => whnf) | ((with_reducible show RetN _ _ _); refine retB fun β => ?_) | ((with_reducible show _ ∧ _); first | (apply And.intro; (· intro h; exfalso; first | omega | (revert h; decide)); intro _) | (apply And.intro; rotate_left; (· intro h; exfalso; first | omega | (revert h; decide)); intro _) | (refine ⟨fun _ => ?_, fun _ => ?_⟩) | (apply And.intro; · kernel_rfl) | (apply And.intro; · (show inK _ _; unfold inK; omega)) | (apply And.intro; · (show (_ : Int) ≤ 9223372036854775807; (try simp only [List.length_append, List.length_drop, List.length_take, List.length_cons, List.length_nil]); omega))) | ((with_reducible show AllBe _); refine allBe fun βe => ?_; conv => whnf) | ((with_reducible show bothX _ _); refine bothI ?_ ?_; conv => whnf) | (with_reducible exact trivial) | ((with_reducible show CallN _ _ _ _ _ _ _ _); refine call_of env_ok rfl 1000 ?_) | ((with_reducible show XopN _ _ _ _ _ _); refine xop_of env_ok rfl 1000 ?_) | ((with_reducible show CallX _ _ _ _ _ _); first | (refine callX (.tup [.str s, .bool m]) (by kernel_rfl) rfl (⟨trivial, trivial, trivial⟩) (fun β w hm => hC w) ?_) | (refine callX (.bool d1) (by kernel_rfl) rfl (trivial) (fun β w hm => hD1 w) ?_) | (refine callX (.bool d2) (by kernel_rfl) rfl (trivial) (fun β w hm => hD2 w) ?_)) | ((with_reducible show OpX _ _ _ _); first | fail) | ((with_reducible show ∃ _ : SV, _); first | fail) | ((with_reducible show ∃ _, _); first | fail))
    all_goals first | (exfalso; simp_all; done) | skip
    all_goals refine ret fun β w' hm => ?_
    all_goals (rw [hE]; exact FrOutE0 hV0 hm.below)
  · rw [if_neg hbad] at hE
    simp only [not_or, Bool.not_eq_false] at hbad
    obtain ⟨rfl, rfl, hz, hm0⟩ := hbad
    obtain ⟨-, ha1⟩ := hs1 rfl
    obtain ⟨-, ha2⟩ := hs2 rfl
    by_cases hlen : 300 < s.length ∨ 300 < f2.length
    · rw [if_pos hlen] at hE
      have hV0 := hB 3 hE (by decide)
      repeat' (first | ((with_reducible first | show wpS _ _ _ _ | show putD _ _ _ _ | show putW _ _ _ _ | show splitG _ _ _ | show wpQ _ _ _ _ _ _ | show wpD _ _ _ _ _ _ _ | show wpX _ _ _ _ _ _ _ | show expX _ _ _ _ _ _ | show stepX _ _ _ _ | show keepR _ _ _ | show wpY _ _ _ _); conv => whnf) | ((with_reducible show RetN _ _ _); refine retB fun β => ?_) | ((with_reducible show _ ∧ _); first | (apply And.intro; (· intro h; exfalso; first | omega | (revert h; decide)); intro _) | (apply And.intro; rotate_left; (· intro h; exfalso; first | omega | (revert h; decide)); intro _) | (refine ⟨fun _ => ?_, fun _ => ?_⟩) | (apply And.intro; · kernel_rfl) | (apply And.intro; · (show inK _ _; unfold inK; omega)) | (apply And.intro; · (show (_ : Int) ≤ 9223372036854775807; (try simp only [List.length_append, List.length_drop, List.length_take, List.length_cons, List.length_nil]); omega))) | ((with_reducible show AllBe _); refine allBe fun βe => ?_; conv => whnf) | ((with_reducible show bothX _ _); refine bothI ?_ ?_; conv => whnf) | (with_reducible exact trivial) | ((with_reducible show CallN _ _ _ _ _ _ _ _); refine call_of env_ok rfl 1000 ?_) | ((with_reducible show XopN _ _ _ _ _ _); refine xop_of env_ok rfl 1000 ?_) | ((with_reducible show CallX _ _ _ _ _ _); first | (refine callX (.tup [.str s, .bool m]) (by kernel_rfl) rfl (⟨trivial, trivial, trivial⟩) (fun β w hm => hC w) ?_) | (refine callX (.lit true) (by kernel_rfl) rfl (trivial) (fun β w hm => hD1 w) ?_) | (refine callX (.lit true) (by kernel_rfl) rfl (trivial) (fun β w hm => hD2 w) ?_)) | ((with_reducible show OpX _ _ _ _); first | fail) | ((with_reducible show ∃ _ : SV, _); first | fail) | ((with_reducible show ∃ _, _); first | fail))
      all_goals first | (exfalso; simp_all; done) | (exfalso; omega) | skip
      all_goals refine ret fun β w' hm => ?_
      all_goals (rw [hE]; exact FrOutE0 hV0 hm.below)
    · rw [if_neg hlen] at hE
      have hP1 := fun w => parse_any s w (by omega) ha1
      have hP2 := fun w => parse_any f2 w (by omega) ha2
      have hn1 := ExP.nd_val (b := 1000000000) (by omega) ha1
      have hn2 := ExP.nd_val (b := 1000000000) (by omega) ha2
      have hv2 := hp2 rfl hz
      generalize ExP.valS s = x at *
      generalize ExP.valS f2 = y at *
      have hgn := ExP.nd_mono (b := 1000000000) (by omega) (Nat.gcd_le_right x hv2)
      repeat' (first | ((with_reducible first | show wpS _ _ _ _ | show putD _ _ _ _ | show putW _ _ _ _ | show splitG _ _ _ | show wpQ _ _ _ _ _ _ | show wpD _ _ _ _ _ _ _ | show wpX _ _ _ _ _ _ _ | show expX _ _ _ _ _ _ | show stepX _ _ _ _ | show keepR _ _ _ | show wpY _ _ _ _); conv => whnf) | ((with_reducible show RetN _ _ _); refine retB fun β => ?_) | ((with_reducible show _ ∧ _); first | (apply And.intro; (· intro h; exfalso; first | omega | (revert h; decide)); intro _) | (apply And.intro; rotate_left; (· intro h; exfalso; first | omega | (revert h; decide)); intro _) | (refine ⟨fun _ => ?_, fun _ => ?_⟩) | (apply And.intro; · kernel_rfl) | (apply And.intro; · (show inK _ _; unfold inK; omega)) | (apply And.intro; · (show (_ : Int) ≤ 9223372036854775807; (try simp only [List.length_append, List.length_drop, List.length_take, List.length_cons, List.length_nil]); omega))) | ((with_reducible show AllBe _); refine allBe fun βe => ?_; conv => whnf) | ((with_reducible show bothX _ _); refine bothI ?_ ?_; conv => whnf) | (with_reducible exact trivial) | ((with_reducible show CallN _ _ _ _ _ _ _ _); refine call_of env_ok rfl 1000 ?_) | ((with_reducible show XopN _ _ _ _ _ _); refine xop_of env_ok rfl 1000 ?_) | ((with_reducible show CallX _ _ _ _ _ _); first | (refine callX (.tup [.str s, .bool m]) (by kernel_rfl) rfl (⟨trivial, trivial, trivial⟩) (fun β w hm => hC w) ?_) | (refine callX (.lit true) (by kernel_rfl) rfl (trivial) (fun β w hm => hD1 w) ?_) | (refine callX (.lit true) (by kernel_rfl) rfl (trivial) (fun β w hm => hD2 w) ?_) | (refine callNat .u32 1000000000 x hw0 (by kernel_rfl) rfl (fun β w' hm => hP1 w') (fun a1 c1 q1 q2 q3 => ?_)) | (refine callNat .u32 1000000000 y hw0 (by kernel_rfl) rfl (fun β w' hm => hP2 w') (fun a2 c2 q4 q5 q6 => ?_)) | (refine callNatL (Lz x a1 (Lz y a2 [])) .u32 1000000000 (Nat.gcd x y) hw0 (by kernel_rfl) rfl (by repeat (first | exact apart_nil | refine apart_row 1 (Nat.le_of_ble_eq_true rfl) rfl ?_ | refine apart_row 2 (Nat.le_of_ble_eq_true rfl) rfl ?_ | refine apart_row 3 (Nat.le_of_ble_eq_true rfl) rfl ?_ | refine apart_row 4 (Nat.le_of_ble_eq_true rfl) rfl ?_ | refine apart_row 5 (Nat.le_of_ble_eq_true rfl) rfl ?_)) (fun β w' hm => common_any _ a1 a2 c1 c2 x y w' (Nat.lt_of_lt_of_le hw0 hm.base_le) (by omega) (by omega) q1 q2 q4 q5 Lz_in (fun h => Lz_mem (Lz_in h)) (by first | exact hm.slF 1 rfl | exact hm.slF 2 rfl | exact hm.slF 3 rfl | exact hm.slF 4 rfl | exact hm.slF 5 rfl | exact hm.slB 3 rfl | exact hm.slB 4 rfl | exact hm.slB 5 rfl | exact hm.slB 6 rfl) (by first | exact hm.slF 1 rfl | exact hm.slF 2 rfl | exact hm.slF 3 rfl | exact hm.slF 4 rfl | exact hm.slF 5 rfl | exact hm.slB 3 rfl | exact hm.slB 4 rfl | exact hm.slB 5 rfl | exact hm.slB 6 rfl)) (fun a3 c3 q7 q8 q9 => ?_)) | (refine callX (.bool (decide (Nat.gcd x y = 1))) (by kernel_rfl) rfl (trivial) (fun β w hm => one_any a3 c3 _ w (by omega) (by first | exact hm.slF 1 rfl | exact hm.slF 2 rfl | exact hm.slF 3 rfl | exact hm.slF 4 rfl | exact hm.slF 5 rfl | exact hm.slB 3 rfl | exact hm.slB 4 rfl | exact hm.slB 5 rfl | exact hm.slB 6 rfl)) ?_)) | ((with_reducible show OpX _ _ _ _); first | fail) | ((with_reducible show ∃ _ : SV, _); first | fail) | ((with_reducible show ∃ _, _); first | fail))
      all_goals first | (exfalso; simp_all; done) | (exfalso; omega) | skip
      all_goals (refine ret fun β w' hm => ?_)
      all_goals first
        | (have hg : ¬ Nat.gcd x y = 1 := by simp_all
           rw [if_pos hg] at hE
           rw [hE]
           exact FrOutE0 (hB 4 hE (by decide)) hm.below)
        | (have hg : Nat.gcd x y = 1 := by simp_all
           rw [if_neg (not_not_intro hg)] at hE
           rw [hE, hV hE]
           exact ⟨⟨_, _, _, a1, c1, a2, c2⟩, rfl, rfl, ⟨q1, q4, q2, q5⟩, Ls2 (by first | exact hm.slF 2 rfl | exact hm.slF 3 rfl | exact hm.slF 4 rfl | exact hm.slF 5 rfl | exact hm.slF 6 rfl | exact hm.slF 7 rfl | exact hm.slF 8 rfl | exact hm.slF 9 rfl) (by first | exact hm.freshF 2 rfl rfl | exact hm.freshF 3 rfl rfl | exact hm.freshF 4 rfl rfl | exact hm.freshF 5 rfl rfl | exact hm.freshF 6 rfl rfl | exact hm.freshF 7 rfl rfl | exact hm.freshF 8 rfl rfl | exact hm.freshF 9 rfl rfl) (by first | exact hm.slF 2 rfl | exact hm.slF 3 rfl | exact hm.slF 4 rfl | exact hm.slF 5 rfl | exact hm.slF 6 rfl | exact hm.slF 7 rfl | exact hm.slF 8 rfl | exact hm.slF 9 rfl) (by first | exact hm.freshF 2 rfl rfl | exact hm.freshF 3 rfl rfl | exact hm.freshF 4 rfl rfl | exact hm.freshF 5 rfl rfl | exact hm.freshF 6 rfl rfl | exact hm.freshF 7 rfl rfl | exact hm.freshF 8 rfl rfl | exact hm.freshF 9 rfl rfl), hm.below⟩)
theorem LsA {k : IntKind} {b : Nat} {t u : FrV} {w w' : World} (h1 : ∀ p ∈ t.L k b, SlAt p.1 p.2 w' ∧ FreshX p.1 p.2 w) (h2 : ∀ p ∈ u.L k b, SlAt p.1 p.2 w' ∧ FreshX p.1 p.2 w) : ∀ p ∈ t.L k b ++ u.L k b, SlAt p.1 p.2 w' ∧ FreshX p.1 p.2 w := fun p hp => (List.mem_append.1 hp).elim (h1 p) (h2 p)
/-- the error of two fractions -/
def ExP.bothE (f g : ExP.Fr) : Int := if ExP.readE f = 0 then ExP.readE g else ExP.readE f
def ExP.bothY (f g : ExP.Fr) : ExP.Num := if ExP.readE f = 0 then ExP.readV g else ExP.readV f
set_option maxRecDepth 100000 in
theorem check_any (f : ExP.Fr) (w : World) (hw0 : 0 < w.heap.size) (h1 : f.1.length ≤ 9223372036854775807) (h2 : f.2.length ≤ 9223372036854775807) :
    Calls Tryz.prog 70 #[.agg #[.string (bstr f.1), .string (bstr f.2)]] w fun e w' => e = .returned (.int .i64 (ExP.readE f)) ∧ Below w.heap.size w w' := by
  have R1 := fun (w' : World) (h : Below w.heap.size w w') => read_any f w' (Nat.lt_of_lt_of_le hw0 h.size) h1 h2
  obtain ⟨f1, f2⟩ := f
  dsimp only at *
  generalize ExP.readV (f1, f2) = V at *
  generalize ExP.readE (f1, f2) = E at *
  refine enter env_ok Tryz.func70 rfl Tryz.results70 Tryz.ntmps70 [] [] [.agg [.str f1, .str f2]] (by simp [SV.oks, SV.ok]) (Nat.le_of_ble_eq_true rfl) w _ 1000 ?_
  repeat' (first | ((with_reducible first | show wpS _ _ _ _ | show putD _ _ _ _ | show putW _ _ _ _ | show splitG _ _ _ | show wpQ _ _ _ _ _ _ | show wpD _ _ _ _ _ _ _ | show wpX _ _ _ _ _ _ _ | show expX _ _ _ _ _ _ | show stepX _ _ _ _ | show keepR _ _ _ | show wpY _ _ _ _); conv => whnf) | ((with_reducible show RetN _ _ _); refine retB fun β => ?_) | ((with_reducible show _ ∧ _); first | (apply And.intro; (· intro h; exfalso; first | omega | (revert h; decide)); intro _) | (apply And.intro; rotate_left; (· intro h; exfalso; first | omega | (revert h; decide)); intro _) | (refine ⟨fun _ => ?_, fun _ => ?_⟩) | (apply And.intro; · kernel_rfl) | (apply And.intro; · (show inK _ _; unfold inK; omega)) | (apply And.intro; · (show (_ : Int) ≤ 9223372036854775807; (try simp only [List.length_append, List.length_drop, List.length_take, List.length_cons, List.length_nil]); omega))) | ((with_reducible show AllBe _); refine allBe fun βe => ?_; conv => whnf) | ((with_reducible show bothX _ _); refine bothI ?_ ?_; conv => whnf) | (with_reducible exact trivial) | ((with_reducible show CallN _ _ _ _ _ _ _ _); refine call_of env_ok rfl 1000 ?_) | ((with_reducible show XopN _ _ _ _ _ _); refine xop_of env_ok rfl 1000 ?_) | ((with_reducible show CallX _ _ _ _ _ _); first | (refine callFrE .u32 1000000000 V E hw0 (by kernel_rfl) rfl (fun β w' hm => R1 w' hm.below) (fun a1 c1 a2 c2 hcap => ?_))) | ((with_reducible show OpX _ _ _ _); first | fail) | ((with_reducible show ∃ _ : SV, _); first | fail) | ((with_reducible show ∃ _, _); first | fail))
  all_goals rfl
set_option maxRecDepth 100000 in
set_option maxHeartbeats 4000000 in
theorem both_any (f g : ExP.Fr) (w : World) (hw0 : 0 < w.heap.size) (h1 : f.1.length ≤ 9223372036854775807) (h2 : f.2.length ≤ 9223372036854775807) (h3 : g.1.length ≤ 9223372036854775807) (h4 : g.2.length ≤ 9223372036854775807) :
    Calls Tryz.prog 192 #[.agg #[.string (bstr f.1), .string (bstr f.2)], .agg #[.string (bstr g.1), .string (bstr g.2)]] w (FrOutEE .u32 1000000000 (ExP.readV f) (ExP.bothY f g) (ExP.bothE f g) w) := by
  have R1 := fun (w' : World) (h : Below w.heap.size w w') => read_any f w' (Nat.lt_of_lt_of_le hw0 h.size) h1 h2
  have R2 := fun (w' : World) (h : Below w.heap.size w w') => read_any g w' (Nat.lt_of_lt_of_le hw0 h.size) h3 h4
  have hB := fun e => ExP.readV_bad (f := f) (e := e)
  have hE : ExP.bothE f g = if ExP.readE f = 0 then ExP.readE g else ExP.readE f := rfl
  have hY : ExP.bothY f g = if ExP.readE f = 0 then ExP.readV g else ExP.readV f := rfl
  generalize ExP.bothE f g = E at *
  generalize ExP.bothY f g = Y at *
  obtain ⟨f1, f2⟩ := f
  obtain ⟨g1, g2⟩ := g
  dsimp only at *
  generalize ExP.readV (f1, f2) = V1 at *
  generalize ExP.readE (f1, f2) = E1 at *
  generalize ExP.readV (g1, g2) = V2 at *
  generalize ExP.readE (g1, g2) = E2 at *
  obtain ⟨m1, n1, d1⟩ := V1
  obtain ⟨m2, n2, d2⟩ := V2
  refine enter env_ok Tryz.func192 rfl Tryz.results192 Tryz.ntmps192 [] [200003, 200005] [.agg [.str f1, .str f2], .agg [.str g1, .str g2]] (by simp [SV.oks, SV.ok]) (Nat.le_of_ble_eq_true rfl) w _ 1000 ?_
  repeat' (first | ((with_reducible first | show wpS _ _ _ _ | show putD _ _ _ _ | show putW _ _ _ _ | show splitG _ _ _ | show wpQ _ _ _ _ _ _ | show wpD _ _ _ _ _ _ _ | show wpX _ _ _ _ _ _ _ | show expX _ _ _ _ _ _ | show stepX _ _ _ _ | show keepR _ _ _ | show wpY _ _ _ _); conv => whnf) | ((with_reducible show RetN _ _ _); refine retB fun β => ?_) | ((with_reducible show _ ∧ _); first | (apply And.intro; (· intro h; exfalso; first | omega | (revert h; decide)); intro _) | (apply And.intro; rotate_left; (· intro h; exfalso; first | omega | (revert h; decide)); intro _) | (refine ⟨fun _ => ?_, fun _ => ?_⟩) | (apply And.intro; · kernel_rfl) | (apply And.intro; · (show inK _ _; unfold inK; omega)) | (apply And.intro; · (show (_ : Int) ≤ 9223372036854775807; (try simp only [List.length_append, List.length_drop, List.length_take, List.length_cons, List.length_nil]); omega))) | ((with_reducible show AllBe _); refine allBe fun βe => ?_; conv => whnf) | ((with_reducible show bothX _ _); refine bothI ?_ ?_; conv => whnf) | (with_reducible exact trivial) | ((with_reducible show CallN _ _ _ _ _ _ _ _); refine call_of env_ok rfl 1000 ?_) | ((with_reducible show XopN _ _ _ _ _ _); refine xop_of env_ok rfl 1000 ?_) | ((with_reducible show CallX _ _ _ _ _ _); first | (refine callFrE .u32 1000000000 ⟨m1, n1, d1⟩ E1 hw0 (by kernel_rfl) rfl (fun β w' hm => R1 w' hm.below) (fun a1 c1 a2 c2 hcap => ?_)) | (refine callFrE .u32 1000000000 ⟨m2, n2, d2⟩ E2 hw0 (by kernel_rfl) rfl (fun β w' hm => R2 w' hm.below) (fun b1 e1 b2 e2 hcap2 => ?_))) | ((with_reducible show OpX _ _ _ _); first | fail) | ((with_reducible show ∃ _ : SV, _); first | fail) | ((with_reducible show ∃ _, _); first | fail))
  all_goals refine ret fun β w' hm => ?_
  · rename_i hne
    rw [if_neg hne] at hE hY
    cases hB _ rfl hne
    rw [hE, hY]
    exact ⟨⟨_, _, _, a1, c1, a2, c2⟩, ⟨_, _, _, a1, c1, a2, c2⟩, rfl, rfl, rfl, hcap, hcap, LsA Ls0 Ls0, hm.below⟩
  · rename_i heq
    simp only [Decidable.not_not] at heq
    rw [if_pos heq] at hE hY
    rw [hE, hY]
    exact ⟨⟨_, _, _, a1, c1, a2, c2⟩, ⟨_, _, _, b1, e1, b2, e2⟩, rfl, rfl, rfl, hcap, hcap2, LsA (Ls2 (by first | exact hm.slF 2 rfl | exact hm.slF 3 rfl | exact hm.slF 4 rfl | exact hm.slF 5 rfl | exact hm.slF 6 rfl | exact hm.slF 7 rfl | exact hm.slF 8 rfl | exact hm.slF 9 rfl) (by first | exact hm.freshF 2 rfl rfl | exact hm.freshF 3 rfl rfl | exact hm.freshF 4 rfl rfl | exact hm.freshF 5 rfl rfl | exact hm.freshF 6 rfl rfl | exact hm.freshF 7 rfl rfl | exact hm.freshF 8 rfl rfl | exact hm.freshF 9 rfl rfl) (by first | exact hm.slF 2 rfl | exact hm.slF 3 rfl | exact hm.slF 4 rfl | exact hm.slF 5 rfl | exact hm.slF 6 rfl | exact hm.slF 7 rfl | exact hm.slF 8 rfl | exact hm.slF 9 rfl) (by first | exact hm.freshF 2 rfl rfl | exact hm.freshF 3 rfl rfl | exact hm.freshF 4 rfl rfl | exact hm.freshF 5 rfl rfl | exact hm.freshF 6 rfl rfl | exact hm.freshF 7 rfl rfl | exact hm.freshF 8 rfl rfl | exact hm.freshF 9 rfl rfl)) (Ls2 (by first | exact hm.slF 2 rfl | exact hm.slF 3 rfl | exact hm.slF 4 rfl | exact hm.slF 5 rfl | exact hm.slF 6 rfl | exact hm.slF 7 rfl | exact hm.slF 8 rfl | exact hm.slF 9 rfl) (by first | exact hm.freshF 2 rfl rfl | exact hm.freshF 3 rfl rfl | exact hm.freshF 4 rfl rfl | exact hm.freshF 5 rfl rfl | exact hm.freshF 6 rfl rfl | exact hm.freshF 7 rfl rfl | exact hm.freshF 8 rfl rfl | exact hm.freshF 9 rfl rfl) (by first | exact hm.slF 2 rfl | exact hm.slF 3 rfl | exact hm.slF 4 rfl | exact hm.slF 5 rfl | exact hm.slF 6 rfl | exact hm.slF 7 rfl | exact hm.slF 8 rfl | exact hm.slF 9 rfl) (by first | exact hm.freshF 2 rfl rfl | exact hm.freshF 3 rfl rfl | exact hm.freshF 4 rfl rfl | exact hm.freshF 5 rfl rfl | exact hm.freshF 6 rfl rfl | exact hm.freshF 7 rfl rfl | exact hm.freshF 8 rfl rfl | exact hm.freshF 9 rfl rfl)), hm.below⟩
end Go.Proofs.YtdkhkfdenlabaaaGreatDoor
