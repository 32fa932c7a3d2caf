/- Fractions of the program: write. Decimal numbers read: the program's run, exponent, ten. Fractions of the program: Neg, two, Add, Sub, Mul, Div, Compare. Fractions of the program: Compare. The reference's numbers: common divisors. The reference's numbers: NatOf, Text, Digits. Fractions of the reference: FracError, RatOf, Frac. Fractions of the reference: RatOf, Frac. Equality of structs, field by field. Fractions of the reference: sums, products, signs; equality of fractions. -/
import Derived.Test.YtdkhkfdenlabaaaGreatDoorVGK
import Derived.Test.YtdkhkfdenlabaaaGreatDoorVGG
import Derived.Test.YtdkhkfdenlabaaaGreatDoorVGD
import Derived.Test.YtdkhkfdenlabaaaGreatDoorVGJ
import Derived.Test.YtdkhkfdenlabaaaGreatDoorVGA
import Derived.ChangeKeysEq
set_option linter.unusedSimpArgs false
set_option linter.unusedVariables false
namespace Go.Proofs.YtdkhkfdenlabaaaGreatDoor
open Go.RowKit
open Sym
attribute [local irreducible] Calls Sym.AggEq ExP.nd ExP.dig ExP.upd
/-- a fraction as a value -/
abbrev frV (f : ExP.Fr) : Value := .agg #[.string (bstr f.1), .string (bstr f.2)]
/-- a function that answers with a fraction and an error -/
def WrOut (f : ExP.Fr) (err : Int) (w : World) (e : Ending) (w' : World) : Prop := e = .returned (.tuple #[frV f, .int .i64 err]) ∧ Below w.heap.size w w'
set_option maxRecDepth 100000 in
set_option maxHeartbeats 4000000 in
theorem write_any (x : FrV) (w : World) (hw : XW w) (hw0 : 0 < w.heap.size) (hx : FrIn .u32 1000000000 x w) (hd : 0 < x.d)
    (hxn : ExP.nd 1000000000 x.n ≤ 1000000) (hxd : ExP.nd 1000000000 x.d ≤ 1000000) :
    Calls Tryz.prog 169 #[x.val 1000000000] w (WrOut (ExP.writeF x.num) (ExP.writeE x.num) w) := by
  obtain ⟨m, n, d, a, c, b, e⟩ := x
  obtain ⟨hx1, hx2, ⟨hx3, hx4, hx5, hx6⟩⟩ := hx
  dsimp only [FrV.num, FrV.val] at *
  have hz := fun w' => zero_any a (ExP.nd 1000000000 n) c w'
  have hF : ExP.writeF ⟨m, n, d⟩ = if n = 0 then ([48], [49]) else if (300 < (Lib.decDigits (n / Nat.gcd n d)).length ∨ 300 < (Lib.decDigits (d / Nat.gcd n d)).length) then ([], []) else (ExP.signP m (Lib.decDigits (n / Nat.gcd n d)), Lib.decDigits (d / Nat.gcd n d)) := rfl
  have hE : ExP.writeE ⟨m, n, d⟩ = if n = 0 then 0 else if (300 < (Lib.decDigits (n / Nat.gcd n d)).length ∨ 300 < (Lib.decDigits (d / Nat.gcd n d)).length) then 19 else 0 := rfl
  generalize ExP.writeF ⟨m, n, d⟩ = F at *
  generalize ExP.writeE ⟨m, n, d⟩ = E at *
  by_cases hn : n = 0
  · rw [if_pos hn] at hF hE
    rw [show decide ((ExP.nd 1000000000 n : Int) = 0) = true from decide_eq_true (by rw [hn, ExP.nd_zero]; rfl)] at hz
    subst hF hE
    refine enter env_ok Tryz.func169 rfl Tryz.results169 Tryz.ntmps169 [] [] [.agg [.bool m, .any (.slice a (ExP.nd 1000000000 n) c), .any (.slice b (ExP.nd 1000000000 d) e)]] ⟨⟨trivial, rfl, rfl, trivial⟩, trivial⟩ (Nat.le_of_ble_eq_true rfl) w _ 1000 ?_
    repeat' (first | ((with_reducible first | show wpS _ _ _ _ | show putD _ _ _ _ | show putW _ _ _ _ | show splitG _ _ _ | show wpQ _ _ _ _ _ _ | show wpD _ _ _ _ _ _ _ | show wpX _ _ _ _ _ _ _ | show expX _ _ _ _ _ _ | show stepX _ _ _ _ | show keepR _ _ _ | show wpY _ _ _ _); conv => whnf) | ((with_reducible show RetN _ _ _); refine retB fun β => ?_) | ((with_reducible show _ ∧ _); first | (apply And.intro; (· intro h; exfalso; first | omega | (revert h; decide)); intro _) | (apply And.intro; rotate_left; (· intro h; exfalso; first | omega | (revert h; decide)); intro _) | (refine ⟨fun _ => ?_, fun _ => ?_⟩) | (apply And.intro; · kernel_rfl) | (apply And.intro; · (show inK _ _; unfold inK; omega)) | (apply And.intro; · (show (_ : Int) ≤ 9223372036854775807; (try simp only [List.length_append, List.length_drop, List.length_take, List.length_cons, List.length_nil]); omega))) | ((with_reducible show AllBe _); refine allBe fun βe => ?_; conv => whnf) | ((with_reducible show bothX _ _); refine bothI ?_ ?_; conv => whnf) | (with_reducible exact trivial) | ((with_reducible show CallN _ _ _ _ _ _ _ _); refine call_of env_ok rfl 1000 ?_) | ((with_reducible show XopN _ _ _ _ _ _); refine xop_of env_ok rfl 1000 ?_) | ((with_reducible show CallX _ _ _ _ _ _); first | (refine callX (.lit true) (by kernel_rfl) rfl (trivial) (fun β w hm => hz w) ?_)) | ((with_reducible show OpX _ _ _ _); first | fail) | ((with_reducible show ∃ _ : SV, _); first | fail) | ((with_reducible show ∃ _, _); first | fail))
    all_goals rfl
  · rw [if_neg hn] at hF hE
    have hnp := Nat.pos_of_ne_zero hn
    rw [show decide ((ExP.nd 1000000000 n : Int) = 0) = false from decide_eq_false (by have := (ExP.nd_pos (b := 1000000000) (by omega)).2 hnp; omega)] at hz
    have hg := Nat.gcd_pos_of_pos_left d hnp
    have hgn := ExP.nd_mono (b := 1000000000) (by omega) (Nat.gcd_le_right n hd)
    have hG := fun (w' : World) (h : Below w.heap.size w w') => common_any (Lz n a (Lz d b [])) a b c e n d w' (Nat.lt_of_lt_of_le hw0 h.size) (by omega) (by omega) hx3 hx5 hx4 hx6 Lz_in (fun h => Lz_mem (Lz_in h)) (hx1.below h) (hx2.below h)
    generalize Nat.gcd n d = g at *
    have hq1 := ExP.nd_mono (b := 1000000000) (by omega) (Nat.div_le_self n g)
    have hq2 := ExP.nd_mono (b := 1000000000) (by omega) (Nat.div_le_self d g)
    have hT := fun (a : Option Addr) (cap x : Nat) (w' : World) (h : Below w.heap.size w w') => text_any a cap x w' (hw.below h)
    have hD1 := fun (a3 : Option Addr) c3 (w' : World) (h : Below w.heap.size w w') h2 => divide_any a a3 c c3 n g w' (Nat.lt_of_lt_of_le hw0 h.size) (by omega) (by omega) hg (hx1.below h) h2
    have hD2 := fun (a3 : Option Addr) c3 (w' : World) (h : Below w.heap.size w w') h2 => divide_any b a3 e c3 d g w' (Nat.lt_of_lt_of_le hw0 h.size) (by omega) (by omega) hg (hx2.below h) h2
    generalize n / g = q1 at *
    generalize d / g = q2 at *
    generalize n % g = r1 at *
    generalize d % g = r2 at *
    have hT1 := fun a cap w' h => hT a cap q1 w' h (by omega)
    have hT2 := fun a cap w' h => hT a cap q2 w' h (by omega)
    generalize Lib.decDigits q1 = s1 at *
    generalize Lib.decDigits q2 = s2 at *
    refine enter env_ok Tryz.func169 rfl Tryz.results169 Tryz.ntmps169 [] [200006] [.agg [.bool m, .any (.slice a (ExP.nd 1000000000 n) c), .any (.slice b (ExP.nd 1000000000 d) e)]] ⟨⟨trivial, rfl, rfl, trivial⟩, trivial⟩ (Nat.le_of_ble_eq_true rfl) w _ 1000 ?_
    repeat' (first | ((with_reducible first | show wpS _ _ _ _ | show putD _ _ _ _ | show putW _ _ _ _ | show splitG _ _ _ | show wpQ _ _ _ _ _ _ | show wpD _ _ _ _ _ _ _ | show wpX _ _ _ _ _ _ _ | show expX _ _ _ _ _ _ | show stepX _ _ _ _ | show keepR _ _ _ | show wpY _ _ _ _); conv => whnf) | ((with_reducible show RetN _ _ _); refine retB fun β => ?_) | ((with_reducible show _ ∧ _); first | (apply And.intro; (· intro h; exfalso; first | omega | (revert h; decide)); intro _) | (apply And.intro; rotate_left; (· intro h; exfalso; first | omega | (revert h; decide)); intro _) | (refine ⟨fun _ => ?_, fun _ => ?_⟩) | (apply And.intro; · kernel_rfl) | (apply And.intro; · (show inK _ _; unfold inK; omega)) | (apply And.intro; · (show (_ : Int) ≤ 9223372036854775807; (try simp only [List.length_append, List.length_drop, List.length_take, List.length_cons, List.length_nil]); omega))) | ((with_reducible show AllBe _); refine allBe fun βe => ?_; conv => whnf) | ((with_reducible show bothX _ _); refine bothI ?_ ?_; conv => whnf) | (with_reducible exact trivial) | ((with_reducible show CallN _ _ _ _ _ _ _ _); refine call_of env_ok rfl 1000 ?_) | ((with_reducible show XopN _ _ _ _ _ _); refine xop_of env_ok rfl 1000 ?_) | ((with_reducible show CallX _ _ _ _ _ _); first | (refine callX (.lit false) (by kernel_rfl) rfl (trivial) (fun β w hm => hz w) ?_) | (refine callNatL (Lz n a (Lz d b [])) .u32 1000000000 g hw0 (by kernel_rfl) rfl (apart_old (Nat.le_of_ble_eq_true rfl) hx1 rfl (apart_old (Nat.le_of_ble_eq_true rfl) hx2 rfl apart_nil)) (fun β w' hm => hG w' hm.below) (fun a3 c3 h1 h2 h3 => ?_)) | (refine callNat2 .u32 1000000000 q1 r1 hw0 (by kernel_rfl) rfl (fun β w' hm => hD1 a3 c3 w' hm.below (hm.slB 2 rfl)) (fun qa qc ra rc k1 k2 k3 k4 k5 k6 => ?_)) | (refine callNat2 .u32 1000000000 q2 r2 hw0 (by kernel_rfl) rfl (fun β w' hm => hD2 a3 c3 w' hm.below (hm.slB 2 rfl)) (fun qb qd rb rd k7 k8 k9 k10 k11 k12 => ?_)) | (refine callX (.str s1) (by kernel_rfl) rfl (trivial) (fun β w hm => hT1 qa qc w hm.below (hm.slF 3 rfl)) ?_) | (refine callX (.str s2) (by kernel_rfl) rfl (trivial) (fun β w hm => hT2 qb qd w hm.below (hm.slF 5 rfl)) ?_)) | ((with_reducible show OpX _ _ _ _); first | fail) | ((with_reducible show ∃ _ : SV, _); first | fail) | ((with_reducible show ∃ _, _); first | fail))
    all_goals first | (exfalso; omega) | skip
    all_goals first
      | (rw [if_pos (by omega)] at hF hE; subst hF hE; rfl)
      | (rw [if_neg (by omega)] at hF hE; subst hF hE; simp_all [SV.den, SV.dens, ExP.signP]; done)
end Go.Proofs.YtdkhkfdenlabaaaGreatDoor
namespace Go.Proofs.YtdkhkfdenlabaaaGreatDoor
open Go.RowKit
open Sym
attribute [local irreducible] Calls Sym.AggEq ExP.nd ExP.dig ExP.upd
theorem trimLeft_any (s : List UInt8) (w : World) : Calls Tryz.prog 178 #[.string (bstr s), .string (bstr decS)] w fun e w' => e = .returned (.string (bstr (ExP.runR s))) ∧ Below w.heap.size w w' := by
  have hp : (fun c => decS.contains c) = ExP.digC := funext dec_contains
  have := Any.strings_TrimLeft_laid Tryz.lays161 (by kernel_rfl) (bstr s) (bstr decS) w (by decide) (ascii_of_all (by decide))
  refine this.mono ?_
  rintro e w' ⟨rfl, hb⟩
  refine ⟨?_, hb⟩
  have e1 : Lib.trimLeftS s decS = ExP.runR s := by unfold Lib.trimLeftS ExP.runR; rw [hp]
  show Ending.returned (Value.string (bstr (Lib.trimLeftS s decS))) = _
  rw [e1]
set_option maxRecDepth 100000 in
theorem run_any (s : List UInt8) (w : World) (hs : s.length ≤ 9223372036854775807) : Calls Tryz.prog 164 #[.string (bstr s)] w fun e w' => e = .returned (.tuple #[.string (bstr (ExP.runD s)), .string (bstr (ExP.runR s))]) ∧ Below w.heap.size w w' := by
  have HT := fun w => trimLeft_any s w
  have h1 := ExP.run_len s
  have h2 := ExP.run_take s
  generalize ExP.runR s = r at *
  refine enter env_ok Tryz.func164 rfl Tryz.results164 Tryz.ntmps164 [] [] [.str s] (by simp [SV.oks, SV.ok]) (Nat.le_of_ble_eq_true rfl) w _ 1000 ?_
  repeat' (first | ((with_reducible first | show wpS _ _ _ _ | show putD _ _ _ _ | show putW _ _ _ _ | show splitG _ _ _ | show wpQ _ _ _ _ _ _ | show wpD _ _ _ _ _ _ _ | show wpX _ _ _ _ _ _ _ | show expX _ _ _ _ _ _ | show stepX _ _ _ _ | show keepR _ _ _ | show wpY _ _ _ _); conv => whnf) | ((with_reducible show RetN _ _ _); refine retB fun β => ?_) | ((with_reducible show _ ∧ _); first | (apply And.intro; (· intro h; exfalso; first | omega | (revert h; decide)); intro _) | (apply And.intro; rotate_left; (· intro h; exfalso; first | omega | (revert h; decide)); intro _) | (refine ⟨fun _ => ?_, fun _ => ?_⟩) | (apply And.intro; · kernel_rfl) | (apply And.intro; · (show inK _ _; unfold inK; omega)) | (apply And.intro; · (show (_ : Int) ≤ 9223372036854775807; (try simp only [List.length_append, List.length_drop, List.length_take, List.length_cons, List.length_nil]); omega))) | ((with_reducible show AllBe _); refine allBe fun βe => ?_; conv => whnf) | ((with_reducible show bothX _ _); refine bothI ?_ ?_; conv => whnf) | (with_reducible exact trivial) | ((with_reducible show CallN _ _ _ _ _ _ _ _); refine call_of env_ok rfl 1000 ?_) | ((with_reducible show XopN _ _ _ _ _ _); refine xop_of env_ok rfl 1000 ?_) | ((with_reducible show CallX _ _ _ _ _ _); first | (refine callX (.str r) (by kernel_rfl) rfl (trivial) (fun β w hm => HT w) ?_)) | ((with_reducible show OpX _ _ _ _); first | fail) | ((with_reducible show ∃ _ : SV, _); first | fail) | ((with_reducible show ∃ _, _); first | (refine ⟨s.length - r.length, by omega, by omega, ?_⟩)))
  all_goals first | (rw [h2]; rfl) | (simp [SV.den, SV.dens, h2]; done) | skip
theorem hasOne_any (s : List UInt8) (c : UInt8) (w : World) : Calls Tryz.prog 162 #[.string (bstr s), .string (bstr [c])] w fun e w' => e = .returned (.bool (s.head? == some c)) ∧ Below w.heap.size w w' := by
  refine (Tryz.strings_HasPrefix (bstr s) (bstr [c]) w).mono ?_
  rintro e w' ⟨h, rfl⟩
  refine ⟨?_, Below.refl _ _⟩
  rw [h, show (bstr s).data.toList = s from rfl, show (bstr [c]).data.toList = [c] from rfl]
  congr 2
  unfold Lib.hasPrefix
  cases s with
  | nil => rfl
  | cons d r =>
    by_cases h : d = c
    · subst h; simp
    · have h' : ¬ c = d := fun e => h e.symm
      simp [List.isPrefixOf, beq_eq_false_iff_ne.2 h, beq_eq_false_iff_ne.2 h']
theorem repeat48 (k : Nat) : Lib.repeatL [48] k = List.replicate k 48 := by
  induction k with
  | zero => rfl
  | succ k ih => rw [Lib.repeatL, ih]; rfl
theorem repeat_any (k : Nat) (w : World) (hk : k ≤ 1000000) : Calls Tryz.prog 202 #[.string (bstr [48]), .int .i64 (k : Int)] w fun e w' => e = .returned (.string (bstr (List.replicate k 48))) ∧ Below w.heap.size w w' := by
  rcases Nat.lt_or_ge k 2 with h | h
  · have : k = 0 ∨ k = 1 := by omega
    rcases this with rfl | rfl
    · exact (Tryz.strings_Repeat_zero (bstr [48]) w).mono fun e w' ⟨h1, h2⟩ => ⟨h1, by rw [h2]; exact Below.refl _ _⟩
    · exact (Tryz.strings_Repeat_one (bstr [48]) w).mono fun e w' ⟨h1, h2⟩ => ⟨h1, by rw [h2]; exact Below.refl _ _⟩
  · refine (Tryz.strings_Repeat_main (bstr [48]) k w h (by omega) (by rw [bstr_size]; simp; omega) (by rw [bstr_size]; simp)).mono ?_
    rintro e w' ⟨rfl, hb⟩
    refine ⟨?_, hb⟩
    show Ending.returned (Value.string (bstr (Lib.repeatL [48] k))) = _
    rw [repeat48]
set_option maxRecDepth 100000 in
theorem ten_any (k : Nat) (w : World) (hw0 : 0 < w.heap.size) (hk : k ≤ 500000) : Calls Tryz.prog 167 #[.int .i64 (k : Int)] w (NatOut .u32 1000000000 (10 ^ k) w) := by
  have HR := fun w => repeat_any k w (by omega)
  obtain ⟨hv, ha⟩ := ExP.ten_val k
  have HP := fun w => parse_any (49 :: List.replicate k 48) w (by simp; omega) ha
  rw [hv] at HP
  have hl : (List.replicate k (48 : UInt8)).length = k := by simp
  clear hv ha
  generalize List.replicate k (48 : UInt8) = z at *
  refine enter env_ok Tryz.func167 rfl Tryz.results167 Tryz.ntmps167 [] [] [.int .i64 (k : Int)] (by simp [SV.oks, SV.ok]) (Nat.le_of_ble_eq_true rfl) w _ 1000 ?_
  repeat' (first | ((with_reducible first | show wpS _ _ _ _ | show putD _ _ _ _ | show putW _ _ _ _ | show splitG _ _ _ | show wpQ _ _ _ _ _ _ | show wpD _ _ _ _ _ _ _ | show wpX _ _ _ _ _ _ _ | show expX _ _ _ _ _ _ | show stepX _ _ _ _ | show keepR _ _ _ | show wpY _ _ _ _); conv => whnf) | ((with_reducible show RetN _ _ _); refine retB fun β => ?_) | ((with_reducible show _ ∧ _); first | (apply And.intro; (· intro h; exfalso; first | omega | (revert h; decide)); intro _) | (apply And.intro; rotate_left; (· intro h; exfalso; first | omega | (revert h; decide)); intro _) | (refine ⟨fun _ => ?_, fun _ => ?_⟩) | (apply And.intro; · kernel_rfl) | (apply And.intro; · (show inK _ _; unfold inK; omega)) | (apply And.intro; · (show (_ : Int) ≤ 9223372036854775807; (try simp only [List.length_append, List.length_drop, List.length_take, List.length_cons, List.length_nil]); omega))) | ((with_reducible show AllBe _); refine allBe fun βe => ?_; conv => whnf) | ((with_reducible show bothX _ _); refine bothI ?_ ?_; conv => whnf) | (with_reducible exact trivial) | ((with_reducible show CallN _ _ _ _ _ _ _ _); refine call_of env_ok rfl 1000 ?_) | ((with_reducible show XopN _ _ _ _ _ _); refine xop_of env_ok rfl 1000 ?_) | ((with_reducible show CallX _ _ _ _ _ _); first | (refine callX (.str z) (by kernel_rfl) rfl (trivial) (fun β w hm => HR w) ?_) | (refine callNat .u32 1000000000 (10 ^ k) hw0 (by kernel_rfl) rfl (fun β w' hm => HP w') (fun a1 c1 q1 q2 q3 => ?_))) | ((with_reducible show OpX _ _ _ _); first | fail) | ((with_reducible show ∃ _ : SV, _); first | fail) | ((with_reducible show ∃ _, _); first | fail))
  all_goals first | (exfalso; omega) | skip
  all_goals refine ret fun β w' hm => ?_
  all_goals exact ⟨a1, c1, rfl, hm.slF 0 rfl, hm.freshF 0 rfl rfl, q1, q2, hm.below⟩
set_option maxRecDepth 100000 in
set_option maxHeartbeats 4000000 in
theorem exponent_any (s : List UInt8) (w : World) (hs : s.length ≤ 9223372036854775807) : Calls Tryz.prog 165 #[.string (bstr s)] w fun e w' => e = .returned (.tuple #[.int .i64 (if ExP.expB s = true then ExP.expV s else 0), .bool (ExP.expB s)]) ∧ Below w.heap.size w w' := by
  cases s with
  | nil =>
    refine enter env_ok Tryz.func165 rfl Tryz.results165 Tryz.ntmps165 [] [] [.str []] (by simp [SV.oks, SV.ok]) (Nat.le_of_ble_eq_true rfl) w _ 1000 ?_
    repeat' (first | ((with_reducible first | show wpS _ _ _ _ | show putD _ _ _ _ | show putW _ _ _ _ | show splitG _ _ _ | show wpQ _ _ _ _ _ _ | show wpD _ _ _ _ _ _ _ | show wpX _ _ _ _ _ _ _ | show expX _ _ _ _ _ _ | show stepX _ _ _ _ | show keepR _ _ _ | show wpY _ _ _ _); conv => whnf) | ((with_reducible show RetN _ _ _); refine retB fun β => ?_) | ((with_reducible show _ ∧ _); first | (apply And.intro; (· intro h; exfalso; first | omega | (revert h; decide)); intro _) | (apply And.intro; rotate_left; (· intro h; exfalso; first | omega | (revert h; decide)); intro _) | (refine ⟨fun _ => ?_, fun _ => ?_⟩) | (apply And.intro; · kernel_rfl) | (apply And.intro; · (show inK _ _; unfold inK; omega)) | (apply And.intro; · (show (_ : Int) ≤ 9223372036854775807; (try simp only [List.length_append, List.length_drop, List.length_take, List.length_cons, List.length_nil]); omega))) | ((with_reducible show AllBe _); refine allBe fun βe => ?_; conv => whnf) | ((with_reducible show bothX _ _); refine bothI ?_ ?_; conv => whnf) | (with_reducible exact trivial) | ((with_reducible show CallN _ _ _ _ _ _ _ _); refine call_of env_ok rfl 1000 ?_) | ((with_reducible show XopN _ _ _ _ _ _); refine xop_of env_ok rfl 1000 ?_) | ((with_reducible show CallX _ _ _ _ _ _); first | fail) | ((with_reducible show OpX _ _ _ _); first | fail) | ((with_reducible show ∃ _ : SV, _); first | fail) | ((with_reducible show ∃ _, _); first | fail))
    all_goals first | rfl | (exfalso; simp_all; done)
  | cons c t =>
    have hB : ExP.expB (c :: t) = ((c == 101 || c == 69) && ExP.expOK (ExP.sgnR t)) := rfl
    have hV : ExP.expV (c :: t) = if ExP.sgnP t = true then -(ExP.valS (ExP.sgnR t) : Int) else (ExP.valS (ExP.sgnR t) : Int) := rfl
    have hc0 : ((c :: t : List UInt8).getD 0 0).toNat = c.toNat := rfl
    have hc8 := c.toNat_lt
    by_cases hc : c = 101 ∨ c = 69
    · have hce : (c == 101 || c == 69) = true := by rcases hc with rfl | rfl <;> rfl
      have hcn : c.toNat = 101 ∨ c.toNat = 69 := by rcases hc with rfl | rfl <;> simp
      rw [hce, Bool.true_and] at hB
      rw [hB, hV]
      have hsP : ExP.sgnP t = (t.head? == some 45) := rfl
      have hsR : ExP.sgnR t = if t.head? = some 45 ∨ t.head? = some 43 then t.tail else t := rfl
      by_cases h45 : t.head? = some 45
      · obtain ⟨u, rfl⟩ : ∃ u, t = 45 :: u := by
          cases t with
          | nil => cases h45
          | cons d u => simp at h45; subst h45; exact ⟨u, rfl⟩
        have e1 : ExP.sgnP (45 :: u) = true := rfl
        have e2 : ExP.sgnR (45 :: u) = u := rfl
        simp only [e1, e2, if_true]
        have HH1 := fun w => hasOne_any (45 :: u) 45 w
        have HH2 := fun w => hasOne_any (45 :: u) 43 w
        rw [show (((45 : UInt8) :: u).head? == some 45) = true from rfl] at HH1
        have RU := fun w => run_any u w (by simp only [List.length_cons] at hs; omega)
        by_cases hok : ExP.expOK u = true
        · obtain ⟨o1, o2, o3, o4, o5⟩ := ExP.expOK_run hok
          have hv := ExP.val3 hok
          have AT := fun w => atoi_any u w o1 (by omega) o5
          rw [o2, o3] at RU
          rw [hok, if_pos rfl]
          generalize ExP.valS u = v at *
          refine enter env_ok Tryz.func165 rfl Tryz.results165 Tryz.ntmps165 [] [] [.str (c :: 45 :: u)] (by simp [SV.oks, SV.ok]) (Nat.le_of_ble_eq_true rfl) w _ 1000 ?_
          repeat' (first | ((with_reducible first | show wpS _ _ _ _ | show putD _ _ _ _ | show putW _ _ _ _ | show splitG _ _ _ | show wpQ _ _ _ _ _ _ | show wpD _ _ _ _ _ _ _ | show wpX _ _ _ _ _ _ _ | show expX _ _ _ _ _ _ | show stepX _ _ _ _ | show keepR _ _ _ | show wpY _ _ _ _); conv => whnf) | ((with_reducible show RetN _ _ _); refine retB fun β => ?_) | ((with_reducible show _ ∧ _); first | (apply And.intro; (· intro h; exfalso; first | omega | (revert h; decide)); intro _) | (apply And.intro; rotate_left; (· intro h; exfalso; first | omega | (revert h; decide)); intro _) | (refine ⟨fun _ => ?_, fun _ => ?_⟩) | (apply And.intro; · kernel_rfl) | (apply And.intro; · (show inK _ _; unfold inK; omega)) | (apply And.intro; · (show (_ : Int) ≤ 9223372036854775807; (try simp only [List.length_append, List.length_drop, List.length_take, List.length_cons, List.length_nil]); omega))) | ((with_reducible show AllBe _); refine allBe fun βe => ?_; conv => whnf) | ((with_reducible show bothX _ _); refine bothI ?_ ?_; conv => whnf) | (with_reducible exact trivial) | ((with_reducible show CallN _ _ _ _ _ _ _ _); refine call_of env_ok rfl 1000 ?_) | ((with_reducible show XopN _ _ _ _ _ _); refine xop_of env_ok rfl 1000 ?_) | ((with_reducible show CallX _ _ _ _ _ _); first | (refine callX (.lit true) (by kernel_rfl) rfl (trivial) (fun β w hm => HH1 w) ?_) | (refine callX (.lit false) (by kernel_rfl) rfl (trivial) (fun β w hm => HH2 w) ?_) | (refine callX (.tup [.str u, .str []]) (by kernel_rfl) rfl (⟨trivial, trivial, trivial⟩) (fun β w hm => RU w) ?_) | (refine callX (.tup [.int .i64 (v : Nat), .any .nilIface]) (by kernel_rfl) rfl (⟨trivial, rfl, trivial⟩) (fun β w hm => AT w) ?_)) | ((with_reducible show OpX _ _ _ _); first | fail) | ((with_reducible show ∃ _ : SV, _); first | fail) | ((with_reducible show ∃ _, _); first | (refine ⟨0, rfl, by simp, ?_⟩) | (refine ⟨1, rfl, by simp, ?_⟩)))
          all_goals first | rfl | (exfalso; omega) | (exfalso; simp_all; done) | (simp [SV.den, SV.dens]; done)
        · have hno := ExP.expOK_not (Bool.eq_false_iff.2 hok)
          rw [Bool.eq_false_iff.2 hok, if_neg (by decide)]
          generalize ExP.runD u = d at *
          generalize ExP.runR u = r at *
          refine enter env_ok Tryz.func165 rfl Tryz.results165 Tryz.ntmps165 [] [] [.str (c :: 45 :: u)] (by simp [SV.oks, SV.ok]) (Nat.le_of_ble_eq_true rfl) w _ 1000 ?_
          repeat' (first | ((with_reducible first | show wpS _ _ _ _ | show putD _ _ _ _ | show putW _ _ _ _ | show splitG _ _ _ | show wpQ _ _ _ _ _ _ | show wpD _ _ _ _ _ _ _ | show wpX _ _ _ _ _ _ _ | show expX _ _ _ _ _ _ | show stepX _ _ _ _ | show keepR _ _ _ | show wpY _ _ _ _); conv => whnf) | ((with_reducible show RetN _ _ _); refine retB fun β => ?_) | ((with_reducible show _ ∧ _); first | (apply And.intro; (· intro h; exfalso; first | omega | (revert h; decide)); intro _) | (apply And.intro; rotate_left; (· intro h; exfalso; first | omega | (revert h; decide)); intro _) | (refine ⟨fun _ => ?_, fun _ => ?_⟩) | (apply And.intro; · kernel_rfl) | (apply And.intro; · (show inK _ _; unfold inK; omega)) | (apply And.intro; · (show (_ : Int) ≤ 9223372036854775807; (try simp only [List.length_append, List.length_drop, List.length_take, List.length_cons, List.length_nil]); omega))) | ((with_reducible show AllBe _); refine allBe fun βe => ?_; conv => whnf) | ((with_reducible show bothX _ _); refine bothI ?_ ?_; conv => whnf) | (with_reducible exact trivial) | ((with_reducible show CallN _ _ _ _ _ _ _ _); refine call_of env_ok rfl 1000 ?_) | ((with_reducible show XopN _ _ _ _ _ _); refine xop_of env_ok rfl 1000 ?_) | ((with_reducible show CallX _ _ _ _ _ _); first | (refine callX (.lit true) (by kernel_rfl) rfl (trivial) (fun β w hm => HH1 w) ?_) | (refine callX (.lit false) (by kernel_rfl) rfl (trivial) (fun β w hm => HH2 w) ?_) | (refine callX (.tup [.str d, .str r]) (by kernel_rfl) rfl (⟨trivial, trivial, trivial⟩) (fun β w hm => RU w) ?_)) | ((with_reducible show OpX _ _ _ _); first | fail) | ((with_reducible show ∃ _ : SV, _); first | fail) | ((with_reducible show ∃ _, _); first | (refine ⟨0, rfl, by simp, ?_⟩) | (refine ⟨1, rfl, by simp, ?_⟩)))
          all_goals first | rfl | (exfalso; omega) | (exfalso; rcases hno with h | h | h <;> first | omega | contradiction | (exact h (by assumption))) | (exfalso; simp_all; done)
      by_cases h43 : t.head? = some 43
      · obtain ⟨u, rfl⟩ : ∃ u, t = 43 :: u := by
          cases t with
          | nil => cases h43
          | cons d u => simp at h43; subst h43; exact ⟨u, rfl⟩
        have e1 : ExP.sgnP (43 :: u) = false := rfl
        have e2 : ExP.sgnR (43 :: u) = u := rfl
        simp only [e1, e2, Bool.false_eq_true, if_false]
        have HH1 := fun w => hasOne_any (43 :: u) 45 w
        have HH2 := fun w => hasOne_any (43 :: u) 43 w
        rw [show (((43 : UInt8) :: u).head? == some 45) = false from rfl] at HH1
        rw [show (((43 : UInt8) :: u).head? == some 43) = true from rfl] at HH2
        have RU := fun w => run_any u w (by simp only [List.length_cons] at hs; omega)
        by_cases hok : ExP.expOK u = true
        · obtain ⟨o1, o2, o3, o4, o5⟩ := ExP.expOK_run hok
          have hv := ExP.val3 hok
          have AT := fun w => atoi_any u w o1 (by omega) o5
          rw [o2, o3] at RU
          rw [hok, if_pos rfl]
          generalize ExP.valS u = v at *
          refine enter env_ok Tryz.func165 rfl Tryz.results165 Tryz.ntmps165 [] [] [.str (c :: 43 :: u)] (by simp [SV.oks, SV.ok]) (Nat.le_of_ble_eq_true rfl) w _ 1000 ?_
          repeat' (first | ((with_reducible first | show wpS _ _ _ _ | show putD _ _ _ _ | show putW _ _ _ _ | show splitG _ _ _ | show wpQ _ _ _ _ _ _ | show wpD _ _ _ _ _ _ _ | show wpX _ _ _ _ _ _ _ | show expX _ _ _ _ _ _ | show stepX _ _ _ _ | show keepR _ _ _ | show wpY _ _ _ _); conv => whnf) | ((with_reducible show RetN _ _ _); refine retB fun β => ?_) | ((with_reducible show _ ∧ _); first | (apply And.intro; (· intro h; exfalso; first | omega | (revert h; decide)); intro _) | (apply And.intro; rotate_left; (· intro h; exfalso; first | omega | (revert h; decide)); intro _) | (refine ⟨fun _ => ?_, fun _ => ?_⟩) | (apply And.intro; · kernel_rfl) | (apply And.intro; · (show inK _ _; unfold inK; omega)) | (apply And.intro; · (show (_ : Int) ≤ 9223372036854775807; (try simp only [List.length_append, List.length_drop, List.length_take, List.length_cons, List.length_nil]); omega))) | ((with_reducible show AllBe _); refine allBe fun βe => ?_; conv => whnf) | ((with_reducible show bothX _ _); refine bothI ?_ ?_; conv => whnf) | (with_reducible exact trivial) | ((with_reducible show CallN _ _ _ _ _ _ _ _); refine call_of env_ok rfl 1000 ?_) | ((with_reducible show XopN _ _ _ _ _ _); refine xop_of env_ok rfl 1000 ?_) | ((with_reducible show CallX _ _ _ _ _ _); first | (refine callX (.lit false) (by kernel_rfl) rfl (trivial) (fun β w hm => HH1 w) ?_) | (refine callX (.lit true) (by kernel_rfl) rfl (trivial) (fun β w hm => HH2 w) ?_) | (refine callX (.tup [.str u, .str []]) (by kernel_rfl) rfl (⟨trivial, trivial, trivial⟩) (fun β w hm => RU w) ?_) | (refine callX (.tup [.int .i64 (v : Nat), .any .nilIface]) (by kernel_rfl) rfl (⟨trivial, rfl, trivial⟩) (fun β w hm => AT w) ?_)) | ((with_reducible show OpX _ _ _ _); first | fail) | ((with_reducible show ∃ _ : SV, _); first | fail) | ((with_reducible show ∃ _, _); first | (refine ⟨0, rfl, by simp, ?_⟩) | (refine ⟨1, rfl, by simp, ?_⟩)))
          all_goals first | rfl | (exfalso; omega) | (exfalso; simp_all; done) | (simp [SV.den, SV.dens]; done)
        · have hno := ExP.expOK_not (Bool.eq_false_iff.2 hok)
          rw [Bool.eq_false_iff.2 hok, if_neg (by decide)]
          generalize ExP.runD u = d at *
          generalize ExP.runR u = r at *
          refine enter env_ok Tryz.func165 rfl Tryz.results165 Tryz.ntmps165 [] [] [.str (c :: 43 :: u)] (by simp [SV.oks, SV.ok]) (Nat.le_of_ble_eq_true rfl) w _ 1000 ?_
          repeat' (first | ((with_reducible first | show wpS _ _ _ _ | show putD _ _ _ _ | show putW _ _ _ _ | show splitG _ _ _ | show wpQ _ _ _ _ _ _ | show wpD _ _ _ _ _ _ _ | show wpX _ _ _ _ _ _ _ | show expX _ _ _ _ _ _ | show stepX _ _ _ _ | show keepR _ _ _ | show wpY _ _ _ _); conv => whnf) | ((with_reducible show RetN _ _ _); refine retB fun β => ?_) | ((with_reducible show _ ∧ _); first | (apply And.intro; (· intro h; exfalso; first | omega | (revert h; decide)); intro _) | (apply And.intro; rotate_left; (· intro h; exfalso; first | omega | (revert h; decide)); intro _) | (refine ⟨fun _ => ?_, fun _ => ?_⟩) | (apply And.intro; · kernel_rfl) | (apply And.intro; · (show inK _ _; unfold inK; omega)) | (apply And.intro; · (show (_ : Int) ≤ 9223372036854775807; (try simp only [List.length_append, List.length_drop, List.length_take, List.length_cons, List.length_nil]); omega))) | ((with_reducible show AllBe _); refine allBe fun βe => ?_; conv => whnf) | ((with_reducible show bothX _ _); refine bothI ?_ ?_; conv => whnf) | (with_reducible exact trivial) | ((with_reducible show CallN _ _ _ _ _ _ _ _); refine call_of env_ok rfl 1000 ?_) | ((with_reducible show XopN _ _ _ _ _ _); refine xop_of env_ok rfl 1000 ?_) | ((with_reducible show CallX _ _ _ _ _ _); first | (refine callX (.lit false) (by kernel_rfl) rfl (trivial) (fun β w hm => HH1 w) ?_) | (refine callX (.lit true) (by kernel_rfl) rfl (trivial) (fun β w hm => HH2 w) ?_) | (refine callX (.tup [.str d, .str r]) (by kernel_rfl) rfl (⟨trivial, trivial, trivial⟩) (fun β w hm => RU w) ?_)) | ((with_reducible show OpX _ _ _ _); first | fail) | ((with_reducible show ∃ _ : SV, _); first | fail) | ((with_reducible show ∃ _, _); first | (refine ⟨0, rfl, by simp, ?_⟩) | (refine ⟨1, rfl, by simp, ?_⟩)))
          all_goals first | rfl | (exfalso; omega) | (exfalso; rcases hno with h | h | h <;> first | omega | contradiction | (exact h (by assumption))) | (exfalso; simp_all; done)
      · have e1 : ExP.sgnP t = false := by rw [hsP]; exact beq_eq_false_iff_ne.2 h45
        have e2 : ExP.sgnR t = t := by rw [hsR, if_neg (by simp [h45, h43])]
        simp only [e1, e2, Bool.false_eq_true, if_false]
        have HH1 := fun w => hasOne_any (t) 45 w
        have HH2 := fun w => hasOne_any (t) 43 w
        rw [beq_eq_false_iff_ne.2 h45] at HH1
        rw [beq_eq_false_iff_ne.2 h43] at HH2
        have RU := fun w => run_any t w (by simp only [List.length_cons] at hs; omega)
        by_cases hok : ExP.expOK t = true
        · obtain ⟨o1, o2, o3, o4, o5⟩ := ExP.expOK_run hok
          have hv := ExP.val3 hok
          have AT := fun w => atoi_any t w o1 (by omega) o5
          rw [o2, o3] at RU
          rw [hok, if_pos rfl]
          generalize ExP.valS t = v at *
          refine enter env_ok Tryz.func165 rfl Tryz.results165 Tryz.ntmps165 [] [] [.str (c :: t)] (by simp [SV.oks, SV.ok]) (Nat.le_of_ble_eq_true rfl) w _ 1000 ?_
          repeat' (first | ((with_reducible first | show wpS _ _ _ _ | show putD _ _ _ _ | show putW _ _ _ _ | show splitG _ _ _ | show wpQ _ _ _ _ _ _ | show wpD _ _ _ _ _ _ _ | show wpX _ _ _ _ _ _ _ | show expX _ _ _ _ _ _ | show stepX _ _ _ _ | show keepR _ _ _ | show wpY _ _ _ _); conv => whnf) | ((with_reducible show RetN _ _ _); refine retB fun β => ?_) | ((with_reducible show _ ∧ _); first | (apply And.intro; (· intro h; exfalso; first | omega | (revert h; decide)); intro _) | (apply And.intro; rotate_left; (· intro h; exfalso; first | omega | (revert h; decide)); intro _) | (refine ⟨fun _ => ?_, fun _ => ?_⟩) | (apply And.intro; · kernel_rfl) | (apply And.intro; · (show inK _ _; unfold inK; omega)) | (apply And.intro; · (show (_ : Int) ≤ 9223372036854775807; (try simp only [List.length_append, List.length_drop, List.length_take, List.length_cons, List.length_nil]); omega))) | ((with_reducible show AllBe _); refine allBe fun βe => ?_; conv => whnf) | ((with_reducible show bothX _ _); refine bothI ?_ ?_; conv => whnf) | (with_reducible exact trivial) | ((with_reducible show CallN _ _ _ _ _ _ _ _); refine call_of env_ok rfl 1000 ?_) | ((with_reducible show XopN _ _ _ _ _ _); refine xop_of env_ok rfl 1000 ?_) | ((with_reducible show CallX _ _ _ _ _ _); first | (refine callX (.lit false) (by kernel_rfl) rfl (trivial) (fun β w hm => HH1 w) ?_) | (refine callX (.lit false) (by kernel_rfl) rfl (trivial) (fun β w hm => HH2 w) ?_) | (refine callX (.tup [.str t, .str []]) (by kernel_rfl) rfl (⟨trivial, trivial, trivial⟩) (fun β w hm => RU w) ?_) | (refine callX (.tup [.int .i64 (v : Nat), .any .nilIface]) (by kernel_rfl) rfl (⟨trivial, rfl, trivial⟩) (fun β w hm => AT w) ?_)) | ((with_reducible show OpX _ _ _ _); first | fail) | ((with_reducible show ∃ _ : SV, _); first | fail) | ((with_reducible show ∃ _, _); first | (refine ⟨0, rfl, by simp, ?_⟩) | (refine ⟨1, rfl, by simp, ?_⟩)))
          all_goals first | rfl | (exfalso; omega) | (exfalso; simp_all; done) | (simp [SV.den, SV.dens]; done)
        · have hno := ExP.expOK_not (Bool.eq_false_iff.2 hok)
          rw [Bool.eq_false_iff.2 hok, if_neg (by decide)]
          generalize ExP.runD t = d at *
          generalize ExP.runR t = r at *
          refine enter env_ok Tryz.func165 rfl Tryz.results165 Tryz.ntmps165 [] [] [.str (c :: t)] (by simp [SV.oks, SV.ok]) (Nat.le_of_ble_eq_true rfl) w _ 1000 ?_
          repeat' (first | ((with_reducible first | show wpS _ _ _ _ | show putD _ _ _ _ | show putW _ _ _ _ | show splitG _ _ _ | show wpQ _ _ _ _ _ _ | show wpD _ _ _ _ _ _ _ | show wpX _ _ _ _ _ _ _ | show expX _ _ _ _ _ _ | show stepX _ _ _ _ | show keepR _ _ _ | show wpY _ _ _ _); conv => whnf) | ((with_reducible show RetN _ _ _); refine retB fun β => ?_) | ((with_reducible show _ ∧ _); first | (apply And.intro; (· intro h; exfalso; first | omega | (revert h; decide)); intro _) | (apply And.intro; rotate_left; (· intro h; exfalso; first | omega | (revert h; decide)); intro _) | (refine ⟨fun _ => ?_, fun _ => ?_⟩) | (apply And.intro; · kernel_rfl) | (apply And.intro; · (show inK _ _; unfold inK; omega)) | (apply And.intro; · (show (_ : Int) ≤ 9223372036854775807; (try simp only [List.length_append, List.length_drop, List.length_take, List.length_cons, List.length_nil]); omega))) | ((with_reducible show AllBe _); refine allBe fun βe => ?_; conv => whnf) | ((with_reducible show bothX _ _); refine bothI ?_ ?_; conv => whnf) | (with_reducible exact trivial) | ((with_reducible show CallN _ _ _ _ _ _ _ _); refine call_of env_ok rfl 1000 ?_) | ((with_reducible show XopN _ _ _ _ _ _); refine xop_of env_ok rfl 1000 ?_) | ((with_reducible show CallX _ _ _ _ _ _); first | (refine callX (.lit false) (by kernel_rfl) rfl (trivial) (fun β w hm => HH1 w) ?_) | (refine callX (.lit false) (by kernel_rfl) rfl (trivial) (fun β w hm => HH2 w) ?_) | (refine callX (.tup [.str d, .str r]) (by kernel_rfl) rfl (⟨trivial, trivial, trivial⟩) (fun β w hm => RU w) ?_)) | ((with_reducible show OpX _ _ _ _); first | fail) | ((with_reducible show ∃ _ : SV, _); first | fail) | ((with_reducible show ∃ _, _); first | (refine ⟨0, rfl, by simp, ?_⟩) | (refine ⟨1, rfl, by simp, ?_⟩)))
          all_goals first | rfl | (exfalso; omega) | (exfalso; rcases hno with h | h | h <;> first | omega | contradiction | (exact h (by assumption))) | (exfalso; simp_all; done)
    · have hce : (c == 101 || c == 69) = false := by
        simp only [not_or] at hc
        simp [hc.1, hc.2]
      have hcn : c.toNat ≠ 101 ∧ c.toNat ≠ 69 := ⟨fun e => hc (.inl (UInt8.toNat_inj.1 e)), fun e => hc (.inr (UInt8.toNat_inj.1 e))⟩
      rw [hce, Bool.false_and] at hB
      rw [hB]
      refine enter env_ok Tryz.func165 rfl Tryz.results165 Tryz.ntmps165 [] [] [.str (c :: t)] (by simp [SV.oks, SV.ok]) (Nat.le_of_ble_eq_true rfl) w _ 1000 ?_
      repeat' (first | ((with_reducible first | show wpS _ _ _ _ | show putD _ _ _ _ | show putW _ _ _ _ | show splitG _ _ _ | show wpQ _ _ _ _ _ _ | show wpD _ _ _ _ _ _ _ | show wpX _ _ _ _ _ _ _ | show expX _ _ _ _ _ _ | show stepX _ _ _ _ | show keepR _ _ _ | show wpY _ _ _ _); conv => whnf) | ((with_reducible show RetN _ _ _); refine retB fun β => ?_) | ((with_reducible show _ ∧ _); first | (apply And.intro; (· intro h; exfalso; first | omega | (revert h; decide)); intro _) | (apply And.intro; rotate_left; (· intro h; exfalso; first | omega | (revert h; decide)); intro _) | (refine ⟨fun _ => ?_, fun _ => ?_⟩) | (apply And.intro; · kernel_rfl) | (apply And.intro; · (show inK _ _; unfold inK; omega)) | (apply And.intro; · (show (_ : Int) ≤ 9223372036854775807; (try simp only [List.length_append, List.length_drop, List.length_take, List.length_cons, List.length_nil]); omega))) | ((with_reducible show AllBe _); refine allBe fun βe => ?_; conv => whnf) | ((with_reducible show bothX _ _); refine bothI ?_ ?_; conv => whnf) | (with_reducible exact trivial) | ((with_reducible show CallN _ _ _ _ _ _ _ _); refine call_of env_ok rfl 1000 ?_) | ((with_reducible show XopN _ _ _ _ _ _); refine xop_of env_ok rfl 1000 ?_) | ((with_reducible show CallX _ _ _ _ _ _); first | fail) | ((with_reducible show OpX _ _ _ _); first | fail) | ((with_reducible show ∃ _ : SV, _); first | fail) | ((with_reducible show ∃ _, _); first | (refine ⟨0, rfl, by simp, ?_⟩)))
      all_goals first | rfl | (exfalso; omega) | (exfalso; simp_all; done)
end Go.Proofs.YtdkhkfdenlabaaaGreatDoor
namespace Go.Proofs.YtdkhkfdenlabaaaGreatDoor
open Go.RowKit
open Sym
attribute [local irreducible] Calls Sym.AggEq ExP.nd ExP.dig ExP.upd
theorem ExP.readV_ok {f : ExP.Fr} (h : ExP.readE f = 0) : ExP.readV f = ExP.readN f := if_pos h
theorem ExP.read_nd {f : ExP.Fr} (h : ExP.readE f = 0) {b : Nat} (hb : 10 ≤ b) : ExP.nd b (ExP.readN f).n ≤ 300 ∧ ExP.nd b (ExP.readN f).d ≤ 300 ∧ 0 < (ExP.readN f).d := by
  obtain ⟨h1, h2, h3, h4, h5, h6, h7⟩ := ExP.read_ok h
  exact ⟨Nat.le_trans (ExP.nd_val hb (ExP.digits_ne h1).2) h4, Nat.le_trans (ExP.nd_val hb (ExP.digits_ne h2).2) h5, h7⟩
theorem ExP.both_ok {f g : ExP.Fr} (h : ExP.bothE f g = 0) : ExP.readE f = 0 ∧ ExP.readE g = 0 := by
  unfold ExP.bothE at h
  split at h
  · exact ⟨by assumption, h⟩
  · exact absurd h (by assumption)
theorem FrIn.of {k : IntKind} {b : Nat} {m : Bool} {n d : Nat} {a a2 : Option Addr} {c c2 : Nat} {w : World} (h1 : SlAt a (nv k b n) w) (h2 : SlAt a2 (nv k b d) w) (h3 : FrCap b ⟨m, n, d, a, c, a2, c2⟩) : FrIn k b ⟨m, n, d, a, c, a2, c2⟩ w := ⟨h1, h2, h3⟩
/-- what a binary operation answers -/
def ExP.twoF (f g : ExP.Fr) (N : ExP.Num) (e : Int) : ExP.Fr := if ExP.bothE f g = 0 then (if e = 0 then ExP.writeF N else ([], [])) else ([], [])
def ExP.twoE (f g : ExP.Fr) (N : ExP.Num) (e : Int) : Int := if ExP.bothE f g = 0 then (if e = 0 then ExP.writeE N else e) else ExP.bothE f g
set_option maxRecDepth 100000 in
set_option maxHeartbeats 4000000 in
theorem two_any (fid : FuncId) (hf : entersB Tryz.prog fid = true) (f g : ExP.Fr) (N : ExP.Num) (e : Int) (w : World) (hw : XW w) (hw0 : 0 < w.heap.size) (h1 : f.1.length ≤ 9223372036854775807) (h2 : f.2.length ≤ 9223372036854775807) (h3 : g.1.length ≤ 9223372036854775807) (h4 : g.2.length ≤ 9223372036854775807)
    (HF : ExP.bothE f g = 0 → ∀ (x y : FrV) (w' : World), 0 < w'.heap.size → FrIn .u32 1000000000 x w' → FrIn .u32 1000000000 y w' → x.num = ExP.readN f → y.num = ExP.readN g → Calls Tryz.prog fid #[x.val 1000000000, y.val 1000000000] w' (FrOutE .u32 1000000000 N e w'))
    (HN : ExP.bothE f g = 0 → e = 0 → 0 < N.d ∧ ExP.nd 1000000000 N.n ≤ 1000000 ∧ ExP.nd 1000000000 N.d ≤ 1000000) :
    Calls Tryz.prog 170 #[frV f, frV g, .func (.func fid) #[] #[]] w (WrOut (ExP.twoF f g N e) (ExP.twoE f g N e) w) := by
  have R1 := fun (w' : World) (h : Below w.heap.size w w') => both_any f g w' (Nat.lt_of_lt_of_le hw0 h.size) h1 h2 h3 h4
  by_cases hE : ExP.bothE f g = 0
  · obtain ⟨hE1, hE2⟩ := ExP.both_ok hE
    have hV := ExP.readV_ok hE1
    have hY : ExP.bothY f g = ExP.readN g := by rw [ExP.bothY, if_pos hE1, ExP.readV_ok hE2]
    replace HF := HF hE
    replace HN := HN hE
    rw [ExP.twoF, ExP.twoE, if_pos hE, if_pos hE]
    rw [hE, hV, hY] at R1
    have W1 := fun (x : FrV) (w' : World) (h : Below w.heap.size w w') => write_any x w' (hw.below h) (Nat.lt_of_lt_of_le hw0 h.size)
    have HF' := fun (x y : FrV) (w' : World) (h : Below w.heap.size w w') => HF x y w' (Nat.lt_of_lt_of_le hw0 h.size)
    clear HF
    generalize ExP.readN f = V at *
    generalize ExP.readN g = Y at *
    obtain ⟨m, n, d⟩ := V
    obtain ⟨m', n', d'⟩ := Y
    obtain ⟨M, P, D⟩ := N
    dsimp only at *
    obtain ⟨f1, f2⟩ := f
    obtain ⟨g1, g2⟩ := g
    refine enter env_ok Tryz.func170 rfl Tryz.results170 Tryz.ntmps170 [] [200004] [.agg [.str f1, .str f2], .agg [.str g1, .str g2], .fn fid []] (by simp [SV.oks, SV.ok]) (Nat.le_of_ble_eq_true rfl) w _ 1000 ?_
    repeat' (first | ((with_reducible first | show wpS _ _ _ _ | show putD _ _ _ _ | show putW _ _ _ _ | show splitG _ _ _ | show wpQ _ _ _ _ _ _ | show wpD _ _ _ _ _ _ _ | show wpX _ _ _ _ _ _ _ | show expX _ _ _ _ _ _ | show stepX _ _ _ _ | show keepR _ _ _ | show wpY _ _ _ _); conv => whnf) | ((with_reducible show RetN _ _ _); refine retB fun β => ?_) | ((with_reducible show _ ∧ _); first | (apply And.intro; (· intro h; exfalso; first | omega | (revert h; decide)); intro _) | (apply And.intro; rotate_left; (· intro h; exfalso; first | omega | (revert h; decide)); intro _) | (refine ⟨fun _ => ?_, fun _ => ?_⟩) | (apply And.intro; · kernel_rfl) | (apply And.intro; · (show inK _ _; unfold inK; omega)) | (apply And.intro; · (show (_ : Int) ≤ 9223372036854775807; (try simp only [List.length_append, List.length_drop, List.length_take, List.length_cons, List.length_nil]); omega))) | ((with_reducible show AllBe _); refine allBe fun βe => ?_; conv => whnf) | ((with_reducible show bothX _ _); refine bothI ?_ ?_; conv => whnf) | (with_reducible exact trivial) | ((with_reducible show CallN _ _ _ _ _ _ _ _); refine call_of env_ok rfl 1000 ?_) | ((with_reducible show XopN _ _ _ _ _ _); refine xop_of env_ok rfl 1000 ?_) | ((with_reducible show CallX _ _ _ _ _ _); first | (refine callFrEE .u32 1000000000 ⟨m, n, d⟩ ⟨m', n', d'⟩ 0 hw0 (by kernel_rfl) rfl (fun β w' hm => R1 w' hm.below) (fun a1 c1 a2 c2 b1 e1 b2 e2 hcap hcap2 => ?_)) | (refine callFrE .u32 1000000000 ⟨M, P, D⟩ e hw0 hf rfl (fun β w' hm => HF' ⟨m, n, d, a1, c1, a2, c2⟩ ⟨m', n', d', b1, e1, b2, e2⟩ w' hm.below (FrIn.of (hm.slF 3 rfl) (hm.slF 4 rfl) hcap) (FrIn.of (hm.slF 5 rfl) (hm.slF 6 rfl) hcap2) rfl rfl) (fun a3 c3 a4 c4 hcap3 => ?_)) | (refine callX (.tup [.agg [.str (ExP.writeF ⟨M, P, D⟩).1, .str (ExP.writeF ⟨M, P, D⟩).2], .int .i64 (ExP.writeE ⟨M, P, D⟩)]) (by kernel_rfl) rfl (⟨⟨trivial, trivial, trivial⟩, trivial, trivial⟩) (fun β w hm => W1 ⟨M, P, D, a3, c3, a4, c4⟩ w hm.below (FrIn.of (hm.slF 9 rfl) (hm.slF 10 rfl) hcap3) (HN (Decidable.not_not.1 (by assumption))).1 (HN (Decidable.not_not.1 (by assumption))).2.1 (HN (Decidable.not_not.1 (by assumption))).2.2) ?_)) | ((with_reducible show OpX _ _ _ _); first | fail) | ((with_reducible show ∃ _ : SV, _); first | fail) | ((with_reducible show ∃ _, _); first | fail))
    all_goals first | (exfalso; simp_all; done) | skip
    · rename_i h0
      rw [if_neg h0, if_neg h0]; rfl
    · rename_i h0
      simp only [Decidable.not_not] at h0
      rw [if_pos h0, if_pos h0]; rfl
  · rw [ExP.twoF, ExP.twoE, if_neg hE, if_neg hE]
    generalize ExP.bothE f g = E at *
    generalize ExP.readV f = V at *
    generalize ExP.bothY f g = Y at *
    obtain ⟨m, n, d⟩ := V
    obtain ⟨m', n', d'⟩ := Y
    obtain ⟨f1, f2⟩ := f
    obtain ⟨g1, g2⟩ := g
    refine enter env_ok Tryz.func170 rfl Tryz.results170 Tryz.ntmps170 [] [200004] [.agg [.str f1, .str f2], .agg [.str g1, .str g2], .fn fid []] (by simp [SV.oks, SV.ok]) (Nat.le_of_ble_eq_true rfl) w _ 1000 ?_
    repeat' (first | ((with_reducible first | show wpS _ _ _ _ | show putD _ _ _ _ | show putW _ _ _ _ | show splitG _ _ _ | show wpQ _ _ _ _ _ _ | show wpD _ _ _ _ _ _ _ | show wpX _ _ _ _ _ _ _ | show expX _ _ _ _ _ _ | show stepX _ _ _ _ | show keepR _ _ _ | show wpY _ _ _ _); conv => whnf) | ((with_reducible show RetN _ _ _); refine retB fun β => ?_) | ((with_reducible show _ ∧ _); first | (apply And.intro; (· intro h; exfalso; first | omega | (revert h; decide)); intro _) | (apply And.intro; rotate_left; (· intro h; exfalso; first | omega | (revert h; decide)); intro _) | (refine ⟨fun _ => ?_, fun _ => ?_⟩) | (apply And.intro; · kernel_rfl) | (apply And.intro; · (show inK _ _; unfold inK; omega)) | (apply And.intro; · (show (_ : Int) ≤ 9223372036854775807; (try simp only [List.length_append, List.length_drop, List.length_take, List.length_cons, List.length_nil]); omega))) | ((with_reducible show AllBe _); refine allBe fun βe => ?_; conv => whnf) | ((with_reducible show bothX _ _); refine bothI ?_ ?_; conv => whnf) | (with_reducible exact trivial) | ((with_reducible show CallN _ _ _ _ _ _ _ _); refine call_of env_ok rfl 1000 ?_) | ((with_reducible show XopN _ _ _ _ _ _); refine xop_of env_ok rfl 1000 ?_) | ((with_reducible show CallX _ _ _ _ _ _); first | (refine callFrEE .u32 1000000000 ⟨m, n, d⟩ ⟨m', n', d'⟩ E hw0 (by kernel_rfl) rfl (fun β w' hm => R1 w' hm.below) (fun a1 c1 a2 c2 b1 e1 b2 e2 hcap hcap2 => ?_))) | ((with_reducible show OpX _ _ _ _); first | fail) | ((with_reducible show ∃ _ : SV, _); first | fail) | ((with_reducible show ∃ _, _); first | fail))
    all_goals first | rfl | (exfalso; simp_all; done)
theorem ExP.mul_nd {b : Nat} (hb : 2 ≤ b) {x y : ExP.Num} {k : Nat} (h1 : ExP.nd b x.n ≤ k) (h2 : ExP.nd b x.d ≤ k) (h3 : ExP.nd b y.n ≤ k) (h4 : ExP.nd b y.d ≤ k) (h5 : 0 < x.d) (h6 : 0 < y.d) :
    0 < (ExP.mulN x y).d ∧ ExP.nd b (ExP.mulN x y).n ≤ 2 * k + 1 ∧ ExP.nd b (ExP.mulN x y).d ≤ 2 * k + 1 := by
  have e1 := ExP.nd_mul (b := b) (x := x.n) (y := y.n) hb
  have e3 := ExP.nd_mul (b := b) (x := x.d) (y := y.d) hb
  exact ⟨Nat.mul_pos h5 h6, by dsimp only [ExP.mulN]; omega, by dsimp only [ExP.mulN]; omega⟩
theorem ExP.le_of {p : Prop} {a b : Nat} (h : p ∧ a ≤ 2 * 300 + 1 ∧ b ≤ 2 * 300 + 1) : p ∧ a ≤ 1000000 ∧ b ≤ 1000000 := ⟨h.1, by omega, by omega⟩
/-- what the quotient is made of -/
def ExP.divN (x y : ExP.Num) : ExP.Num := if y.n = 0 then ⟨false, 0, 0⟩ else ExP.mulN x (ExP.invN y)
def ExP.divE (y : ExP.Num) : Int := if y.n = 0 then 1 else 0
set_option maxRecDepth 100000 in
set_option maxHeartbeats 4000000 in
theorem div_any (f g : ExP.Fr) (w : World) (hw : XW w) (hw0 : 0 < w.heap.size) (h1 : f.1.length ≤ 9223372036854775807) (h2 : f.2.length ≤ 9223372036854775807) (h3 : g.1.length ≤ 9223372036854775807) (h4 : g.2.length ≤ 9223372036854775807) :
    Calls Tryz.prog 112 #[frV f, frV g] w (WrOut (ExP.twoF f g (ExP.divN (ExP.readN f) (ExP.readN g)) (ExP.divE (ExP.readN g))) (ExP.twoE f g (ExP.divN (ExP.readN f) (ExP.readN g)) (ExP.divE (ExP.readN g))) w) := by
  have HT := fun (w' : World) (h : Below w.heap.size w w') => two_any 171 (by kernel_rfl) f g (ExP.divN (ExP.readN f) (ExP.readN g)) (ExP.divE (ExP.readN g)) w' (hw.below h) (Nat.lt_of_lt_of_le hw0 h.size) h1 h2 h3 h4 (fun hE x y w' hw0 hx hy ex ey => by
      obtain ⟨hE1, hE2⟩ := ExP.both_ok hE
      obtain ⟨q1, q2, q3⟩ := ExP.read_nd hE1 (b := 1000000000) (by omega)
      obtain ⟨q4, q5, q6⟩ := ExP.read_nd hE2 (b := 1000000000) (by omega)
      rw [← ex] at q1 q2 q3
      rw [← ey] at q4 q5 q6
      rw [← ex, ← ey]
      by_cases h0 : y.num.n = 0
      · rw [ExP.divN, ExP.divE, if_pos h0, if_pos h0]
        exact div1_zero x y w' hw0 hx hy h0 (by simp only [FrV.num] at q1; omega) (by simp only [FrV.num] at q2; omega) (by simp only [FrV.num] at q4; omega) (by simp only [FrV.num] at q5; omega)
      · rw [ExP.divN, ExP.divE, if_neg h0, if_neg h0]
        exact div1_any x y w' hw0 hx hy h0 (by simp only [FrV.num] at q1; omega) (by simp only [FrV.num] at q2; omega) (by simp only [FrV.num] at q4; omega) (by simp only [FrV.num] at q5; omega)) (fun hE he => by
      obtain ⟨hE1, hE2⟩ := ExP.both_ok hE
      obtain ⟨q1, q2, q3⟩ := ExP.read_nd hE1 (b := 1000000000) (by omega)
      obtain ⟨q4, q5, q6⟩ := ExP.read_nd hE2 (b := 1000000000) (by omega)
      exact by
        unfold ExP.divE at he
        split at he
        · cases he
        rename_i h0
        rw [ExP.divN, if_neg h0]
        exact ExP.le_of (ExP.mul_nd (by omega) q1 q2 q5 q4 q3 (Nat.pos_of_ne_zero h0)))
  generalize ExP.twoF f g (ExP.divN (ExP.readN f) (ExP.readN g)) (ExP.divE (ExP.readN g)) = F at *
  generalize ExP.twoE f g (ExP.divN (ExP.readN f) (ExP.readN g)) (ExP.divE (ExP.readN g)) = E at *
  obtain ⟨F1, F2⟩ := F
  obtain ⟨f1, f2⟩ := f
  obtain ⟨g1, g2⟩ := g
  refine enter env_ok Tryz.func112 rfl Tryz.results112 Tryz.ntmps112 [] [] [.agg [.str f1, .str f2], .agg [.str g1, .str g2]] (by simp [SV.oks, SV.ok]) (Nat.le_of_ble_eq_true rfl) w _ 1000 ?_
  repeat' (first | ((with_reducible first | show wpS _ _ _ _ | show putD _ _ _ _ | show putW _ _ _ _ | show splitG _ _ _ | show wpQ _ _ _ _ _ _ | show wpD _ _ _ _ _ _ _ | show wpX _ _ _ _ _ _ _ | show expX _ _ _ _ _ _ | show stepX _ _ _ _ | show keepR _ _ _ | show wpY _ _ _ _); conv => whnf) | ((with_reducible show RetN _ _ _); refine retB fun β => ?_) | ((with_reducible show _ ∧ _); first | (apply And.intro; (· intro h; exfalso; first | omega | (revert h; decide)); intro _) | (apply And.intro; rotate_left; (· intro h; exfalso; first | omega | (revert h; decide)); intro _) | (refine ⟨fun _ => ?_, fun _ => ?_⟩) | (apply And.intro; · kernel_rfl) | (apply And.intro; · (show inK _ _; unfold inK; omega)) | (apply And.intro; · (show (_ : Int) ≤ 9223372036854775807; (try simp only [List.length_append, List.length_drop, List.length_take, List.length_cons, List.length_nil]); omega))) | ((with_reducible show AllBe _); refine allBe fun βe => ?_; conv => whnf) | ((with_reducible show bothX _ _); refine bothI ?_ ?_; conv => whnf) | (with_reducible exact trivial) | ((with_reducible show CallN _ _ _ _ _ _ _ _); refine call_of env_ok rfl 1000 ?_) | ((with_reducible show XopN _ _ _ _ _ _); refine xop_of env_ok rfl 1000 ?_) | ((with_reducible show CallX _ _ _ _ _ _); first | (refine callX (.tup [.agg [.str F1, .str F2], .int .i64 E]) (by kernel_rfl) rfl (⟨⟨trivial, trivial, trivial⟩, trivial, trivial⟩) (fun β w hm => HT w hm.below) ?_)) | ((with_reducible show OpX _ _ _ _); first | fail) | ((with_reducible show ∃ _ : SV, _); first | fail) | ((with_reducible show ∃ _, _); first | fail))
  all_goals rfl
end Go.Proofs.YtdkhkfdenlabaaaGreatDoor
namespace Go.Proofs.YtdkhkfdenlabaaaGreatDoor
open Go.RowKit
open Sym
attribute [local irreducible] Calls Sym.AggEq ExP.nd ExP.dig ExP.upd
/-- the sign of a number -/
def ExP.sgn (x : ExP.Num) : Int := if x.n = 0 then 0 else if x.m = true then -1 else 1
end Go.Proofs.YtdkhkfdenlabaaaGreatDoor
namespace Go.Proofs.YtdkhkfdenlabaaaGreatDoor
open Go.RowKit
open Sym
attribute [local irreducible] Calls Sym.AggEq ExP.nd ExP.dig ExP.upd
structure GcI (M : Nat) (t : CmT) : Prop where
  hu : t.u ≤ M
  hv : t.v ≤ M
  ha : t.a = none → t.c = 0
  hc : ExP.nd 10 t.u ≤ t.c
  hb : t.b = none → t.d = 0
  hd : ExP.nd 10 t.v ≤ t.d
end Go.Proofs.YtdkhkfdenlabaaaGreatDoor
namespace Go.Proofs.YtdkhkfdenlabaaaGreatDoor
open Go.RowKit
open Sym
attribute [local irreducible] Calls Sym.AggEq ExP.nd ExP.dig ExP.upd
end Go.Proofs.YtdkhkfdenlabaaaGreatDoor
namespace Go.Proofs.YtdkhkfdenlabaaaGreatDoor
open Go.RowKit
open Sym
attribute [local irreducible] Calls Sym.AggEq ExP.nd ExP.dig ExP.upd
end Go.Proofs.YtdkhkfdenlabaaaGreatDoor
namespace Go.Proofs.YtdkhkfdenlabaaaGreatDoor
open Go.RowKit
open Sym
attribute [local irreducible] Calls Sym.AggEq ExP.nd ExP.dig ExP.upd
end Go.Proofs.YtdkhkfdenlabaaaGreatDoor
namespace Go.Proofs.YtdkhkfdenlabaaaGreatDoor
open Go.RowKit
theorem eqF_cons {P : Program} {w : World} {d : Nat} {xs ys : Array Value} {f : Field} {fs : List Field} {r r2 : Bool} (a b : Value) (hn : f.name ≠ "_") (ha : (part f.type xs f.offset).run P w = .ok a w) (hb : (part f.type ys f.offset).run P w = .ok b w)
    (he : (Op.equalIn d f.type a b).run P w = .ok r w) (hr : (Op.eqFields d xs ys fs).run P w = .ok r2 w) : (Op.eqFields d xs ys (f :: fs)).run P w = .ok (r && r2) w := by
  unfold Op.eqFields
  rw [if_pos hn]
  simp only [Sem.run_bind, ha, hb, he, Result.andThen_ok]
  cases r
  · simp
  · simp [hr]
theorem eqF_nil {P : Program} {w : World} {d : Nat} {xs ys : Array Value} : (Op.eqFields d xs ys []).run P w = .ok true w := rfl
/-- two cells of one kind -/
def ceq : Value → Value → Bool
  | .int _ a, .int _ b => a == b
  | .bool a, .bool b => a == b
  | .string a, .string b => a.toList == b.toList
  | _, _ => false
def ceqs : List Value → List Value → Bool
  | a :: ra, b :: rb => ceq a b && ceqs ra rb
  | _, _ => true
inductive CK where
  | int (k : IntKind)
  | bool
  | str
def ckOf : Value → Option CK
  | .int k _ => some (.int k)
  | .bool _ => some .bool
  | .string _ => some .str
  | _ => none
def CK.fits (P : Program) (t : TypeId) : CK → Prop
  | .int k => P.underlying t = some (.int k)
  | .bool => P.underlying t = some .bool
  | .str => P.underlying t = some .string
def Flat (P : Program) : List Field → List CK → Nat → Prop
  | [], [], _ => True
  | f :: fs, k :: ks, i => f.name ≠ "_" ∧ f.offset = i ∧ P.plainKey f.type = true ∧ k.fits P f.type ∧ Flat P fs ks (i + 1)
  | _, _, _ => False
def CK.ok (P : Program) (t : TypeId) (k : CK) : Bool := match k, P.underlying t with
  | .int k, some (.int k') => decide (k = k')
  | .bool, some .bool => true
  | .str, some .string => true
  | _, _ => false
theorem CK.ok_fits {P : Program} {t : TypeId} {k : CK} (h : k.ok P t = true) : k.fits P t := by
  unfold CK.ok at h
  split at h
  · rename_i e; have := of_decide_eq_true h; subst this; exact e
  · rename_i e; exact e
  · rename_i e; exact e
  · cases h
def flatB (P : Program) : List Field → List CK → Nat → Bool
  | [], [], _ => true
  | f :: fs, k :: ks, i => f.name != "_" && (f.offset == i && (P.plainKey f.type && (k.ok P f.type && flatB P fs ks (i + 1))))
  | _, _, _ => false
theorem flat_of {P : Program} : ∀ (fs : List Field) (ks : List CK) (i : Nat), flatB P fs ks i = true → Flat P fs ks i
  | [], [], _, _ => trivial
  | f :: fs, k :: ks, i, h => by
    simp only [flatB, Bool.and_eq_true, bne_iff_ne, beq_iff_eq] at h
    exact ⟨h.1, h.2.1, h.2.2.1, CK.ok_fits h.2.2.2.1, flat_of fs ks (i + 1) h.2.2.2.2⟩
  | [], _ :: _, _, h => by cases h
  | _ :: _, [], _, h => by cases h
theorem ceq_run {P : Program} {w : World} {d : Nat} {t : TypeId} {k : CK} {a b : Value} (h : k.fits P t) (ha : ckOf a = some k) (hb : ckOf b = some k) : (Op.equalIn (d + 1) t a b).run P w = .ok (ceq a b) w := by
  cases a <;> simp only [ckOf] at ha <;> cases b <;> simp only [ckOf] at hb <;> first | (cases ha; done) | (cases hb; done) | skip
  all_goals (injection ha with ha; injection hb with hb; subst ha)
  all_goals (try (cases hb; done))
  · exact run_equalIn_bool' w d t _ _ h
  · injection hb with hb; subst hb; exact run_equalIn_int w d t _ _ _ _ h
  · exact run_equalIn_string w d t _ _ h
theorem flat_eq {P : Program} {w : World} {d : Nat} {xs ys : Array Value} : ∀ (fs : List Field) (ks : List CK) (i : Nat), Flat P fs ks i → (xs.toList.drop i).map ckOf = ks.map some → (ys.toList.drop i).map ckOf = ks.map some →
    (Op.eqFields (d + 1) xs ys fs).run P w = .ok (ceqs (xs.toList.drop i) (ys.toList.drop i)) w
  | [], [], i, _, hx, hy => by
    have h1 : xs.toList.drop i = [] := by simpa using hx
    rw [h1]; exact eqF_nil
  | f :: fs, k :: ks, i, hf, hx, hy => by
    obtain ⟨h1, h2, h3, h4, h5⟩ := hf
    cases ex : xs.toList.drop i with
    | nil => rw [ex] at hx; simp at hx
    | cons a ra =>
      cases ey : ys.toList.drop i with
      | nil => rw [ey] at hy; simp at hy
      | cons b rb =>
        rw [ex] at hx; rw [ey] at hy
        simp only [List.map_cons, List.cons.injEq] at hx hy
        have dx : xs.toList.drop (i + 1) = ra := by rw [← List.drop_drop, ex]; rfl
        have dy : ys.toList.drop (i + 1) = rb := by rw [← List.drop_drop, ey]; rfl
        have gx : xs[i]? = some a := by rw [← Array.getElem?_toList, ← List.head?_drop, ex]; rfl
        have gy : ys[i]? = some b := by rw [← Array.getElem?_toList, ← List.head?_drop, ey]; rfl
        have ih := flat_eq (w := w) (d := d) (xs := xs) (ys := ys) fs ks (i + 1) h5 (by rw [dx]; exact hx.2) (by rw [dy]; exact hy.2)
        rw [dx, dy] at ih
        exact eqF_cons a b h1 (by rw [h2]; exact run_part_plain w h3 gx) (by rw [h2]; exact run_part_plain w h3 gy) (ceq_run h4 hx.1 hy.1) ih
  | [], _ :: _, _, hf, _, _ => hf.elim
  | _ :: _, [], _, hf, _, _ => hf.elim
theorem agg_eq {P : Program} (w : World) (t : TypeId) (xs ys : Array Value) (ks : List CK) (ht : P.underlying t = some (.struct (P.fieldsOf t))) (hp : P.stoodInHeld t = false) (hf : Flat P (P.fieldsOf t).toList ks 0) (hx : xs.toList.map ckOf = ks.map some) (hy : ys.toList.map ckOf = ks.map some) :
    (Op.equalIn 10000 t (.agg xs) (.agg ys)).run P w = .ok (ceqs xs.toList ys.toList) w := by
  rw [run_equalIn_agg w 9999 t xs ys ht hp]
  exact flat_eq (d := 9998) _ ks 0 hf hx hy
end Go.Proofs.YtdkhkfdenlabaaaGreatDoor
namespace Go.Proofs.YtdkhkfdenlabaaaGreatDoor
open Go.RowKit
open Sym
attribute [local irreducible] Calls Sym.AggEq ExP.nd ExP.dig ExP.upd
end Go.Proofs.YtdkhkfdenlabaaaGreatDoor
