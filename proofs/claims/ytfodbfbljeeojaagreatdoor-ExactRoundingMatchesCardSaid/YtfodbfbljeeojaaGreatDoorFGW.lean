/- Rounding: the reference's Places. DERIVED: THE SHELF's CONTRACTS AT THIS DUMP, IN PLAIN WORDS (tools/lay-plain.mjs out of 'YtfodbfbljeeojaaGreatDoorShelf4.lean', which tools/lay-shelf.mjs wrote): THE SAME DECLARATIONS UNDER THE SAME NAMES: 'import', 'namespace', 'open', 'def', 'theorem' AND NOTHING ELSE: no command of the shelf's: FOR A HAND-IN. Each laying: the table of numbers ('.._ren') and one theorem, a field a fact of the dump's own or the kernel's comparison; each contract: ONE APPLICATION. -/
import Derived.Test.YtfodbfbljeeojaaGreatDoorFGV
import Derived.Test.YtfodbfbljeeojaaGreatDoorFGQ
import Derived.Test.YtfodbfbljeeojaaGreatDoorFExR4
import Derived.Shelf.LaysM
import Derived.Shelf.LaysC
import Derived.Shelf.Strconv.AtoiAll
import Derived.Test.YtfodbfbljeeojaaGreatDoorProg
set_option linter.unusedSimpArgs false
set_option linter.unusedVariables false
namespace Go.Proofs.YtfodbfbljeeojaaGreatDoor
open Go.RowKit
open Sym
attribute [local irreducible] Calls Sym.AggEq ExP.nd ExP.dig ExP.upd
namespace ExP
/-- a fraction in lowest terms is written as it is -/
theorem write_red {x : Num} (hd : 0 < x.d) (h1 : nd 10 x.n ≤ 300) (h2 : nd 10 x.d ≤ 300) (hg : Nat.gcd x.n x.d = 1) (hm : x.m = true → x.n ≠ 0) : writeE x = 0 ∧ writeF x = (signP x.m (Lib.decDigits x.n), Lib.decDigits x.d) := by
  by_cases hn : x.n = 0
  · rw [writeE, writeF, if_pos hn, if_pos hn]
    have hd1 : x.d = 1 := by rw [hn, Nat.gcd_zero_left] at hg; exact hg
    have hm0 : x.m = false := Bool.eq_false_iff.2 fun h => hm h hn
    rw [hn, hd1, hm0, Lib.decDigits_one (by omega), Lib.decDigits_one (by omega)]
    exact ⟨rfl, rfl⟩
  · have h3 := dec_len h1 (by omega)
    have h4 := dec_len h2 (by omega)
    have ho : ¬ overP x := by unfold overP redN redD; rw [hg, Nat.div_one, Nat.div_one]; omega
    rw [writeE, writeF, if_neg hn, if_neg hn, if_neg ho, if_neg ho]
    unfold redN redD
    rw [hg, Nat.div_one, Nat.div_one]
    exact ⟨rfl, rfl⟩
end ExP
structure PcT where
  d : Nat
  a : Option Addr
  c : Nat
  k : Nat
structure PcI (j : Nat → Nat) (A : Nat) (t : PcT) : Prop where
  le : t.k ≤ A
  ed : t.d = j t.k
  an : t.a = none → t.c = 0
  cn : ExP.nd 10 t.d ≤ t.c
set_option maxRecDepth 100000 in
set_option maxHeartbeats 4000000 in
theorem rplaces_any (x : FrV) (w : World) (hw0 : 0 < w.heap.size) (hx : FrIn .i64 10 x w) (hd : 0 < x.d) (hxn : ExP.nd 10 x.n ≤ 300) (hxd : ExP.nd 10 x.d ≤ 300) (hg : Nat.gcd x.n x.d = 1) (hxm : x.m = true → x.n ≠ 0)
    (r a b : Nat) (hr : ExP.PlR r) (hdr : x.d = 2 ^ a * (5 ^ b * r)) :
    Calls Tryz.prog 44 #[x.val 10] w fun e w' => e = .returned (.int .i64 (if r = 1 then ((max a b : Nat) : Int) else -1)) ∧ Below w.heap.size w w' := by
  have R1 := fun (w' : World) (h : Below w.heap.size w w') => rfrac_any x w' (Nat.lt_of_lt_of_le hw0 h.size) (hx.below h) hd (by omega) (by omega)
  obtain ⟨e1, e2⟩ := ExP.write_red (x := x.num) hd hxn hxd hg hxm
  rw [e1, e2] at R1
  obtain ⟨i0, hi, hz0, hz1, hz2⟩ := info_parts intInfo
  have hu := Tryz.underlying34
  have hsz := fun w => Tryz.sizeOf3 w
  have hzv := fun w => Tryz.zeroValue3 w
  have hn5 : ExP.nd 10 5 = 1 := ExP.nd_eq (by omega) (by omega) (.inr (by omega))
  have hv5 : nv .i64 10 5 = [.int .i64 5] := by unfold nv ExP.dg; rw [hn5, ExP.dig_self (by omega)]; rfl
  have hlen := ExP.dec_len hxd (by omega)
  have N1 := fun w' => natOf_any (Lib.decDigits x.d) w' (by omega) (ExP.dec_digits _)
  rw [ExP.val_dec] at N1
  obtain ⟨m, n, d, xa, xc, xb, xe⟩ := x
  dsimp only [FrV.num, FrV.val] at *
  have hr0 : 0 < r := Nat.pos_of_ne_zero fun h => hr.two (by rw [h])
  have hM : max a b ≤ 4 * 300 := by
    have h3 := ExP.lt_pow_mono (b := 10) (by omega) (ExP.nd_lt (by omega) d) hxd
    rw [hdr] at h3
    exact ExP.pl_le h3 hr0
  have hposn : ∀ z, 0 < z → 0 < ExP.nd 10 z := fun z h => (ExP.nd_pos (by omega)).2 h
  have hpre : ∀ z, 0 < z → (nv .i64 10 z)[0]? = some (.int .i64 ((z % 10 : Nat) : Int)) := fun z h => by rw [nv_get (hposn z h), ExP.dig0]
  have hsome : ∀ (q : Option Addr) (qc z : Nat), 0 < z → (q = none → qc = 0) → ExP.nd 10 z ≤ qc → ∃ ad, q = some ad := fun q qc z hz hq hqc => by
    cases q with
    | none => have := hposn z hz; have := hq rfl; omega
    | some ad => exact ⟨ad, rfl⟩
  have hQ2 : ∀ k, (2 ^ k * (5 ^ b * r)) % 2 = 0 ↔ 0 < k := fun k => ExP.pl_two hr
  have hQ5 : ∀ k, (5 ^ k * r) % 5 = 0 ↔ 0 < k := fun k => by have := ExP.pl_five (a := 0) (b := k) hr; rwa [Nat.pow_zero, Nat.one_mul] at this
  have hS2 : ∀ k, 2 ^ (k + 1) * (5 ^ b * r) = 2 * (2 ^ k * (5 ^ b * r)) := fun k => by rw [Nat.pow_succ, Nat.mul_comm (2 ^ k) 2, Nat.mul_assoc]
  have hS5 : ∀ k, 5 ^ (k + 1) * r = 5 * (5 ^ k * r) := fun k => by rw [Nat.pow_succ, Nat.mul_comm (5 ^ k) 5, Nat.mul_assoc]
  have hD0 : ∀ k, k ≤ a → 0 < 2 ^ (a - k) * (5 ^ b * r) ∧ 2 ^ (a - k) * (5 ^ b * r) ≤ d := fun k hk => by
    have h5 : 0 < 5 ^ b * r := Nat.mul_pos (Nat.pow_pos (by omega)) hr0
    refine ⟨Nat.mul_pos (Nat.pow_pos (by omega)) h5, ?_⟩
    rw [hdr]
    exact Nat.mul_le_mul_right _ (Nat.pow_le_pow_right (by omega) (by omega))
  have hF0 : ∀ k, k ≤ b → 0 < 5 ^ (b - k) * r ∧ 5 ^ (b - k) * r ≤ d := fun k hk => by
    have h5 := (hD0 a (Nat.le_refl _)).2
    rw [Nat.sub_self, Nat.pow_zero, Nat.one_mul] at h5
    refine ⟨Nat.mul_pos (Nat.pow_pos (by omega)) hr0, Nat.le_trans (Nat.mul_le_mul_right _ (Nat.pow_le_pow_right (by omega) (by omega))) h5⟩
  have hxe : 2 ^ (a - 0) * (5 ^ b * r) = d := hdr.symm
  have hfe : 2 ^ (a - a) * (5 ^ b * r) = 5 ^ (b - 0) * r := by rw [Nat.sub_self, Nat.pow_zero, Nat.one_mul, Nat.sub_zero]
  have hre : 5 ^ (b - b) * r = r := by rw [Nat.sub_self, Nat.pow_zero, Nat.one_mul]
  have hD2 : ∀ k, k < a → (2 ^ (a - k) * (5 ^ b * r)) / 2 = 2 ^ (a - (k + 1)) * (5 ^ b * r) ∧ (2 ^ (a - k) * (5 ^ b * r)) % 2 = 0 := fun k hk => by
    have h := hS2 (a - (k + 1))
    rw [show a - (k + 1) + 1 = a - k by omega] at h
    rw [h]; omega
  have hD1 : (2 ^ (a - a) * (5 ^ b * r)) % 2 ≠ 0 := fun h => by have := (hQ2 _).1 h; omega
  have hF2 : ∀ k, k < b → (5 ^ (b - k) * r) / 5 = 5 ^ (b - (k + 1)) * r ∧ (5 ^ (b - k) * r) % 5 = 0 := fun k hk => by
    have h := hS5 (b - (k + 1))
    rw [show b - (k + 1) + 1 = b - k by omega] at h
    rw [h]; omega
  have hF1 : (5 ^ (b - b) * r) % 5 ≠ 0 := fun h => by have := (hQ5 _).1 h; omega
  generalize hDj : (fun k => 2 ^ (a - k) * (5 ^ b * r)) = Dj at *
  have eD : ∀ k, 2 ^ (a - k) * (5 ^ b * r) = Dj k := fun k => by rw [← hDj]
  simp only [eD] at hD0 hD2 hD1 hxe hfe
  generalize hFj : (fun k => 5 ^ (b - k) * r) = Fj at *
  have eF : ∀ k, 5 ^ (b - k) * r = Fj k := fun k => by rw [← hFj]
  simp only [eF] at hF0 hF2 hF1 hfe hre
  clear eD eF hDj hFj hS2 hS5 hQ2 hQ5
  refine enter env_ok Tryz.func44 rfl Tryz.results44 Tryz.ntmps44 [] [] [.agg [.bool m, .any (.slice xa (ExP.nd 10 n) xc), .any (.slice xb (ExP.nd 10 d) xe)]] ⟨⟨trivial, rfl, rfl, trivial⟩, trivial⟩ (Nat.le_of_ble_eq_true rfl) w _ 1000 ?_
  repeat' (first | ((with_reducible first | show wpS _ _ _ _ | show putD _ _ _ _ | show putW _ _ _ _ | show splitG _ _ _ | show wpQ _ _ _ _ _ _ | show wpD _ _ _ _ _ _ _ | show wpX _ _ _ _ _ _ _ | show expX _ _ _ _ _ _ | show stepX _ _ _ _ | show keepR _ _ _ | show wpY _ _ _ _); conv => whnf) | ((with_reducible show RetN _ _ _); refine retB fun β => ?_) | ((with_reducible show _ ∧ _); first | (apply And.intro; (· intro h; exfalso; first | omega | (revert h; decide)); intro _) | (apply And.intro; rotate_left; (· intro h; exfalso; first | omega | (revert h; decide)); intro _) | (refine ⟨fun _ => ?_, fun _ => ?_⟩) | (apply And.intro; · kernel_rfl) | (apply And.intro; · (show inK _ _; unfold inK; omega)) | (apply And.intro; · (show (_ : Int) ≤ 9223372036854775807; (try simp only [List.length_append, List.length_drop, List.length_take, List.length_cons, List.length_nil]); omega))) | ((with_reducible show AllBe _); refine allBe fun βe => ?_; conv => whnf) | ((with_reducible show bothX _ _); refine bothI ?_ ?_; conv => whnf) | (with_reducible exact trivial) | ((with_reducible show CallN _ _ _ _ _ _ _ _); refine call_of env_ok rfl 1000 ?_) | ((with_reducible show XopN _ _ _ _ _ _); refine xop_of env_ok rfl 1000 ?_) | ((with_reducible show CallX _ _ _ _ _ _); first | (refine callX (.tup [.agg [.str (ExP.signP m (Lib.decDigits n)), .str (Lib.decDigits d)], .int .i64 0]) (by kernel_rfl) rfl (⟨⟨trivial, trivial, trivial⟩, trivial, trivial⟩) (fun β w hm => R1 w hm.below) ?_) | (refine callNat .i64 10 d hw0 (by kernel_rfl) rfl (fun β w' hm => N1 w') (fun a1 c1 q1 q2 q3 => ?_))) | ((with_reducible show OpX _ _ _ _); first | fail) | ((with_reducible show ∃ _ : SV, _); first | fail) | ((with_reducible show ∃ _, _); first | fail))
  all_goals first | (exfalso; omega) | skip
  refine loop env_ok rfl (T := {t : PcT // PcI Dj a t}) (fun t => ⟨[(5, .any (.slice t.1.a (ExP.nd 10 t.1.d) t.1.c)), (6, .int .i64 (t.1.k : Nat)), (7, .int .i64 0)], [(2, false, .blob (SlF w.heap.size t.1.a (nv .i64 10 t.1.d)))], 3, 47⟩) (fun t => a - t.1.k) ⟨⟨d, a1, c1, 0⟩, ⟨Nat.zero_le _, hxe.symm, q1, q2⟩⟩ 1000 [] [] (fun _ => by exact Nat.zero_le _) (by dsimp only; ((with_reducible show wk _ _); repeat' (first | exact trivial | exact eqSV_refl _ | (refine eqI ?_) | (refine eqS ?_) | (with_reducible exact rfl) | apply And.intro | exact Nat.zero_lt_one | exact Nat.le_of_ble_eq_true rfl | (with_reducible assumption) | ((show (_ : Int) = _); (try dsimp only); omega) | ((show eqSV _ _); simp [eqSV, isB, bval, *]; done) | rfl)); all_goals exact fun b x h => h) (fun t I hI => ?_)
  obtain ⟨⟨D, sa, sc, k⟩, hk, hDk, hsa, hsc⟩ := t
  dsimp only at hk hDk hsa hsc ⊢
  obtain ⟨hD00, hDd⟩ := hD0 k hk
  rw [← hDk] at hD00 hDd
  have hDn := ExP.nd_mono (b := 10) (by omega) hDd
  have hDp := hposn D hD00
  obtain ⟨ad, rfl⟩ := hsome sa sc D hD00 hsa hsc
  by_cases hka : k < a
  · obtain ⟨g1, g2⟩ := hD2 k hka
    rw [← hDk] at g1 g2
    have HF := fun (w' : World) hs => half_any (some ad) sc D w' (by omega) hs
    rw [g1] at HF
    have hev : ((D % 10 : Nat) : Int) % 2 = 0 := by omega
    repeat' (first | ((with_reducible first | show wpS _ _ _ _ | show putD _ _ _ _ | show putW _ _ _ _ | show splitG _ _ _ | show wpQ _ _ _ _ _ _ | show wpD _ _ _ _ _ _ _ | show wpX _ _ _ _ _ _ _ | show expX _ _ _ _ _ _ | show stepX _ _ _ _ | show keepR _ _ _ | show wpY _ _ _ _); conv => whnf) | ((with_reducible show RetN _ _ _); refine retB fun β => ?_) | ((with_reducible show _ ∧ _); first | (apply And.intro; (· intro h; exfalso; first | omega | (revert h; decide)); intro _) | (apply And.intro; rotate_left; (· intro h; exfalso; first | omega | (revert h; decide)); intro _) | (refine ⟨fun _ => ?_, fun _ => ?_⟩) | (apply And.intro; · kernel_rfl) | (apply And.intro; · (show inK _ _; unfold inK; omega)) | (apply And.intro; · (show (_ : Int) ≤ 9223372036854775807; (try simp only [List.length_append, List.length_drop, List.length_take, List.length_cons, List.length_nil]); omega))) | ((with_reducible show AllBe _); refine allBe fun βe => ?_; conv => whnf) | ((with_reducible show bothX _ _); refine bothI ?_ ?_; conv => whnf) | (with_reducible exact trivial) | ((with_reducible show CallN _ _ _ _ _ _ _ _); refine call_of env_ok rfl 1000 ?_) | ((with_reducible show XopN _ _ _ _ _ _); refine xop_of env_ok rfl 1000 ?_) | ((with_reducible show CallX _ _ _ _ _ _); first | (refine callNat .i64 10 (Dj (k + 1)) hw0 (by kernel_rfl) rfl (fun β w' hm => HF w' (hm.slF 2 rfl)) (fun ua uc h1 h2 h3 => ?_))) | ((with_reducible show OpX _ _ _ _); first | fail) | ((with_reducible show ∃ _ : SV, _); first | (refine ⟨_, ?ok, x_len Tryz.underlying34, ?_⟩; (case ok => exact fun _ _ => trivial)) | (refine ⟨_, ?ok, x_index (j := 0) (by omega) Tryz.underlying34 (fun w => Tryz.sizeOf3 w) (by omega), ?_⟩; (case ok => exact fun _ _ => rfl)) | (refine ⟨_, ?ok, x_rem (by omega) (by omega), ?_⟩; (case ok => exact fun _ _ => trivial)) | (refine ⟨.int .i64 ((D % 10 : Nat) : Int), fun _ _ => trivial, x_loadF 2 (.int .i64 ((D % 10 : Nat) : Int)) (fun w => Tryz.isAgg3 w) rfl (fun β => by rw [Nat.zero_mul]; exact hpre D hD00), ?_⟩)) | ((with_reducible show ∃ _, _); first | fail))
    all_goals first | (exfalso; omega) | skip
    all_goals refine back_copy (Φ := SlF w.heap.size ua (nv .i64 10 (Dj (k + 1)))) 2 3 rfl rfl rfl (by exact Nat.zero_le _) (by kernel_rfl) ?_
    all_goals exact hI _ ⟨⟨Dj (k + 1), ua, uc, k + 1⟩, ⟨by dsimp only; omega, rfl, h1, h2⟩⟩ (by dsimp only; omega) (by dsimp only; ((with_reducible show wk _ _); repeat' (first | exact trivial | exact eqSV_refl _ | (refine eqI ?_) | (refine eqS ?_) | (with_reducible exact rfl) | apply And.intro | exact Nat.zero_lt_one | exact Nat.le_of_ble_eq_true rfl | (with_reducible assumption) | ((show (_ : Int) = _); (try dsimp only); omega) | ((show eqSV _ _); simp [eqSV, isB, bval, *]; done) | rfl)); all_goals exact fun b x h => h)
  · obtain rfl : k = a := by omega
    have hod : ¬ ((D % 10 : Nat) : Int) % 2 = 0 := by rw [← hDk] at hD1; omega
    repeat' (first | ((with_reducible first | show wpS _ _ _ _ | show putD _ _ _ _ | show putW _ _ _ _ | show splitG _ _ _ | show wpQ _ _ _ _ _ _ | show wpD _ _ _ _ _ _ _ | show wpX _ _ _ _ _ _ _ | show expX _ _ _ _ _ _ | show stepX _ _ _ _ | show keepR _ _ _ | show wpY _ _ _ _); conv => whnf) | ((with_reducible show RetN _ _ _); refine retB fun β => ?_) | ((with_reducible show _ ∧ _); first | (apply And.intro; (· intro h; exfalso; first | omega | (revert h; decide)); intro _) | (apply And.intro; rotate_left; (· intro h; exfalso; first | omega | (revert h; decide)); intro _) | (refine ⟨fun _ => ?_, fun _ => ?_⟩) | (apply And.intro; · kernel_rfl) | (apply And.intro; · (show inK _ _; unfold inK; omega)) | (apply And.intro; · (show (_ : Int) ≤ 9223372036854775807; (try simp only [List.length_append, List.length_drop, List.length_take, List.length_cons, List.length_nil]); omega))) | ((with_reducible show AllBe _); refine allBe fun βe => ?_; conv => whnf) | ((with_reducible show bothX _ _); refine bothI ?_ ?_; conv => whnf) | (with_reducible exact trivial) | ((with_reducible show CallN _ _ _ _ _ _ _ _); refine call_of env_ok rfl 1000 ?_) | ((with_reducible show XopN _ _ _ _ _ _); refine xop_of env_ok rfl 1000 ?_) | ((with_reducible show CallX _ _ _ _ _ _); first | fail) | ((with_reducible show OpX _ _ _ _); first | fail) | ((with_reducible show ∃ _ : SV, _); first | (refine ⟨_, ?ok, x_len Tryz.underlying34, ?_⟩; (case ok => exact fun _ _ => trivial)) | (refine ⟨_, ?ok, x_index (j := 0) (by omega) Tryz.underlying34 (fun w => Tryz.sizeOf3 w) (by omega), ?_⟩; (case ok => exact fun _ _ => rfl)) | (refine ⟨_, ?ok, x_rem (by omega) (by omega), ?_⟩; (case ok => exact fun _ _ => trivial)) | (refine ⟨.int .i64 ((D % 10 : Nat) : Int), fun _ _ => trivial, x_loadF 2 (.int .i64 ((D % 10 : Nat) : Int)) (fun w => Tryz.isAgg3 w) rfl (fun β => by rw [Nat.zero_mul]; exact hpre D hD00), ?_⟩)) | ((with_reducible show ∃ _, _); first | fail))
    all_goals first | (exfalso; omega) | skip
    refine loop env_ok rfl (T := {t : PcT // PcI Fj b t}) (fun t => ⟨[(5, .any (.slice t.1.a (ExP.nd 10 t.1.d) t.1.c)), (6, .int .i64 (k : Nat)), (7, .int .i64 (t.1.k : Nat))], [(2, false, .blob (SlF w.heap.size t.1.a (nv .i64 10 t.1.d)))], 3, 47⟩) (fun t => b - t.1.k) ⟨⟨D, some ad, sc, 0⟩, ⟨Nat.zero_le _, by dsimp only; rw [hDk, hfe], hsa, hsc⟩⟩ 1000 [] [] (fun _ => by exact Nat.zero_le _) (by dsimp only; ((with_reducible show wk _ _); repeat' (first | exact trivial | exact eqSV_refl _ | (refine eqI ?_) | (refine eqS ?_) | (with_reducible exact rfl) | apply And.intro | exact Nat.zero_lt_one | exact Nat.le_of_ble_eq_true rfl | (with_reducible assumption) | ((show (_ : Int) = _); (try dsimp only); omega) | ((show eqSV _ _); simp [eqSV, isB, bval, *]; done) | rfl)); all_goals exact fun b x h => h) (fun t I2 hI2 => ?_)
    clear hI
    obtain ⟨⟨F, fa, fc, l⟩, hl, hFl, hfa, hfc⟩ := t
    dsimp only at hl hFl hfa hfc ⊢
    obtain ⟨hF00, hFd⟩ := hF0 l hl
    rw [← hFl] at hF00 hFd
    have hFn := ExP.nd_mono (b := 10) (by omega) hFd
    have DV := fun g (w' : World) (h : 0 < w'.heap.size) hs ht => rdivide_any fa (some ⟨g, 0, none⟩) fc 1 F 5 w' h (by omega) (by omega) (by omega) hs ht
    rw [hn5, hv5] at DV
    by_cases hlb : l < b
    · obtain ⟨g1, g2⟩ := hF2 l hlb
      rw [← hFl] at g1 g2
      rw [g1, g2] at DV
      have hz0 := ExP.nd_zero 10
      repeat' (first | ((with_reducible first | show wpS _ _ _ _ | show putD _ _ _ _ | show putW _ _ _ _ | show splitG _ _ _ | show wpQ _ _ _ _ _ _ | show wpD _ _ _ _ _ _ _ | show wpX _ _ _ _ _ _ _ | show expX _ _ _ _ _ _ | show stepX _ _ _ _ | show keepR _ _ _ | show wpY _ _ _ _); conv => whnf) | ((with_reducible show RetN _ _ _); refine retB fun β => ?_) | ((with_reducible show _ ∧ _); first | (apply And.intro; (· intro h; exfalso; first | omega | (revert h; decide)); intro _) | (apply And.intro; rotate_left; (· intro h; exfalso; first | omega | (revert h; decide)); intro _) | (refine ⟨fun _ => ?_, fun _ => ?_⟩) | (apply And.intro; · kernel_rfl) | (apply And.intro; · (show inK _ _; unfold inK; omega)) | (apply And.intro; · (show (_ : Int) ≤ 9223372036854775807; (try simp only [List.length_append, List.length_drop, List.length_take, List.length_cons, List.length_nil]); omega))) | ((with_reducible show AllBe _); refine allBe fun βe => ?_; conv => whnf) | ((with_reducible show bothX _ _); refine bothI ?_ ?_; conv => whnf) | (with_reducible exact trivial) | ((with_reducible show CallN _ _ _ _ _ _ _ _); refine call_of env_ok rfl 1000 ?_) | ((with_reducible show XopN _ _ _ _ _ _); refine xop_of env_ok rfl 1000 ?_) | ((with_reducible show CallX _ _ _ _ _ _); first | (refine callNat2 .i64 10 (Fj (l + 1)) 0 hw0 (by kernel_rfl) rfl (fun β w' hm => DV g1 w' (Nat.lt_of_lt_of_le hw0 hm.base_le) (hm.slF 2 rfl) (hm.own 3 rfl).1) (fun u1 v1 u2 v2 k1 k2 k3 k4 k5 k6 => ?_))) | ((with_reducible show OpX _ _ _ _); first | (refine opx_build1 (sz := 1) rfl rfl rfl (xs := [.int .i64 5]) (fun β => rfl) rfl (by omega) (by omega) hu hsz hzv (fun g1 => ?_))) | ((with_reducible show ∃ _ : SV, _); first | (refine ⟨_, ?ok, x_len Tryz.underlying34, ?_⟩; (case ok => exact fun _ _ => trivial))) | ((with_reducible show ∃ _, _); first | fail))
      all_goals first | (exfalso; omega) | skip
      all_goals refine back_copy (Φ := SlF w.heap.size u1 (nv .i64 10 (Fj (l + 1)))) 2 4 rfl rfl rfl (by exact Nat.zero_le _) (by kernel_rfl) ?_
      all_goals exact hI2 _ ⟨⟨Fj (l + 1), u1, v1, l + 1⟩, ⟨by dsimp only; omega, rfl, k1, k2⟩⟩ (by dsimp only; omega) (by dsimp only; ((with_reducible show wk _ _); repeat' (first | exact trivial | exact eqSV_refl _ | (refine eqI ?_) | (refine eqS ?_) | (with_reducible exact rfl) | apply And.intro | exact Nat.zero_lt_one | exact Nat.le_of_ble_eq_true rfl | (with_reducible assumption) | ((show (_ : Int) = _); (try dsimp only); omega) | ((show eqSV _ _); simp [eqSV, isB, bval, *]; done) | rfl)); all_goals exact fun b x h => h)
    · obtain rfl : l = b := by omega
      rw [← hFl] at hF1 hre
      obtain ⟨q, hq⟩ : ∃ q, q = F / 5 := ⟨_, rfl⟩
      obtain ⟨rr, hrr⟩ : ∃ rr, rr = F % 5 := ⟨_, rfl⟩
      rw [← hq, ← hrr] at DV
      have hrp := hposn rr (by omega)
      have TX := fun (w' : World) hs => rtext_any fa fc F w' (by omega) hs
      have h1 := ExP.dec_one (g := F)
      rw [hre] at h1 TX
      generalize Lib.decDigits r = L at *
      repeat' (first | ((with_reducible first | show wpS _ _ _ _ | show putD _ _ _ _ | show putW _ _ _ _ | show splitG _ _ _ | show wpQ _ _ _ _ _ _ | show wpD _ _ _ _ _ _ _ | show wpX _ _ _ _ _ _ _ | show expX _ _ _ _ _ _ | show stepX _ _ _ _ | show keepR _ _ _ | show wpY _ _ _ _); conv => whnf) | ((with_reducible show RetN _ _ _); refine retB fun β => ?_) | ((with_reducible show _ ∧ _); first | (apply And.intro; (· intro h; exfalso; first | omega | (revert h; decide)); intro _) | (apply And.intro; rotate_left; (· intro h; exfalso; first | omega | (revert h; decide)); intro _) | (refine ⟨fun _ => ?_, fun _ => ?_⟩) | (apply And.intro; · kernel_rfl) | (apply And.intro; · (show inK _ _; unfold inK; omega)) | (apply And.intro; · (show (_ : Int) ≤ 9223372036854775807; (try simp only [List.length_append, List.length_drop, List.length_take, List.length_cons, List.length_nil]); omega))) | ((with_reducible show AllBe _); refine allBe fun βe => ?_; conv => whnf) | ((with_reducible show bothX _ _); refine bothI ?_ ?_; conv => whnf) | (with_reducible exact trivial) | ((with_reducible show CallN _ _ _ _ _ _ _ _); refine call_of env_ok rfl 1000 ?_) | ((with_reducible show XopN _ _ _ _ _ _); refine xop_of env_ok rfl 1000 ?_) | ((with_reducible show CallX _ _ _ _ _ _); first | (refine callNat2 .i64 10 q rr hw0 (by kernel_rfl) rfl (fun β w' hm => DV g1 w' (Nat.lt_of_lt_of_le hw0 hm.base_le) (hm.slF 2 rfl) (hm.own 3 rfl).1) (fun u1 v1 u2 v2 k1 k2 k3 k4 k5 k6 => ?_)) | (refine callX (.str L) (by kernel_rfl) rfl (trivial) (fun β w hm => by rw [hre]; exact TX w (by rw [← hre]; exact hm.slF 2 rfl)) ?_)) | ((with_reducible show OpX _ _ _ _); first | (refine opx_build1 (sz := 1) rfl rfl rfl (xs := [.int .i64 5]) (fun β => rfl) rfl (by omega) (by omega) hu hsz hzv (fun g1 => ?_))) | ((with_reducible show ∃ _ : SV, _); first | (refine ⟨_, ?ok, x_len Tryz.underlying34, ?_⟩; (case ok => exact fun _ _ => trivial))) | ((with_reducible show ∃ _, _); first | fail))
      · rw [if_neg (fun h => absurd (h1.2 h) (by assumption))]; rfl
      · rw [if_pos (h1.1 (Decidable.not_not.1 (by assumption))), show ((max k l : Nat) : Int) = max (k : Int) (l : Int) by omega]; rfl
end Go.Proofs.YtfodbfbljeeojaaGreatDoor
namespace Go.Proofs
open Go.Shelf
def Tryz.laysC172_ren : Go.Shelf.Ren := ⟨fun | 172 => 90 | 244 => 108 | 245 => 109 | 247 => 125 | 279 => 126 | 280 => 127 | 281 => 128 | 282 => 129 | 287 => 145 | 316 => 146 | 171 => 68 | 205 => 147 | 321 => 158 | 322 => 159 | 243 => 102 | 246 => 117 | 283 => 135 | 284 => 136 | 285 => 137 | 286 => 138 | 129 => 151 | 317 => 150 | 318 => 152 | 319 => 153 | 320 => 154 | 337 => 161 | 338 => 162 | n => n, fun | 9 => 9 | 3 => 3 | 75 => 106 | 76 => 107 | 4 => 4 | 5 => 5 | 167 => 138 | 37 => 110 | 0 => 0 | 85 => 139 | 2 => 2 | 168 => 141 | 53 => 113 | 175 => 158 | 46 => 127 | 210 => 161 | 127 => 145 | 145 => 176 | 143 => 174 | 21 => 21 | 171 => 146 | 173 => 149 | 212 => 167 | 51 => 97 | 20 => 20 | 213 => 168 | 232 => 185 | 233 => 186 | 80 => 80 | n => n, fun | 15 => 0 | 16 => 1 | 17 => 2 | 18 => 6 | 19 => 7 | n => n⟩
theorem Tryz.laysC172 : Go.Proofs.LaysC.n172 Tryz.prog Tryz.laysC172_ren := {
  mixed := by kernel_rfl
  f129 := Tryz.func151.trans (congrArg some (by kernel_rfl))
  f171 := Tryz.func68.trans (congrArg some (by kernel_rfl))
  f172 := Tryz.func90.trans (congrArg some (by kernel_rfl))
  f205 := Tryz.func147.trans (congrArg some (by kernel_rfl))
  f243 := Tryz.func102.trans (congrArg some (by kernel_rfl))
  f244 := Tryz.func108.trans (congrArg some (by kernel_rfl))
  f245 := Tryz.func109.trans (congrArg some (by kernel_rfl))
  f246 := Tryz.func117.trans (congrArg some (by kernel_rfl))
  f247 := Tryz.func125.trans (congrArg some (by kernel_rfl))
  f279 := Tryz.func126.trans (congrArg some (by kernel_rfl))
  f280 := Tryz.func127.trans (congrArg some (by kernel_rfl))
  f281 := Tryz.func128.trans (congrArg some (by kernel_rfl))
  f282 := Tryz.func129.trans (congrArg some (by kernel_rfl))
  f283 := Tryz.func135.trans (congrArg some (by kernel_rfl))
  f284 := Tryz.func136.trans (congrArg some (by kernel_rfl))
  f285 := Tryz.func137.trans (congrArg some (by kernel_rfl))
  f286 := Tryz.func138.trans (congrArg some (by kernel_rfl))
  f287 := Tryz.func145.trans (congrArg some (by kernel_rfl))
  f316 := Tryz.func146.trans (congrArg some (by kernel_rfl))
  f317 := Tryz.func150.trans (congrArg some (by kernel_rfl))
  f318 := Tryz.func152.trans (congrArg some (by kernel_rfl))
  f319 := Tryz.func153.trans (congrArg some (by kernel_rfl))
  f320 := Tryz.func154.trans (congrArg some (by kernel_rfl))
  f321 := Tryz.func158.trans (congrArg some (by kernel_rfl))
  f322 := Tryz.func159.trans (congrArg some (by kernel_rfl))
  f337 := Tryz.func161.trans (congrArg some (by kernel_rfl))
  f338 := Tryz.func162.trans (congrArg some (by kernel_rfl))
  t0 := Tryz.underlying0
  a0 := Tryz.isAgg0
  z0 := Tryz.sizeOf0
  v0 := Tryz.zeroValue0
  t2 := Tryz.underlying2
  a2 := Tryz.isAgg2
  z2 := Tryz.sizeOf2
  v2 := Tryz.zeroValue2
  t3 := Tryz.underlying3
  a3 := Tryz.isAgg3
  z3 := Tryz.sizeOf3
  v3 := Tryz.zeroValue3
  t4 := Tryz.underlying4
  a4 := Tryz.isAgg4
  z4 := Tryz.sizeOf4
  v4 := Tryz.zeroValue4
  t5 := Tryz.underlying5
  a5 := Tryz.isAgg5
  z5 := Tryz.sizeOf5
  v5 := Tryz.zeroValue5
  t9 := Tryz.underlying9
  a9 := Tryz.isAgg9
  z9 := Tryz.sizeOf9
  v9 := Tryz.zeroValue9
  t20 := Tryz.underlying20
  a20 := Tryz.isAgg20
  z20 := Tryz.sizeOf20
  v20 := Tryz.zeroValue20
  t21 := Tryz.underlying21
  a21 := Tryz.isAgg21
  z21 := Tryz.sizeOf21
  v21 := Tryz.zeroValue21
  t37 := Tryz.underlying110
  a37 := Tryz.isAgg110
  z37 := Tryz.sizeOf110
  v37 := Tryz.zeroValue110
  t46 := Tryz.underlying127
  a46 := Tryz.isAgg127
  z46 := Tryz.sizeOf127
  v46 := Tryz.zeroValue127
  t51 := Tryz.underlying97
  a51 := Tryz.isAgg97
  z51 := Tryz.sizeOf97
  v51 := Tryz.zeroValue97
  t53 := Tryz.underlying113
  a53 := Tryz.isAgg113
  z53 := Tryz.sizeOf113
  v53 := Tryz.zeroValue113
  t75 := Tryz.underlying106
  a75 := Tryz.isAgg106
  z75 := Tryz.sizeOf106
  v75 := Tryz.zeroValue106
  t76 := Tryz.underlying107
  a76 := Tryz.isAgg107
  z76 := Tryz.sizeOf107
  v76 := Tryz.zeroValue107
  t85 := Tryz.underlying139
  a85 := Tryz.isAgg139
  z85 := Tryz.sizeOf139
  v85 := Tryz.zeroValue139
  t127 := Tryz.underlying145
  a127 := Tryz.isAgg145
  z127 := Tryz.sizeOf145
  v127 := Tryz.zeroValue145
  t143 := Tryz.underlying174
  a143 := Tryz.isAgg174
  z143 := Tryz.sizeOf174
  v143 := Tryz.zeroValue174
  t145 := Tryz.underlying176
  a145 := Tryz.isAgg176
  z145 := Tryz.sizeOf176
  v145 := Tryz.zeroValue176
  t167 := Tryz.underlying138
  a167 := Tryz.isAgg138
  z167 := Tryz.sizeOf138
  v167 := Tryz.zeroValue138
  t168 := Tryz.underlying141
  a168 := Tryz.isAgg141
  z168 := Tryz.sizeOf141
  v168 := Tryz.zeroValue141
  t171 := Tryz.underlying146
  a171 := Tryz.isAgg146
  z171 := Tryz.sizeOf146
  v171 := Tryz.zeroValue146
  t173 := Tryz.underlying149
  a173 := Tryz.isAgg149
  z173 := Tryz.sizeOf149
  v173 := Tryz.zeroValue149
  t175 := Tryz.underlying158
  a175 := Tryz.isAgg158
  z175 := Tryz.sizeOf158
  v175 := Tryz.zeroValue158
  t210 := Tryz.underlying161
  a210 := Tryz.isAgg161
  z210 := Tryz.sizeOf161
  v210 := Tryz.zeroValue161
  t212 := Tryz.underlying167
  a212 := Tryz.isAgg167
  z212 := Tryz.sizeOf167
  v212 := Tryz.zeroValue167
  t213 := Tryz.underlying168
  a213 := Tryz.isAgg168
  z213 := Tryz.sizeOf168
  t232 := Tryz.underlying185
  a232 := Tryz.isAgg185
  z232 := Tryz.sizeOf185
  v232 := Tryz.zeroValue185
  t233 := Tryz.underlying186
  a233 := Tryz.isAgg186
  z233 := Tryz.sizeOf186
  v233 := Tryz.zeroValue186
  g15 := by kernel_rfl
  g16 := by kernel_rfl
  g17 := by kernel_rfl
  g18 := by kernel_rfl
  g19 := by kernel_rfl
  t80 := Tryz.underlying80
  a80 := Tryz.isAgg80
  z80 := Tryz.sizeOf80
  v80 := Tryz.zeroValue80
  i0 := by kernel_rfl
  i2 := by kernel_rfl
  i3 := by kernel_rfl
  i4 := by kernel_rfl
  i5 := by kernel_rfl
  i9 := by kernel_rfl
  i20 := by kernel_rfl
  i21 := by kernel_rfl
  i37 := by kernel_rfl
  i46 := by kernel_rfl
  i51 := by kernel_rfl
  i53 := by kernel_rfl
  i75 := by kernel_rfl
  i76 := by kernel_rfl
  i80 := by kernel_rfl
  i85 := by kernel_rfl
  i127 := by kernel_rfl
  i143 := by kernel_rfl
  i145 := by kernel_rfl
  i167 := by kernel_rfl
  i168 := by kernel_rfl
  i171 := by kernel_rfl
  i173 := by kernel_rfl
  i175 := by kernel_rfl
  i210 := by kernel_rfl
  i212 := by kernel_rfl
  i232 := by kernel_rfl
  i233 := by kernel_rfl
  m15 := by kernel_rfl
  m16 := by kernel_rfl
  m17 := by kernel_rfl
  m18 := by kernel_rfl
  m19 := by kernel_rfl
  c0 := by kernel_rfl
  c2 := by kernel_rfl
  c3 := by kernel_rfl
  c4 := by kernel_rfl
  c5 := by kernel_rfl
  c9 := by kernel_rfl
  c20 := by kernel_rfl
  c21 := by kernel_rfl
  c37 := by kernel_rfl
  c46 := by kernel_rfl
  c51 := by kernel_rfl
  c53 := by kernel_rfl
  c75 := by kernel_rfl
  c76 := by kernel_rfl
  c80 := by kernel_rfl
  c85 := by kernel_rfl
  c127 := by kernel_rfl
  c143 := by kernel_rfl
  c145 := by kernel_rfl
  c167 := by kernel_rfl
  c168 := by kernel_rfl
  c171 := by kernel_rfl
  c173 := by kernel_rfl
  c175 := by kernel_rfl
  c210 := by kernel_rfl
  c212 := by kernel_rfl
  c213 := by kernel_rfl
  c232 := by kernel_rfl
  c233 := by kernel_rfl }
open Go.RowKit in
/-- strconv.Atoi, AT EVERY STRING THAT SPELLS AN int ('Lib.atoiAll .. = .ok v'; of whatever length: leading zeros count): v, AND NO ERROR. The world: as it was, or with the one new row that '[]byte(..)' lays. (LAID: no walk: one application.) -/
theorem Tryz.strconv_Atoi_ok (s : ByteArray) (hmax : s.size ≤ 9223372036854775806) (v : Int) (h : Lib.atoiAll s.data.toList = .ok v) (w : World) :
    Calls Tryz.prog 90 #[.string s] w fun e w' => e = .returned (.tuple #[.int .i64 v, .nilIface]) ∧ (w' = w ∨ ∃ t, w' = Lib.bytesWorld w 5 t) := Any.strconv_Atoi_ok Tryz.laysC172 s hmax v h w
open Go.RowKit in
/-- strconv.Atoi, AT EVERY NUMERAL THAT NO int HOLDS ('.range'): THE GREATEST OR THE LEAST int, BY THE SIGN ('Lib.atoiSat'), AND AN ERROR THAT IS NOT nil: a *NumError in a new block N: {Func: "Atoi", Num: s's bytes, Err: what the variable ErrRange holds}. Of what was there nothing has turned. (LAID: no walk: one application.) -/
theorem Tryz.strconv_Atoi_range (s : ByteArray) (hlim : s.size ≤ 281474976710656) (h : Lib.atoiAll s.data.toList = .range) (ev : Value) (w : World) (hv : w.cell? ⟨1, 0, none⟩ = some ev) (hev : ev = .nilIface ∨ ∃ te pe, ev = .iface te pe) :
    Calls Tryz.prog 90 #[.string s] w fun e w' => ∃ N, e = .returned (.tuple #[.int .i64 (Lib.atoiSat s.data.toList), .iface 141 (.pointer (some ⟨N, 0, none⟩))]) ∧ w.heap.size ≤ N ∧ w'.heap[N]? = some (.cells #[.string ⟨#[65, 116, 111, 105]⟩, .string s, ev] 161 (0, 0)) ∧ Below w.heap.size w w' := Any.strconv_Atoi_range Tryz.laysC172 s hlim h ev w hv hev
end Go.Proofs
