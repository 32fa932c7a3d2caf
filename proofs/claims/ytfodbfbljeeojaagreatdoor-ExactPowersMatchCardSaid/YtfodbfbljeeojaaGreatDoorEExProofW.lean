/- ExactPowersMatch returns true for every fraction and all three numbers; no condition besides the tables and errors of the library, which the program's text lays. -/
import Derived.Test.YtfodbfbljeeojaaGreatDoorEExWit
import Derived.Test.YtfodbfbljeeojaaGreatDoorEExG6
import Derived.Test.YtfodbfbljeeojaaGreatDoorEGT
set_option linter.unusedSimpArgs false
set_option linter.unusedVariables false
namespace Go.Proofs.YtfodbfbljeeojaaGreatDoor.exactPowersMatch
open Go.ChangeShapes Go.WideShapes Go.ChangeAt Go.RowKit
open Go.ChangeMaps (open_string shut_string)
theorem powLaw_any (f : ExP.Fr) (n p q : Int) (w : World) (hw : XW w) (h1 : f.1.length ≤ 9223372036854775807) (h2 : f.2.length ≤ 9223372036854775807) (p0 : -9223372036854775808 ≤ p) (p1 : p ≤ 9223372036854775807) (q0 : -9223372036854775808 ≤ q) (q1 : q ≤ 9223372036854775807) :
    Calls Tryz.prog 4 #[frV f, .int .i64 n, .int .i64 p, .int .i64 q] w fun e w' => e = .returned (.bool true) ∧ Below w.heap.size w w' := by
  have hw0 := hw.pos
  obtain ⟨r, hr⟩ : ∃ r, Int.tmod (Int.tmod n 41 + 41) 41 = r := ⟨_, rfl⟩
  have t1 : -41 < Int.tmod n 41 := by
    have := Int.lt_tmod_of_pos n (b := 41) (by omega)
    omega
  have hr0 : 0 ≤ r := by rw [← hr]; exact Int.tmod_nonneg _ (by omega)
  have hr1 : r < 41 := by rw [← hr]; exact Int.tmod_lt_of_pos _ (by omega)
  by_cases hE : ExP.readE f = 0
  · by_cases hs : 0 ≤ r - 20
    · obtain ⟨k, hk⟩ : ∃ k : Nat, r - 20 = (k : Int) := ⟨(r - 20).toNat, by omega⟩
      by_cases hq : q = 0
      · exact pow_q0_pos f n p q r w hw hw0 h1 h2 p0 p1 q0 q1 hr hr0 hr1 hq hE k (by omega) hk
      · exact pow_q1_pos f n p q r w hw hw0 h1 h2 p0 p1 q0 q1 hr hr0 hr1 hq hE k (by omega) hk
    · obtain ⟨k, hk⟩ : ∃ k : Nat, r - 20 = -(k : Int) := ⟨(20 - r).toNat, by omega⟩
      by_cases hx : (ExP.readN f).n = 0
      · by_cases hq : q = 0
        · exact pow_q0_zero f n p q r w hw hw0 h1 h2 p0 p1 q0 q1 hr hr0 hr1 hq hE k (by omega) (by omega) hk hx
        · exact pow_q1_zero f n p q r w hw hw0 h1 h2 p0 p1 q0 q1 hr hr0 hr1 hq hE k (by omega) (by omega) hk hx
      · by_cases hq : q = 0
        · exact pow_q0_neg f n p q r w hw hw0 h1 h2 p0 p1 q0 q1 hr hr0 hr1 hq hE k (by omega) (by omega) hk hx
        · exact pow_q1_neg f n p q r w hw hw0 h1 h2 p0 p1 q0 q1 hr hr0 hr1 hq hE k (by omega) (by omega) hk hx
  · by_cases hq : q = 0
    · exact pow_q0_bad f n p q r w hw hw0 h1 h2 p0 p1 q0 q1 hr hr0 hr1 hq hE
    · exact pow_q1_bad f n p q r w hw hw0 h1 h2 p0 p1 q0 q1 hr hr0 hr1 hq hE
set_option maxRecDepth 100000 in
theorem contract (H : Type) (enc : TypeId × Value → H) (W : World) (base : Nat) (args : Array Value) (ds gs : List (DataW H)) (before : List MemPlace)
    (hval : ∀ (j : Nat) t v, Tryz.f4.params[j]? = some t → args[j]? = some v → Value.okWide Tryz.prog W .any base t v)
    (hW : DataW.Whole enc Tryz.prog Tryz.f4.params.toList Rows.exactPowersMatchSpec.vars false W args.toList ds gs before) (hw : XW W) :
    Calls Tryz.prog 4 args W fun e W' => ∃ v, e = .returned v ∧ Rows.exactPowersMatchSpec.post enc Tryz.prog Tryz.f4 false true false false W args v W' := by
  have hW' := hW
  obtain ⟨p, q, hA0, hV, rfl, hfz, hnd⟩ := hW
  have hA : DataW.TrodAll enc Tryz.prog W 0 (fun _ => true) true Tryz.f4.params.toList args.toList ds p := hA0
  rw [Tryz.params4] at hA hval
  obtain ⟨v0, vs0, d0, ds0, p0, q0, hargs, rfl, rfl, h0, r0⟩ := trodAll_cons hA
  obtain ⟨v1, vs1, d1, ds1, p1, q1, rfl, rfl, rfl, h1, r1⟩ := trodAll_cons r0
  obtain ⟨v2, vs2, d2, ds2, p2, q2, rfl, rfl, rfl, h2, r2⟩ := trodAll_cons r1
  obtain ⟨v3, vs3, d3, ds3, p3, q3, rfl, rfl, rfl, h3, r3⟩ := trodAll_cons r2
  obtain ⟨rfl, rfl, rfl⟩ := trodAll_nil r3
  obtain rfl : args = #[v0, v1, v2, v3] := by cases args; simp_all
  obtain ⟨rfl, rfl⟩ := trodVars_none hV
  obtain ⟨x0, rfl, hx0, hy0⟩ := open_frac (hval 0 23 v0 rfl rfl) h0
  obtain ⟨x1, rfl, -, -, w1⟩ := open_int Tryz.underlying3 (hval 1 3 v1 rfl rfl) h1
  obtain ⟨hx1, hy1⟩ : -9223372036854775808 ≤ x1 ∧ x1 ≤ 9223372036854775807 := wf_i64 w1
  obtain ⟨x2, rfl, -, -, w2⟩ := open_int Tryz.underlying3 (hval 2 3 v2 rfl rfl) h2
  obtain ⟨hx2, hy2⟩ : -9223372036854775808 ≤ x2 ∧ x2 ≤ 9223372036854775807 := wf_i64 w2
  obtain ⟨x3, rfl, -, -, w3⟩ := open_int Tryz.underlying3 (hval 3 3 v3 rfl rfl) h3
  obtain ⟨hx3, hy3⟩ : -9223372036854775808 ≤ x3 ∧ x3 ≤ 9223372036854775807 := wf_i64 w3
  simp only [List.append_nil] at hW' hA0
  refine (powLaw_any x0 x1 x2 x3 W hw hx0 hy0 hx2 hy2 hx3 hy3).mono fun e W' ⟨he, bel⟩ => ?_
  subst he
  exact ⟨_, rfl, _, _, _, [], _, [], hW', trodAll_mk1 (shut_bool Tryz.underlying4 _), below_trodAll laidOut bel (by kernel_rfl) hA0, rfl, bel.frame _, fun h => by cases h⟩
theorem reads (os : Os) {H : Type} (enc : TypeId × Value → H) : ∃ places, DataW.whole enc Tryz.prog ((laidWorld os).forCall (fun _ _ => 0) ⟨#[], #[.agg #[.string ByteArray.empty, .string ByteArray.empty], .int .i64 0, .int .i64 0, .int .i64 0], []⟩).memory Tryz.f4.params.toList Rows.exactPowersMatchSpec.vars false (#[.agg #[.string ByteArray.empty, .string ByteArray.empty], .int .i64 0, .int .i64 0, .int .i64 0] : Array Value).toList 8 = some ([.agg [.lit (.string []), .lit (.string [])], .lit (.int .i64 0), .lit (.int .i64 0), .lit (.int .i64 0)], [], places) :=
  ⟨[], by kernel_rfl⟩
set_option maxRecDepth 100000 in
theorem lifted (os : Os) (started : os.Started) (H : Type) (enc : TypeId × Value → H) (F : Stop.Interp) :
    ReturnsInHanded {} Tryz.checked os 4 .any ((OpenSpec.ofChange Rows.exactPowersMatchSpec).preRow enc Tryz.prog Tryz.f4 Rows.exactPowersMatchRow.domain false Rows.exactPowersMatchRow.laid) (((OpenSpec.ofChange Rows.exactPowersMatchSpec).at F).post enc Tryz.prog Tryz.f4 false true false false) := by
  obtain ⟨places, hx⟩ := reads os enc
  refine returnsInHanded_of_row (C := Tryz.checked) (s := OpenSpec.ofChange Rows.exactPowersMatchSpec) own started (by kernel_rfl) Tryz.func4
    (witness_row_at (enc := enc) (C := Tryz.checked) false (laidWorld os) #[.agg #[.string ByteArray.empty, .string ByteArray.empty], .int .i64 0, .int .i64 0, .int .i64 0] rfl (by kernel_rfl) (by kernel_rfl) (by kernel_rfl)
      (OpenSpec.preRow_of_cond 8 hx (by kernel_rfl) (fun k hk => by cases hk) (by kernel_rfl) (laid_met os _))) ?_
  intro W base args ds gs before hval hW _ _ _ hL hsh _
  exact contract H enc W base args ds gs before hval hW (table hL)
theorem said : Rows.ExactPowersMatchSaid :=
  OpenClaim.holds_of_cond 4 Tryz.f4 rfl rfl rfl rfl rfl rfl rfl ⟨rfl, rfl, rfl, rfl, rfl⟩ rfl rfl rfl rfl rfl (by kernel_rfl) Tryz.func4 (by kernel_rfl)
    (of_decide_eq_true (by kernel_rfl)) (by unfold Func.isWrapper; first | (rw [if_pos (by decide +kernel)]; kernel_rfl) | (rw [if_neg (by decide +kernel)]; exact ⟨rfl, rfl⟩))
    (fun os started H enc _ F => by rw [OpenClaim.pre_eq_preRow]; exact lifted os started H enc F)
theorem plain (f : FuncId) (fn : Func) (hf : Tryz.pinned.checked.prog.funcNamed "chancery/chancerylaw2.ExactPowersMatch" = some f) (hfn : Tryz.pinned.checked.prog.funcs[f]? = some fn) :
    true = Tryz.pinned.checked.prog.looks [] ∧ ∀ (j : Nat) t, fn.params[j]? = some t → Tryz.pinned.checked.prog.wantsStandIn t = false := by
  obtain rfl : f = 4 := Option.some.inj ((show Tryz.prog.funcNamed "chancery/chancerylaw2.ExactPowersMatch" = some 4 by kernel_rfl).symm.trans hf) |>.symm
  obtain rfl : fn = Tryz.f4 := (Option.some.inj (Tryz.func4.symm.trans hfn)).symm
  refine ⟨by kernel_rfl, fun j t ht => ?_⟩
  rw [Tryz.params4] at ht
  have hm := Array.mem_of_getElem? ht
  simp only [List.mem_toArray, List.mem_cons, List.mem_nil_iff, or_false] at hm
  rcases hm with rfl | rfl | rfl | rfl
  · exact (show Tryz.prog.wantsStandIn 23 = false by kernel_rfl)
  · exact (show Tryz.prog.wantsStandIn 3 = false by kernel_rfl)
  · exact (show Tryz.prog.wantsStandIn 3 = false by kernel_rfl)
  · exact (show Tryz.prog.wantsStandIn 3 = false by kernel_rfl)
/-- the card -/
theorem card : Rows.ExactPowersMatchCardSaid :=
  Claim7.holds_tied_plain_at .later [] _ _ _ _ said (fun _ h => by cases h) (by kernel_rfl) (fun _ h => by cases h) exactPowersMatch_row_tie rfl ⟨rfl, rfl⟩ (by kernel_rfl) rfl plain (by kernel_rfl)
#print axioms card
end Go.Proofs.YtfodbfbljeeojaaGreatDoor.exactPowersMatch
