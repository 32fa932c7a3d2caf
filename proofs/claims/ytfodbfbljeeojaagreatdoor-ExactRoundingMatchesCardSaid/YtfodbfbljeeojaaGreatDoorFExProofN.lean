/- ExactRoundingMatches returns true for every fraction and every number of places; no condition besides the tables and errors of the library, which the program's text lays. -/
import Derived.Test.YtfodbfbljeeojaaGreatDoorFExWit
import Derived.Test.YtfodbfbljeeojaaGreatDoorFGI
import Derived.Test.YtfodbfbljeeojaaGreatDoorFGY
set_option linter.unusedSimpArgs false
set_option linter.unusedVariables false
namespace Go.Proofs.YtfodbfbljeeojaaGreatDoor.exactRoundingMatches
open Go.ChangeShapes Go.WideShapes Go.ChangeAt Go.RowKit
open Go.ChangeMaps (open_string shut_string)
theorem roundLaw_any (f : ExP.Fr) (n : Int) (w : World) (hw : XW w ∧ XE w) (h1 : f.1.length ≤ 9223372036854775807) (h2 : f.2.length ≤ 9223372036854775807) :
    Calls Tryz.prog 7 #[frV f, .int .i64 n] w fun e w' => e = .returned (.bool true) ∧ Below w.heap.size w w' := by
  have hw0 := hw.1.pos
  by_cases hE : ExP.readE f = 0
  · obtain ⟨f1, f2⟩ := f
    exact roundLaw_ok f1 f2 n w hw.1 hw.2 hw0 h1 h2 hE
  · exact roundLaw_bad f n w hw.1 hw0 h1 h2 hE
set_option maxRecDepth 100000 in
theorem contract (H : Type) (enc : TypeId × Value → H) (W : World) (base : Nat) (args : Array Value) (ds gs : List (DataW H)) (before : List MemPlace)
    (hval : ∀ (j : Nat) t v, Tryz.f7.params[j]? = some t → args[j]? = some v → Value.okWide Tryz.prog W .any base t v)
    (hW : DataW.Whole enc Tryz.prog Tryz.f7.params.toList Rows.exactRoundingMatchesSpec.vars false W args.toList ds gs before) (hw : XW W ∧ XE W) :
    Calls Tryz.prog 7 args W fun e W' => ∃ v, e = .returned v ∧ Rows.exactRoundingMatchesSpec.post enc Tryz.prog Tryz.f7 false true false false W args v W' := by
  have hW' := hW
  obtain ⟨p, q, hA0, hV, rfl, hfz, hnd⟩ := hW
  have hA : DataW.TrodAll enc Tryz.prog W 0 (fun _ => true) true Tryz.f7.params.toList args.toList ds p := hA0
  rw [Tryz.params7] at hA hval
  obtain ⟨v0, vs0, d0, ds0, p0, q0, hargs, rfl, rfl, h0, r0⟩ := trodAll_cons hA
  obtain ⟨v1, vs1, d1, ds1, p1, q1, rfl, rfl, rfl, h1, r1⟩ := trodAll_cons r0
  obtain ⟨rfl, rfl, rfl⟩ := trodAll_nil r1
  obtain rfl : args = #[v0, v1] := by cases args; simp_all
  obtain ⟨rfl, rfl⟩ := trodVars_none hV
  obtain ⟨x0, rfl, hx0, hy0⟩ := open_frac (hval 0 23 v0 rfl rfl) h0
  obtain ⟨x1, rfl, -, -, w1⟩ := open_int Tryz.underlying3 (hval 1 3 v1 rfl rfl) h1
  obtain ⟨hx1, hy1⟩ : -9223372036854775808 ≤ x1 ∧ x1 ≤ 9223372036854775807 := wf_i64 w1
  simp only [List.append_nil] at hW' hA0
  refine (roundLaw_any x0 x1 W hw hx0 hy0).mono fun e W' ⟨he, bel⟩ => ?_
  subst he
  exact ⟨_, rfl, _, _, _, [], _, [], hW', trodAll_mk1 (shut_bool Tryz.underlying4 _), below_trodAll laidOut bel (by kernel_rfl) hA0, rfl, bel.frame _, fun h => by cases h⟩
theorem reads (os : Os) {H : Type} (enc : TypeId × Value → H) : ∃ places, DataW.whole enc Tryz.prog ((laidWorld os).forCall (fun _ _ => 0) ⟨#[], #[.agg #[.string ByteArray.empty, .string ByteArray.empty], .int .i64 0], []⟩).memory Tryz.f7.params.toList Rows.exactRoundingMatchesSpec.vars false (#[.agg #[.string ByteArray.empty, .string ByteArray.empty], .int .i64 0] : Array Value).toList 8 = some ([.agg [.lit (.string []), .lit (.string [])], .lit (.int .i64 0)], [], places) :=
  ⟨[], by kernel_rfl⟩
set_option maxRecDepth 100000 in
theorem lifted (os : Os) (started : os.Started) (H : Type) (enc : TypeId × Value → H) (F : Stop.Interp) :
    ReturnsInHanded {} Tryz.checked os 7 .any ((OpenSpec.ofChange Rows.exactRoundingMatchesSpec).preRow enc Tryz.prog Tryz.f7 Rows.exactRoundingMatchesRow.domain false Rows.exactRoundingMatchesRow.laid) (((OpenSpec.ofChange Rows.exactRoundingMatchesSpec).at F).post enc Tryz.prog Tryz.f7 false true false false) := by
  obtain ⟨places, hx⟩ := reads os enc
  refine returnsInHanded_of_row (C := Tryz.checked) (s := OpenSpec.ofChange Rows.exactRoundingMatchesSpec) own started (by kernel_rfl) Tryz.func7
    (witness_row_at (enc := enc) (C := Tryz.checked) false (laidWorld os) #[.agg #[.string ByteArray.empty, .string ByteArray.empty], .int .i64 0] rfl (by kernel_rfl) (by kernel_rfl) (by kernel_rfl)
      (OpenSpec.preRow_of_cond 8 hx (by kernel_rfl) (fun k hk => by cases hk) (by kernel_rfl) (laid_met os _))) ?_
  intro W base args ds gs before hval hW _ _ _ hL hsh _
  exact contract H enc W base args ds gs before hval hW ⟨table hL, errRange hL⟩
theorem said : Rows.ExactRoundingMatchesSaid :=
  OpenClaim.holds_of_cond 7 Tryz.f7 rfl rfl rfl rfl rfl rfl rfl ⟨rfl, rfl, rfl, rfl, rfl⟩ rfl rfl rfl rfl rfl (by kernel_rfl) Tryz.func7 (by kernel_rfl)
    (of_decide_eq_true (by kernel_rfl)) (by unfold Func.isWrapper; first | (rw [if_pos (by decide +kernel)]; kernel_rfl) | (rw [if_neg (by decide +kernel)]; exact ⟨rfl, rfl⟩))
    (fun os started H enc _ F => by rw [OpenClaim.pre_eq_preRow]; exact lifted os started H enc F)
theorem plain (f : FuncId) (fn : Func) (hf : Tryz.pinned.checked.prog.funcNamed "chancery/chancerylaw2.ExactRoundingMatches" = some f) (hfn : Tryz.pinned.checked.prog.funcs[f]? = some fn) :
    true = Tryz.pinned.checked.prog.looks [] ∧ ∀ (j : Nat) t, fn.params[j]? = some t → Tryz.pinned.checked.prog.wantsStandIn t = false := by
  obtain rfl : f = 7 := Option.some.inj ((show Tryz.prog.funcNamed "chancery/chancerylaw2.ExactRoundingMatches" = some 7 by kernel_rfl).symm.trans hf) |>.symm
  obtain rfl : fn = Tryz.f7 := (Option.some.inj (Tryz.func7.symm.trans hfn)).symm
  refine ⟨by kernel_rfl, fun j t ht => ?_⟩
  rw [Tryz.params7] at ht
  have hm := Array.mem_of_getElem? ht
  simp only [List.mem_toArray, List.mem_cons, List.mem_nil_iff, or_false] at hm
  rcases hm with rfl | rfl
  · exact (show Tryz.prog.wantsStandIn 23 = false by kernel_rfl)
  · exact (show Tryz.prog.wantsStandIn 3 = false by kernel_rfl)
/-- the card -/
theorem card : Rows.ExactRoundingMatchesCardSaid :=
  Claim7.holds_tied_plain_at .later [] _ _ _ _ said (fun _ h => by cases h) (by kernel_rfl) (fun _ h => by cases h) exactRoundingMatches_row_tie rfl ⟨rfl, rfl⟩ (by kernel_rfl) rfl plain (by kernel_rfl)
#print axioms card
end Go.Proofs.YtfodbfbljeeojaaGreatDoor.exactRoundingMatches
