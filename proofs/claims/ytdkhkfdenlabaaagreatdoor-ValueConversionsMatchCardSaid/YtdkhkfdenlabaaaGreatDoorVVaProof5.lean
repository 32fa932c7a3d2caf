/- ValueConversionsMatch returns true for every value; no condition besides the tables that the program's text lays. -/
import Derived.Test.YtdkhkfdenlabaaaGreatDoorVVaWit
import Derived.Test.YtdkhkfdenlabaaaGreatDoorVGAC
set_option linter.unusedVariables false
set_option maxRecDepth 100000
namespace Go.Proofs.YtdkhkfdenlabaaaGreatDoor.valueConversionsMatch
open Go.Proofs.Tryz Go.ChangeShapes Go.WideShapes Go.ChangeAt Go.RowKit
open Go.ChangeMaps (open_string shut_string)
theorem contract (H : Type) (enc : TypeId × Value -> H) (W : World) (base : Nat) (args : Array Value) (ds gs : List (DataW H)) (before : List MemPlace)
  (hval : ∀ (j : Nat) t v, f8.params[j]? = some t -> args[j]? = some v -> Value.okWide prog W .any base t v)
  (hW : DataW.Whole enc prog f8.params.toList Rows.valueConversionsMatchSpec.vars false W args.toList ds gs before) (hw : XV W /\ XR W) :
  Calls prog 8 args W fun e W' => ∃ v, e = .returned v /\ Rows.valueConversionsMatchSpec.post enc prog f8 false true false false W args v W' := by
 have hW' := hW
 obtain ⟨p, q, hA0, hV, rfl, hfz, hnd⟩ := hW
 have hA : DataW.TrodAll enc prog W 0 (fun _ => true) true f8.params.toList args.toList ds p := hA0
 rw [params8] at hA hval
 obtain ⟨v0, vs0, d0, ds0, p0, q0, hargs, rfl, rfl, h0, r0⟩ := trodAll_cons hA
 obtain ⟨rfl, rfl, rfl⟩ := trodAll_nil r0
 obtain rfl : args = #[v0] := by cases args; simp_all
 obtain ⟨rfl, rfl⟩ := trodVars_none hV
 obtain ⟨t0, a0, c0, rfl, hi0⟩ := Ll (hval 0 28 v0 rfl rfl) h0
 simp only [List.append_nil] at hW' hA0
 refine (Hy t0 a0 c0 W hw hi0).mono fun e W' ⟨he, bel⟩ => ?_
 subst he
 exact ⟨_, rfl, _, _, _, [], _, [], hW', trodAll_mk1 (shut_bool underlying4 _), uA laidOut bel (by kernel_rfl) hA0, rfl, bel.frame _, fun h => by cases h⟩
abbrev A0 : Array Value := #[.agg #[.int .i64 0, .string ByteArray.empty, .string ByteArray.empty, .string ByteArray.empty, .bool false, .int .i64 0, .int .i64 0, .int .i64 0, .slice none 0 0]]
theorem reads (os : Os) {H : Type} (enc : TypeId × Value -> H) : ∃ places, DataW.whole enc prog ((laidWorld os).forCall (fun _ _ => 0) ⟨#[], A0, []⟩).memory f8.params.toList Rows.valueConversionsMatchSpec.vars false A0.toList 8 = some ([.agg [.lit (.int .i64 0), .agg [.lit (.string []), .lit (.string [])], .lit (.string []), .lit (.bool false), .lit (.int .i64 0), .lit (.int .i64 0), .lit (.int .i64 0), .nil]], [], places) :=
 ⟨[], by kernel_rfl⟩
theorem lifted (os : Os) (started : os.Started) (H : Type) (enc : TypeId × Value -> H) (F : Stop.Interp) :
  ReturnsInHanded {} checked os 8 .any ((OpenSpec.ofChange Rows.valueConversionsMatchSpec).preRow enc prog f8 Rows.valueConversionsMatchRow.domain false Rows.valueConversionsMatchRow.laid) (((OpenSpec.ofChange Rows.valueConversionsMatchSpec).at F).post enc prog f8 false true false false) := by
 obtain ⟨places, hx⟩ := reads os enc
 refine returnsInHanded_of_row (C := checked) (s := OpenSpec.ofChange Rows.valueConversionsMatchSpec) own started (by kernel_rfl) func8
  (witness_row_at (enc := enc) (C := checked) false (laidWorld os) A0 rfl (by kernel_rfl) (by kernel_rfl) (by kernel_rfl)
   (OpenSpec.preRow_of_cond 8 hx (by kernel_rfl) (fun k hk => by cases hk) (by kernel_rfl) (OI os _))) ?_
 intro W base args ds gs before hval hW _ _ _ hL hsh _
 exact contract H enc W base args ds gs before hval hW (XQ hL hsh)
theorem said : Rows.ValueConversionsMatchSaid :=
 OpenClaim.holds_of_cond 8 f8 rfl rfl rfl rfl rfl rfl rfl ⟨rfl, rfl, rfl, rfl, rfl⟩ rfl rfl rfl rfl rfl (by kernel_rfl) func8 (by kernel_rfl)
  (of_decide_eq_true (by kernel_rfl)) (by unfold Func.isWrapper; first | (rw [if_pos (by decide +kernel)]; kernel_rfl) | (rw [if_neg (by decide +kernel)]; exact ⟨rfl, rfl⟩))
  (fun os started H enc _ F => by rw [OpenClaim.pre_eq_preRow]; exact lifted os started H enc F)
theorem plain (f : FuncId) (fn : Func) (hf : Tryz.pinned.checked.prog.funcNamed "chancery/chancerylaw2.ValueConversionsMatch" = some f) (hfn : Tryz.pinned.checked.prog.funcs[f]? = some fn) :
  true = Tryz.pinned.checked.prog.looks [] /\ ∀ (j : Nat) t, fn.params[j]? = some t -> Tryz.pinned.checked.prog.wantsStandIn t = false := by
 obtain rfl : f = 8 := Option.some.inj ((show prog.funcNamed "chancery/chancerylaw2.ValueConversionsMatch" = some 8 by kernel_rfl).symm.trans hf) |>.symm
 obtain rfl : fn = f8 := (Option.some.inj (func8.symm.trans hfn)).symm
 refine ⟨by kernel_rfl, fun j t ht => ?_⟩
 rw [params8] at ht
 have hm := Array.mem_of_getElem? ht
 simp only [List.mem_toArray, List.mem_cons, List.mem_nil_iff, or_false] at hm
 subst hm
 exact (show prog.wantsStandIn 28 = false by kernel_rfl)
theorem card : Rows.ValueConversionsMatchCardSaid :=
 Claim7.holds_tied_plain_at .later [] _ _ _ _ said (fun _ h => by cases h) (by kernel_rfl) (fun _ h => by cases h) valueConversionsMatch_row_tie rfl ⟨rfl, rfl⟩ (by kernel_rfl) rfl plain (by kernel_rfl)
#print axioms card
end Go.Proofs.YtdkhkfdenlabaaaGreatDoor.valueConversionsMatch
