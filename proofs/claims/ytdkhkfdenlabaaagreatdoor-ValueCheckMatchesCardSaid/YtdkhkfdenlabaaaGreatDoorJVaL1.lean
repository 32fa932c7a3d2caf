/- Values: 25 percent is entered; the law of the calendar. -/
import Derived.Test.YtdkhkfdenlabaaaGreatDoorJGW
set_option linter.unusedSimpArgs false
set_option linter.unusedVariables false
namespace Go.Proofs.YtdkhkfdenlabaaaGreatDoor
open Go.RowKit
open Sym
theorem ExP.write_25 : ExP.writeE ⟨false, 25, 1⟩ = 0 ∧ ExP.writeE ⟨false, 25, 100⟩ = 0 ∧ ExP.writeF ⟨false, 25, 100⟩ = ([49], [52]) := by
  have h25 : ExP.nd 10 25 ≤ 300 := Nat.le_trans (ExP.nd_le (n := 2) (by omega) (by decide)) (by omega)
  have h100 : ExP.nd 10 100 ≤ 300 := Nat.le_trans (ExP.nd_le (n := 3) (by omega) (by decide)) (by omega)
  have h1 : ExP.nd 10 1 ≤ 300 := by rw [ExP.nd_one (by omega)]; omega
  have a := (ExP.write_ok (x := ⟨false, 25, 1⟩) rfl Nat.one_pos h25 h1).1
  have b := (ExP.write_ok (x := ⟨false, 25, 100⟩) rfl (by decide) h25 h100).1
  refine ⟨a, b, ?_⟩
  have hn : ¬ (⟨false, 25, 100⟩ : ExP.Num).n = 0 := by decide
  have ho : ¬ ExP.overP ⟨false, 25, 100⟩ := fun h => by
    unfold ExP.writeE at b
    rw [if_neg hn, if_pos h] at b; cases b
  unfold ExP.writeF
  rw [if_neg hn, if_neg ho]
  have e1 : ExP.redN ⟨false, 25, 100⟩ = 1 := by decide
  have e2 : ExP.redD ⟨false, 25, 100⟩ = 4 := by decide
  rw [e1, e2, Lib.decDigits_one (by omega), Lib.decDigits_one (by omega)]
  rfl
theorem VaP.num_25 : VaP.numV [50, 53, 37] = some ⟨false, 25, 100⟩ := by
  have h1 : VaP.numV [50, 53, 37] = VaP.numG [50, 53] true := by kernel_rfl
  have h2 : ExP.parE [50, 53] = 0 := by decide +kernel
  have h3 : ExP.decN [50, 53] = ⟨false, 25, 1⟩ := by rfl
  have h4 : ExP.scaleN ⟨false, 25, 1⟩ (-2) = ⟨false, 25, 100⟩ := by rfl
  obtain ⟨a, b, -⟩ := ExP.write_25
  rw [h1]
  unfold VaP.numG
  rw [h2, h3, h4, a, b]
  simp
theorem VaP.txt_25 : VaP.txtE [50, 53, 37] = 0 := by decide +kernel
theorem x_neBF {C : Ctx} {G : Blobs} {x y : Operand} {t u : TypeId} {va vb : SV} (a b : Bool) (ha : ∀ β, va.den β = .bool a) (hb : ∀ β, vb.den β = .bool b) (hc : a = b) (ht : C.P.underlying t = some .bool) : ExtN C G (.binOp .neq t x y u) [va, vb] (.lit false) := by
  have h := x_neBB (C := C) (G := G) (x := x) (y := y) (t := t) (u := u) (va := va) (vb := vb) a b ha hb ht
  subst hc
  rw [show (a != a) = false by simp] at h
  unfold ExtN at h ⊢
  exact h
section
attribute [local irreducible] Calls Sym.AggEq ExP.nd ExP.dig ExP.upd ExP.writeF ExP.writeE VaP.ftext
theorem enter_25 (w : World) (hw : XV w) : Calls Tryz.prog 11 #[.string (bstr [50, 53, 37])] w (IsV (VaP.numF ([49], [52])) w) := by
  obtain ⟨F, hF, hN⟩ := number_any [50, 53, 37] w hw (by decide) (by decide)
  have e := hF _ VaP.num_25
  rw [ExP.write_25.2.2] at e
  subst e
  rw [VaP.num_25] at hN
  have hE : ExP.readE (([49], [52]) : ExP.Fr) = 0 := by decide +kernel
  refine enter_num [50, 53, 37] [50, 53, 37] [49] [52] w hw (by decide) VaP.txt_25 (by decide) (by decide) (fun w' h => vlower_small _ w' (hw.below h).pos (by decide) (by decide)) (by decide) (by decide) ?_ hN (fun w' h => ?_)
  · intro i h1 h2
    rcases i with _ | _ | _ | _ | _ | _ | _ | _ | _ | i
    all_goals first | (exfalso; omega) | (unfold VaP.ftext; decide)
  · have := vnumber_any ([49], [52]) w' (hw.below h) (by decide) (by decide)
    rwa [if_pos hE] at this
set_option maxRecDepth 100000 in
theorem values_any (w : World) (hw : XV w) : Calls Tryz.prog 9 #[] w fun e w' => e = .returned (.bool true) ∧ Below w.heap.size w w' := by
  have N := fun (w' : World) (h : Below w.heap.size w w') => enter_25 w' (hw.below h)
  have S := fun (w' : World) => same_num ([49], [52]) w'
  refine enter env_ok Tryz.func9 rfl Tryz.results9 Tryz.ntmps9 [] [] [] trivial (Nat.le_of_ble_eq_true rfl) w _ 1000 ?_
  repeat' (first | ((with_reducible first | show wpS .. | show putD .. | show putW .. | show splitG .. | show wpQ .. | show wpD .. | show wpX .. | show expX .. | show stepX .. | show keepR .. | show wpY ..); conv => whnf) | ((with_reducible show RetN ..); refine retB fun β => ?_) | ((with_reducible show _ ∧ _); first | (refine ⟨fun h => absurd h (by first | omega | decide), fun _ => ?_⟩) | (refine ⟨fun _ => ?_, fun h => absurd h (by first | omega | decide)⟩) | (refine ⟨fun _ => ?_, fun _ => ?_⟩) | (apply And.intro; · kernel_rfl) | (apply And.intro; · (show inK _ _; unfold inK; omega)) | (apply And.intro; · (show (_ : Int) ≤ 9223372036854775807; (try simp only [lenS]); omega))) | ((with_reducible show AllBe ..); refine allBe fun βe => ?_; conv => whnf) | ((with_reducible show bothX ..); refine bothI ?_ ?_; conv => whnf) | (with_reducible exact trivial) | ((with_reducible show CallN ..); refine call_of env_ok rfl 1000 ?_) | ((with_reducible show XopN ..); refine xop_of env_ok rfl 1000 ?_) | ((with_reducible show CallX ..); first | (refine callX (.agg [.int .i64 1, .str [49], .str [52], .str [], .lit false, .int .i64 0, .int .i64 0, .int .i64 0, .any (.slice none 0 0)]) (by kernel_rfl) rfl (⟨trivial, trivial, trivial, trivial, trivial, trivial, trivial, trivial, rfl, trivial⟩) (fun β w hm => N w hm.below) ?_) | (refine callX (.lit true) (by kernel_rfl) rfl (trivial) (fun β w hm => S w) ?_)) | ((with_reducible show OpX ..); first | fail) | ((with_reducible show ∃ _ : SV, _); first | fail) | ((with_reducible show ∃ _, _); first | fail))
  all_goals first | rfl | trace_state
end
end Go.Proofs.YtdkhkfdenlabaaaGreatDoor
