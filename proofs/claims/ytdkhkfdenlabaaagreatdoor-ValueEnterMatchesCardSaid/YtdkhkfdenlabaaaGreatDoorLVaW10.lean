/- Values, the program: small letters; values held against each -/
import Derived.Test.YtdkhkfdenlabaaaGreatDoorLGG
import Derived.Test.YtdkhkfdenlabaaaGreatDoorLGP
import Derived.Test.YtdkhkfdenlabaaaGreatDoorLGR
set_option linter.unusedSimpArgs false
set_option linter.unusedVariables false
set_option maxRecDepth 100000
set_option maxHeartbeats 64000000
namespace Go.Proofs.YtdkhkfdenlabaaaGreatDoor
open Go.RowKit
open Sym
attribute [local irreducible] Calls Sym.AggEq ExP.nd ExP.dig ExP.upd ExP.writeF ExP.writeE
theorem bvals_at {l : List UInt8} {i : Nat} (h : i < l.length) : (bvals l)[i]? = some (.int .u8 ((l.getD i 0).toNat : Int)) := by
 simp [bvals, List.getD, h]
theorem vlower_small (s : List UInt8) (w : World) (hw0 : 0 < w.heap.size) (hs : s.length ≤ 1000000) (hn : ∀ i, i < s.length → ¬ (65 ≤ (s.getD i 0).toNat ∧ (s.getD i 0).toNat ≤ 90)) : QC 55 #[.string (bstr s)] w (.string (bstr s)) := by
 refine yE Tryz.func55 rfl Tryz.results55 Tryz.ntmps55 [100007] [] [.str s] w ?_
 repeat' (first | refine yX ?_ | (apply And.intro <;> intro _) | apply bothI | refine retB fun β => ?_ | intro βe | (refine opx_strBytes s hw0 rfl rfl Tryz.underlying9 Tryz.underlying113 Tryz.underlying5 (fun g cap => ?_)) | refine yO (x_len Tryz.underlying113) ?_ | exact trivial)
 refine yZ (T := {i : Nat // i ≤ s.length}) (fun t => ⟨[(3, .any (.slice (some ⟨g, 0, none⟩) s.length cap)), (8, .any (.slice (some ⟨g, 0, none⟩) s.length cap)), (9, .int .i64 (s.length : Nat)), (10, .int .i64 (t.1 : Nat))], [(0, false, .blob (SlF w.heap.size (some ⟨g, 0, none⟩) (bvals s)))], 1, 30⟩) (fun t => s.length - t.1) ⟨0, Nat.zero_le _⟩ [] [] (fun t I hI => ?_) (by ((with_reducible show wk _ _); repeat' (first | exact trivial | exact eqSV_refl _ | refine eqI ?_ | refine eqS ?_ | apply And.intro | exact yV | fail)); all_goals exact fun b x h => h)
 obtain ⟨i, hi⟩ := t
 dsimp only
 by_cases hlt : i < s.length
 ·have hv := bvals_at hlt
  have hc := hn i hlt
  generalize (s.getD i 0).toNat = c at *
  repeat' (first | refine yX ?_ | (apply And.intro <;> intro _) | apply bothI | refine retB fun β => ?_ | intro βe | refine yN (j := i) Tryz.underlying113 Tryz.sizeOf5 ?_ | refine yO (v := .int .u8 (c : Int)) (x_loadF 0 (.int .u8 (c : Int)) (fun w => Tryz.isAgg5 w) rfl (fun β => by rw [Nat.mul_one]; exact hv)) ?_ | exact trivial)
  all_goals first | (exfalso; omega) | (refine hI _ ⟨i + 1, by omega⟩ (by dsimp only; omega) (by ((with_reducible show wk _ _); repeat' (first | exact trivial | exact eqSV_refl _ | refine eqI ?_ | refine eqS ?_ | apply And.intro | exact yV | fail)); all_goals exact fun b x h => h); done) | trace_state
 ·repeat' (first | refine yX ?_ | (apply And.intro <;> intro _) | apply bothI | refine retB fun β => ?_ | intro βe | refine yO (x_bytesStrF 0 s Tryz.underlying113 Tryz.underlying5 Tryz.underlying9 rfl rfl) ?_ | exact trivial)
  all_goals first | (exfalso; omega) | rfl | trace_state
theorem eqf_nil (w : World) : QC 74 #[.slice none 0 0, .slice none 0 0, .func (.func 15) #[] #[]] w (.bool true) := by
 refine yE Tryz.func74 rfl Tryz.results74 Tryz.ntmps74 [] [] [.any (.slice none 0 0), .any (.slice none 0 0), .fn 15 []] w ?_
 repeat' (first | refine yX ?_ | (apply And.intro <;> intro _) | apply bothI | refine retB fun β => ?_ | intro βe | refine yO (x_len Tryz.underlying26) ?_ | exact trivial)
 refine yZ (T := Unit) (fun t => ⟨[(15, .any (.slice none 0 0)), (16, .int .i64 0), (17, .int .i64 0)], [], 0, 32⟩) (fun t => 0) () [] [] (fun t I hI => ?_)
 repeat' (first | refine yX ?_ | (apply And.intro <;> intro _) | apply bothI | refine retB fun β => ?_ | intro βe | exact trivial)
 all_goals first | (exfalso; omega) | rfl | trace_state
theorem same_num (f : ExP.Fr) (w : World) : QC 15 #[vtV (VaP.numF f) none 0, vtV (VaP.numF f) none 0] w (.bool true) := by
 have E := fun (w' : World) => eqf_nil w'
 obtain ⟨n1, n2⟩ := f
 refine yE Tryz.func15 rfl Tryz.results15 Tryz.ntmps15 [] [] [.agg [.int .i64 1, .str n1, .str n2, .str [], .lit false, .int .i64 0, .int .i64 0, .int .i64 0, .any (.slice none 0 0)], .agg [.int .i64 1, .str n1, .str n2, .str [], .lit false, .int .i64 0, .int .i64 0, .int .i64 0, .any (.slice none 0 0)]] w ?_
 repeat' (first | refine yX ?_ | (apply And.intro <;> intro _) | apply bothI | refine retB fun β => ?_ | intro βe | refine yK (.lit true) (fun β w hm => E w) ?_ | ((with_reducible show ∃ _ : SV, _); first | (refine ⟨.lit true, ?ok, x_eqBB false false true (fun _ => rfl) (fun _ => rfl) rfl Tryz.underlying4, ?_⟩; (case ok => exact fun _ _ => trivial))) | ((with_reducible show ∃ _, _); first | (refine ⟨true, fracAggT _ _, ?_⟩)) | exact trivial)
 all_goals first | rfl | (exfalso; omega) | trace_state
end Go.Proofs.YtdkhkfdenlabaaaGreatDoor
