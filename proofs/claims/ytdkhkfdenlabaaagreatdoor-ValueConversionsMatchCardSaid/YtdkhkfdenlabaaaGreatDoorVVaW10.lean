/- Values, the program: small letters; valu -/
import Derived.Test.YtdkhkfdenlabaaaGreatDoorVGG
import Derived.Test.YtdkhkfdenlabaaaGreatDoorVGP
set_option linter.unusedSimpArgs false
set_option linter.unusedVariables false
set_option maxRecDepth 100000
set_option maxHeartbeats 64000000
namespace Go.Proofs.YtdkhkfdenlabaaaGreatDoor
open Go.Proofs.Tryz
open Go.RowKit
open Sym
attribute [local irreducible] Calls Sym.bM ae.nd ae.bu ae.upd ae.ak ae.ay
theorem Qw {l : List UInt8} {i : Nat} (h : i < l.length) : (dJ l)[i]? = some (.int .u8 ((l.getD i 0).toNat : Int)) := by
 simp [dJ, List.getD, h]
theorem GH (s : List UInt8) (w : World) (hw0 : 0 < w.heap.size) (hs : s.length <= 1000000) (hn : ∀ i, i < s.length -> ¬ (65 <= (s.getD i 0).toNat /\ (s.getD i 0).toNat <= 90)) : QC 55 #[.string (ah s)] w (.string (ah s)) := by
 refine yE func55 rfl results55 ntmps55 [100007] [] [.str s] w ?_
 repeat' (first | exact ⟨⟩ | refine yG ?_ ?_ | (refine F7 s hw0 rfl rfl underlying9 underlying113 underlying5 (fun g cap => ?_)) | refine yO (aJ underlying113) ?_ | intro _)
 refine yZ (T := {i : Nat // i <= s.length}) (fun t => ⟨[(3, .any (.slice (some ⟨g, 0, none⟩) s.length cap)), (8, .any (.slice (some ⟨g, 0, none⟩) s.length cap)), (9, .int .i64 (s.length : Nat)), (10, .int .i64 (t.1 : Nat))], [(0, false, .aK (bV w.heap.size (some ⟨g, 0, none⟩) (dJ s)))], 1, 30⟩) (fun t => s.length - t.1) ⟨0, Nat.zero_le _⟩ [] [] (fun t I hI => ?_) yW
 obtain ⟨i, hi⟩ := t
 dsimp only
 by_cases hlt : i < s.length
 ·have hv := Qw hlt
  have hc := hn i hlt
  generalize (s.getD i 0).toNat = c at *
  repeat' (first | exact ⟨⟩ | refine yG ?_ ?_ | refine yN (j := i) underlying113 sizeOf5 ?_ | refine yO (v := .int .u8 (c : Int)) (aP 0 (.int .u8 (c : Int)) (fun w => isAgg5 w) rfl (fun β => by rw [Nat.mul_one]; exact hv)) ?_ | intro _)
  all_goals first | (exfalso; omega) | (refine hI _ ⟨i + 1, by omega⟩ (by dsimp only; omega) yW; done)
 ·repeat' (first | exact ⟨⟩ | refine yG ?_ ?_ | refine yO (J8 0 s underlying113 underlying5 underlying9 rfl rfl) ?_ | intro _)
  all_goals first | (exfalso; omega) | rfl
theorem UQ (w : World) : QC 74 #[.slice none 0 0, .slice none 0 0, .func (.func 15) #[] #[]] w (.bool true) := by
 refine yE func74 rfl results74 ntmps74 [] [] [.any (.slice none 0 0), .any (.slice none 0 0), .fn 15 []] w ?_
 repeat' (first | exact ⟨⟩ | refine yG ?_ ?_ | refine yO (aJ underlying26) ?_ | intro _)
 refine yZ (T := Unit) (fun t => ⟨[(15, .any (.slice none 0 0)), (16, .int .i64 0), (17, .int .i64 0)], [], 0, 32⟩) (fun t => 0) () [] [] (fun t I hI => ?_)
 repeat' (first | exact ⟨⟩ | refine yG ?_ ?_ | intro _)
 all_goals first | (exfalso; omega) | rfl
theorem Tq (f : ae.Fr) (w : World) : QC 15 #[jk (af.iR f) none 0, jk (af.iR f) none 0] w (.bool true) := by
 have E := fun (w' : World) => UQ w'
 obtain ⟨n1, n2⟩ := f
 refine yE func15 rfl results15 ntmps15 [] [] [.agg [.int .i64 1, .str n1, .str n2, .str [], .lit false, .int .i64 0, .int .i64 0, .int .i64 0, .any (.slice none 0 0)], .agg [.int .i64 1, .str n1, .str n2, .str [], .lit false, .int .i64 0, .int .i64 0, .int .i64 0, .any (.slice none 0 0)]] w ?_
 repeat' (first | exact ⟨⟩ | refine yG ?_ ?_ | refine yA (.lit true) (fun _ => E) ?_ | ((with_reducible show ∃ _ : SV, _); first | (refine ⟨.lit true, ?ok, qO false false true (fun _ => rfl) (fun _ => rfl) rfl underlying4, ?_⟩; (case ok => exact fun _ _ => trivial))) | ((with_reducible show ∃ _, _); first | (refine ⟨true, pF _ _, ?_⟩)) | intro _)
 all_goals first | rfl | (exfalso; omega)
end Go.Proofs.YtdkhkfdenlabaaaGreatDoor
