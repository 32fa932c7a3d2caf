/- References: the law RefCopiedAndMoved, by the reckoning walk. -/
import Derived.Test.YtgphgimbnflhfaaDoorRfS2
import Derived.Test.YtgphgimbnflhfaaDoorRfS0
import Derived.Test.YtgphgimbnflhfaaDoorRfC2
set_option linter.unusedSimpArgs false
set_option linter.unusedVariables false
namespace Go.Proofs.YtgphgimbnflhfaaDoor
open Go.RowKit
open Sym
theorem block_two (b : RfP.Rect) (d r : Int) : RfP.blockP b d r = 0 ∨ RfP.blockP b d r = 2 := by unfold RfP.blockP; split <;> simp
/-- the law's walk over what the functions answer -/
structure CM (x : RfP.Ref) (b : RfP.Rect) (d r : Int) (E B : Int) (Yc : RfP.Ref) (ec : Int) (Ym : RfP.Ref) (em : Int) : Prop where
  c : RfP.copiedX x d r = (Yc, ec)
  m : RfP.movedX x b d r = (Ym, em)
  e : RfP.errP x = E
  b : RfP.blockP b d r = B
/-- what the answers are -/
structure CMs (x : RfP.Ref) (b : RfP.Rect) (d r : Int) (E B : Int) (Yc : RfP.Ref) (ec : Int) (Ym : RfP.Ref) (em : Int) : Prop where
  k1 : E ≠ 0 → Yc = RfP.zeroR ∧ ec = E ∧ Ym = RfP.zeroR ∧ em = E
  k2 : E = 0 → ((d < -1073741824 ∨ 1073741824 < d) ∨ (r < -1073741824 ∨ 1073741824 < r)) → Yc = RfP.zeroR ∧ ec = 2
  k3 : E = 0 → ¬ ((d < -1073741824 ∨ 1073741824 < d) ∨ (r < -1073741824 ∨ 1073741824 < r)) → Yc = RfP.copyR x d r ∧ ec = 0
  k4 : E = 0 → B ≠ 0 → Ym = RfP.zeroR ∧ em = B
  k5 : E = 0 → B = 0 → Ym = RfP.moveR x b d r ∧ em = 0
theorem cms {x : RfP.Ref} {b : RfP.Rect} {d r : Int} {E B : Int} {Yc : RfP.Ref} {ec : Int} {Ym : RfP.Ref} {em : Int} (h : CM x b d r E B Yc ec Ym em) : CMs x b d r E B Yc ec Ym em := by
  obtain ⟨hc, hm, he, hb⟩ := h
  rw [RfP.err_check] at he
  unfold RfP.copiedX at hc
  unfold RfP.movedX at hm
  have hf : (RfP.farP d || RfP.farP r) = true ↔ ((d < -1073741824 ∨ 1073741824 < d) ∨ (r < -1073741824 ∨ 1073741824 < r)) := by unfold RfP.farP; simp
  have hb2 := block_two b d r
  rw [hb] at hb2 hm
  rw [he] at hc hm
  by_cases q : E = 0
  · rw [if_neg (fun e => e q)] at hc hm
    refine ⟨fun h => absurd q h, fun _ h => ?_, fun _ h => ?_, fun _ h => ?_, fun _ h => ?_⟩
    · rw [if_pos (hf.2 h)] at hc; injection hc with a b; exact ⟨a.symm, b.symm⟩
    · rw [if_neg (fun e => h (hf.1 e)), RfP.copy_same x d r (he.trans q)] at hc; injection hc with a b; exact ⟨a.symm, b.symm⟩
    · rw [if_pos h] at hm; injection hm with a b; exact ⟨a.symm, by omega⟩
    · rw [if_neg (fun e => e h), RfP.move_same x b d r (he.trans q)] at hm; injection hm with a b; exact ⟨a.symm, b.symm⟩
  · rw [if_pos q] at hc hm
    injection hc with a b
    injection hm with e f
    exact ⟨fun _ => ⟨a.symm, b.symm, e.symm, f.symm⟩, fun h => absurd h q, fun h => absurd h q, fun h => absurd h q, fun h => absurd h q⟩
attribute [local irreducible] Sym.AggEq RfP.copiedX RfP.movedX RfP.errP RfP.checkP RfP.blockP RfP.copyR RfP.moveR
set_option maxRecDepth 100000 in
set_option maxHeartbeats 4000000 in
theorem movedLaw_any (x : RfP.Ref) (b : RfP.Rect) (d r : Int) (w : World) (hs : x.sh.length ≤ 9223372036854775807) : Calls Tryd.prog 5 #[.agg (refC x), .agg #[.int .i64 b.r, .int .i64 b.c, .int .i64 b.h, .int .i64 b.w], .int .i64 d, .int .i64 r] w (TruePost w) := by
  have hE : RfP.errP x = RfP.checkP x := RfP.err_check x
  have run : ∀ (E B : Int) (Yc : RfP.Ref) (ec : Int) (Ym : RfP.Ref) (em : Int), CM x b d r E B Yc ec Ym em → Calls Tryd.prog 5 #[.agg (refC x), .agg #[.int .i64 b.r, .int .i64 b.c, .int .i64 b.h, .int .i64 b.w], .int .i64 d, .int .i64 r] w (TruePost w) := by
    intro E B Yc ec Ym em h
    refine enter env_ok Tryd.func5 rfl Tryd.results5 Tryd.ntmps5 [] [] [rS x, .agg [.int .i64 b.r, .int .i64 b.c, .int .i64 b.h, .int .i64 b.w], .int .i64 d, .int .i64 r] (by simp [SV.oks, SV.ok]) (Nat.le_of_ble_eq_true rfl) w _ 1000 ?_
    repeat' (first | ((with_reducible first | show wpS _ _ _ _ | show putD _ _ _ _ | show putW _ _ _ _ | show splitG _ _ _ | show wpQ _ _ _ _ _ _ | show wpD _ _ _ _ _ _ _); conv => whnf) | ((with_reducible show RetN _ _ _); refine retB fun β => ?_) | ((with_reducible show _ ∧ _); first | (apply And.intro; (· intro h; exfalso; first | omega | (revert h; decide)); intro _) | (apply And.intro; rotate_left; (· intro h; exfalso; first | omega | (revert h; decide)); intro _) | (refine ⟨fun _ => ?_, fun _ => ?_⟩) | (apply And.intro; · kernel_rfl) | (apply And.intro; · (show inK _ _; unfold inK; omega)) | (apply And.intro; · (show (_ : Int) ≤ 9223372036854775807; simp only [List.length_append, List.length_drop, List.length_take, List.length_cons, List.length_nil]; omega))) | ((with_reducible show CallN _ _ _ _ _ _ _ _); first | (refine call env_ok rfl (.lit true) 1000 (by kernel_rfl) rfl (trivial) (fun β w hm => refs_any w) ?_) | (refine call env_ok rfl (.tup [.agg (rF Yc), .int .i64 ec]) 1000 (by kernel_rfl) rfl (by simp [SV.ok, SV.oks]) (fun β w hm => by have := Copied_any x d r w; rw [h.c] at this; exact this) ?_) | (refine call env_ok rfl (.tup [.agg (rF Ym), .int .i64 em]) 1000 (by kernel_rfl) rfl (by simp [SV.ok, SV.oks]) (fun β w hm => by have := Moved_any x b d r w; rw [h.m] at this; exact this) ?_) | (refine call env_ok rfl (.int .i64 E) 1000 (by kernel_rfl) rfl (trivial) (fun β w hm => by have := RefError_any x w hs; rw [h.e] at this; exact this) ?_) | (refine call env_ok rfl (.int .i64 B) 1000 (by kernel_rfl) rfl (trivial) (fun β w hm => by have := blockError_any b d r w; rw [h.b] at this; exact this) ?_) | (refine call env_ok rfl (.prop (_ < -1073741824 ∨ 1073741824 < _) inferInstance) 1000 (by kernel_rfl) rfl (trivial) (fun β w hm => lfarC _ β w) ?_)) | ((with_reducible show ∃ _ : Bool, _); first | (refine ⟨_, aggRefZ Yc, ?_⟩) | (refine ⟨_, aggRefZ Ym, ?_⟩) | (refine ⟨_, aggRef Yc (RfP.copyR x d r), ?_⟩) | (refine ⟨_, aggRef Ym (RfP.moveR x b d r), ?_⟩)) | ((with_reducible show ∃ _ : SV, _); first | (refine ⟨.agg (rF (RfP.copyR x d r)), by kernel_rfl, by simp [SV.ok, SV.oks], fun β w hm => RCopied_any x d r w (by rw [← hE, h.e]; omega) (by unfold RfP.farP; simp; omega) (by unfold RfP.farP; simp; omega), ?_⟩) | (refine ⟨.agg (rF (RfP.moveR x b d r)), by kernel_rfl, by simp [SV.ok, SV.oks], fun β w hm => RMoved_any x b d r w (by rw [← hE, h.e]; omega) (by rw [h.b]; omega), ?_⟩)))
    all_goals have K := cms h
    all_goals obtain ⟨k1, k2, k3, k4, k5⟩ := K
    all_goals clear h hE hs
    all_goals by_cases q1 : E = 0
    all_goals by_cases q2 : B = 0
    all_goals by_cases q3 : ((d < -1073741824 ∨ 1073741824 < d) ∨ (r < -1073741824 ∨ 1073741824 < r))
    all_goals first | (exfalso; omega) | skip
    all_goals simp_all [SV.den, RfP.eqR_self]
  exact run _ _ _ _ _ _ ⟨rfl, rfl, rfl, rfl⟩
end Go.Proofs.YtgphgimbnflhfaaDoor
