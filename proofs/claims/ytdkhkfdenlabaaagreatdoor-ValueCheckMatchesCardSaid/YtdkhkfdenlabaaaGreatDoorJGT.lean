/- Values, the program: the makers of values; values held against each other. A walk that reckons: an array of numbers, sliced. A walk that reckons: bytes that are known, turned into a string. -/
import Derived.Test.YtdkhkfdenlabaaaGreatDoorJGS
import Derived.Test.YtdkhkfdenlabaaaGreatDoorJGF
set_option linter.unusedSimpArgs false
set_option linter.unusedVariables false
namespace Go.Proofs.YtdkhkfdenlabaaaGreatDoor
open Go.RowKit
open Sym
attribute [local irreducible] Calls Sym.AggEq ExP.nd ExP.dig ExP.upd ExP.writeF ExP.writeE
abbrev IsV (t : VaP.VT) (w : World) (e : Ending) (w' : World) : Prop := e = .returned (vtV t none 0) ∧ Below w.heap.size w w'
set_option maxRecDepth 100000 in
set_option maxHeartbeats 4000000 in
theorem valid_good (t : VaP.VT) (a : Option Addr) (cap : Nat) (w : World) (hw : XV w) (ht : VIn w t a cap) (h : VaP.vErr t = 0) : Calls Tryz.prog 76 #[vtV t a cap] w fun e w' => e = .returned (vtV t a cap) ∧ Below w.heap.size w w' := by
  have C := fun (w' : World) (hb : Below w.heap.size w w') => vcheck_any t a cap w' (hw.below hb) (ht.lift hb)
  rw [h] at C
  clear ht h
  obtain ⟨k, ⟨n1, n2⟩, tx, on, cd, rw', cl, its⟩ := t
  unfold vtV at *
  dsimp only at *
  refine enter env_ok Tryz.func76 rfl Tryz.results76 Tryz.ntmps76 [] [] [.agg [.int .i64 k, .str n1, .str n2, .str tx, .bool on, .int .i64 cd, .int .i64 rw', .int .i64 cl, .any (.slice a its.length cap)]] ⟨⟨trivial, trivial, trivial, trivial, trivial, trivial, trivial, trivial, rfl, trivial⟩, trivial⟩ (Nat.le_of_ble_eq_true rfl) w _ 1000 ?_
  repeat' (first | ((with_reducible first | show wpS .. | show putD .. | show putW .. | show splitG .. | show wpQ .. | show wpD .. | show wpX .. | show expX .. | show stepX .. | show keepR .. | show wpY ..); conv => whnf) | ((with_reducible show RetN ..); refine retB fun β => ?_) | ((with_reducible show _ ∧ _); first | (refine ⟨fun h => absurd h (by first | omega | decide), fun _ => ?_⟩) | (refine ⟨fun _ => ?_, fun h => absurd h (by first | omega | decide)⟩) | (refine ⟨fun _ => ?_, fun _ => ?_⟩) | (apply And.intro; · kernel_rfl) | (apply And.intro; · (show inK _ _; unfold inK; omega)) | (apply And.intro; · (show (_ : Int) ≤ 9223372036854775807; (try simp only [lenS]); omega))) | ((with_reducible show AllBe ..); refine allBe fun βe => ?_; conv => whnf) | ((with_reducible show bothX ..); refine bothI ?_ ?_; conv => whnf) | (with_reducible exact trivial) | ((with_reducible show CallN ..); refine call_of env_ok rfl 1000 ?_) | ((with_reducible show XopN ..); refine xop_of env_ok rfl 1000 ?_) | ((with_reducible show CallX ..); first | (refine callX (.int .i64 0) (by kernel_rfl) rfl (trivial) (fun β w hm => C w hm.below) ?_)) | ((with_reducible show OpX ..); first | fail) | ((with_reducible show ∃ _ : SV, _); first | fail) | ((with_reducible show ∃ _, _); first | fail))
  all_goals first | (exfalso; omega) | rfl
set_option maxRecDepth 100000 in
set_option maxHeartbeats 4000000 in
theorem valid_bad (t : VaP.VT) (a : Option Addr) (cap : Nat) (w : World) (hw : XV w) (ht : VIn w t a cap) (h : VaP.vErr t ≠ 0) : Calls Tryz.prog 76 #[vtV t a cap] w (IsV (VaP.faultV 2) w) := by
  have C := fun (w' : World) (hb : Below w.heap.size w w') => vcheck_any t a cap w' (hw.below hb) (ht.lift hb)
  generalize VaP.vErr t = E at *
  clear ht
  obtain ⟨k, ⟨n1, n2⟩, tx, on, cd, rw', cl, its⟩ := t
  unfold vtV at *
  dsimp only at *
  refine enter env_ok Tryz.func76 rfl Tryz.results76 Tryz.ntmps76 [] [] [.agg [.int .i64 k, .str n1, .str n2, .str tx, .bool on, .int .i64 cd, .int .i64 rw', .int .i64 cl, .any (.slice a its.length cap)]] ⟨⟨trivial, trivial, trivial, trivial, trivial, trivial, trivial, trivial, rfl, trivial⟩, trivial⟩ (Nat.le_of_ble_eq_true rfl) w _ 1000 ?_
  repeat' (first | ((with_reducible first | show wpS .. | show putD .. | show putW .. | show splitG .. | show wpQ .. | show wpD .. | show wpX .. | show expX .. | show stepX .. | show keepR .. | show wpY ..); conv => whnf) | ((with_reducible show RetN ..); refine retB fun β => ?_) | ((with_reducible show _ ∧ _); first | (refine ⟨fun h => absurd h (by first | omega | decide), fun _ => ?_⟩) | (refine ⟨fun _ => ?_, fun h => absurd h (by first | omega | decide)⟩) | (refine ⟨fun _ => ?_, fun _ => ?_⟩) | (apply And.intro; · kernel_rfl) | (apply And.intro; · (show inK _ _; unfold inK; omega)) | (apply And.intro; · (show (_ : Int) ≤ 9223372036854775807; (try simp only [lenS]); omega))) | ((with_reducible show AllBe ..); refine allBe fun βe => ?_; conv => whnf) | ((with_reducible show bothX ..); refine bothI ?_ ?_; conv => whnf) | (with_reducible exact trivial) | ((with_reducible show CallN ..); refine call_of env_ok rfl 1000 ?_) | ((with_reducible show XopN ..); refine xop_of env_ok rfl 1000 ?_) | ((with_reducible show CallX ..); first | (refine callX (.int .i64 E) (by kernel_rfl) rfl (trivial) (fun β w hm => C w hm.below) ?_)) | ((with_reducible show OpX ..); first | fail) | ((with_reducible show ∃ _ : SV, _); first | fail) | ((with_reducible show ∃ _, _); first | fail))
  all_goals first | (exfalso; omega) | rfl
/-- a value without items -/
theorem VIn.flat {w : World} {t : VaP.VT} (h : t.items = []) (hf : t.Fit) : VIn w t none 0 :=
  .mk t none 0 (fun _ => (none, 0)) hf (by rw [h]; exact Nat.le_refl _) (fun _ => rfl) (fun i x hx => by rw [h] at hx; simp at hx) (fun i x hx => by rw [h] at hx; simp at hx)
theorem valid_flat (t : VaP.VT) (w : World) (hw : XV w) (hi : t.items = []) (hf : t.Fit) : Calls Tryz.prog 76 #[vtV t none 0] w (IsV (if VaP.vErr t = 0 then t else VaP.faultV 2) w) := by
  by_cases h : VaP.vErr t = 0
  · rw [if_pos h]; exact valid_good t none 0 w hw (.flat hi hf) h
  · rw [if_neg h]; exact valid_bad t none 0 w hw (.flat hi hf) h
theorem VaP.vErr_num (f : ExP.Fr) : VaP.vErr (VaP.numF f) = ExP.readE f := by
  unfold VaP.vErr VaP.vErr0 VaP.numF
  simp
theorem VaP.vErr_text (s : List UInt8) : VaP.vErr (VaP.rawT s) = VaP.txtE s := by
  unfold VaP.vErr VaP.vErr0 VaP.rawT
  simp
theorem VaP.vErr_fault (c : Int) : VaP.vErr (VaP.faultV c) = if c < 1 ∨ 8 < c then 2 else 0 := by
  unfold VaP.vErr VaP.vErr0 VaP.faultV
  simp
set_option maxRecDepth 100000 in
theorem vnumber_any (f : ExP.Fr) (w : World) (hw : XV w) (h1 : f.1.length ≤ 9223372036854775807) (h2 : f.2.length ≤ 9223372036854775807) : Calls Tryz.prog 19 #[frV f] w (IsV (if ExP.readE f = 0 then VaP.numF f else VaP.faultV 2) w) := by
  have V := fun (w' : World) (hb : Below w.heap.size w w') => valid_flat (VaP.numF f) w' (hw.below hb) rfl ⟨h1, h2, Nat.zero_le _, Nat.zero_le _⟩
  rw [VaP.vErr_num] at V
  obtain ⟨f1, f2⟩ := f
  by_cases h : ExP.readE (f1, f2) = 0
  · simp only [if_pos h] at V ⊢
    refine enter env_ok Tryz.func19 rfl Tryz.results19 Tryz.ntmps19 [] [] [.agg [.str f1, .str f2]] (by simp [SV.oks, SV.ok]) (Nat.le_of_ble_eq_true rfl) w _ 1000 ?_
    repeat' (first | ((with_reducible first | show wpS .. | show putD .. | show putW .. | show splitG .. | show wpQ .. | show wpD .. | show wpX .. | show expX .. | show stepX .. | show keepR .. | show wpY ..); conv => whnf) | ((with_reducible show RetN ..); refine retB fun β => ?_) | ((with_reducible show _ ∧ _); first | (refine ⟨fun h => absurd h (by first | omega | decide), fun _ => ?_⟩) | (refine ⟨fun _ => ?_, fun h => absurd h (by first | omega | decide)⟩) | (refine ⟨fun _ => ?_, fun _ => ?_⟩) | (apply And.intro; · kernel_rfl) | (apply And.intro; · (show inK _ _; unfold inK; omega)) | (apply And.intro; · (show (_ : Int) ≤ 9223372036854775807; (try simp only [lenS]); omega))) | ((with_reducible show AllBe ..); refine allBe fun βe => ?_; conv => whnf) | ((with_reducible show bothX ..); refine bothI ?_ ?_; conv => whnf) | (with_reducible exact trivial) | ((with_reducible show CallN ..); refine call_of env_ok rfl 1000 ?_) | ((with_reducible show XopN ..); refine xop_of env_ok rfl 1000 ?_) | ((with_reducible show CallX ..); first | (refine callX (.agg [.int .i64 1, .str f1, .str f2, .str [], .lit false, .int .i64 0, .int .i64 0, .int .i64 0, .any (.slice none 0 0)]) (by kernel_rfl) rfl (⟨trivial, trivial, trivial, trivial, trivial, trivial, trivial, trivial, rfl, trivial⟩) (fun β w hm => V w hm.below) ?_)) | ((with_reducible show OpX ..); first | fail) | ((with_reducible show ∃ _ : SV, _); first | fail) | ((with_reducible show ∃ _, _); first | fail))
    all_goals rfl
  · simp only [if_neg h] at V ⊢
    refine enter env_ok Tryz.func19 rfl Tryz.results19 Tryz.ntmps19 [] [] [.agg [.str f1, .str f2]] (by simp [SV.oks, SV.ok]) (Nat.le_of_ble_eq_true rfl) w _ 1000 ?_
    repeat' (first | ((with_reducible first | show wpS .. | show putD .. | show putW .. | show splitG .. | show wpQ .. | show wpD .. | show wpX .. | show expX .. | show stepX .. | show keepR .. | show wpY ..); conv => whnf) | ((with_reducible show RetN ..); refine retB fun β => ?_) | ((with_reducible show _ ∧ _); first | (refine ⟨fun h => absurd h (by first | omega | decide), fun _ => ?_⟩) | (refine ⟨fun _ => ?_, fun h => absurd h (by first | omega | decide)⟩) | (refine ⟨fun _ => ?_, fun _ => ?_⟩) | (apply And.intro; · kernel_rfl) | (apply And.intro; · (show inK _ _; unfold inK; omega)) | (apply And.intro; · (show (_ : Int) ≤ 9223372036854775807; (try simp only [lenS]); omega))) | ((with_reducible show AllBe ..); refine allBe fun βe => ?_; conv => whnf) | ((with_reducible show bothX ..); refine bothI ?_ ?_; conv => whnf) | (with_reducible exact trivial) | ((with_reducible show CallN ..); refine call_of env_ok rfl 1000 ?_) | ((with_reducible show XopN ..); refine xop_of env_ok rfl 1000 ?_) | ((with_reducible show CallX ..); first | (refine callX (.agg [.int .i64 4, .str [], .str [], .str [], .lit false, .int .i64 2, .int .i64 0, .int .i64 0, .any (.slice none 0 0)]) (by kernel_rfl) rfl (⟨trivial, trivial, trivial, trivial, trivial, trivial, trivial, trivial, rfl, trivial⟩) (fun β w hm => V w hm.below) ?_)) | ((with_reducible show OpX ..); first | fail) | ((with_reducible show ∃ _ : SV, _); first | fail) | ((with_reducible show ∃ _, _); first | fail))
    all_goals rfl
set_option maxRecDepth 100000 in
theorem vfault_any (c : Int) (w : World) (hw : XV w) : Calls Tryz.prog 22 #[.int .i64 c] w (IsV (VaP.faultV (if c < 1 ∨ 8 < c then 2 else c)) w) := by
  have V := fun (w' : World) (hb : Below w.heap.size w w') => valid_flat (VaP.faultV c) w' (hw.below hb) rfl ⟨Nat.zero_le _, Nat.zero_le _, Nat.zero_le _, Nat.zero_le _⟩
  rw [VaP.vErr_fault] at V
  obtain ⟨r, hr⟩ : ∃ r : Int, r = if c < 1 ∨ 8 < c then 2 else c := ⟨_, rfl⟩
  have hV : (if (if c < 1 ∨ 8 < c then (2 : Int) else 0) = 0 then VaP.faultV c else VaP.faultV 2) = VaP.faultV r := by
    rw [hr]
    by_cases h : c < 1 ∨ 8 < c
    · rw [if_pos h, if_neg (by omega), if_pos h]
    · rw [if_neg h, if_pos rfl, if_neg h]
  rw [← hr]
  simp only [hV] at V
  refine enter env_ok Tryz.func22 rfl Tryz.results22 Tryz.ntmps22 [] [] [.int .i64 c] (by simp [SV.oks, SV.ok]) (Nat.le_of_ble_eq_true rfl) w _ 1000 ?_
  repeat' (first | ((with_reducible first | show wpS .. | show putD .. | show putW .. | show splitG .. | show wpQ .. | show wpD .. | show wpX .. | show expX .. | show stepX .. | show keepR .. | show wpY ..); conv => whnf) | ((with_reducible show RetN ..); refine retB fun β => ?_) | ((with_reducible show _ ∧ _); first | (refine ⟨fun h => absurd h (by first | omega | decide), fun _ => ?_⟩) | (refine ⟨fun _ => ?_, fun h => absurd h (by first | omega | decide)⟩) | (refine ⟨fun _ => ?_, fun _ => ?_⟩) | (apply And.intro; · kernel_rfl) | (apply And.intro; · (show inK _ _; unfold inK; omega)) | (apply And.intro; · (show (_ : Int) ≤ 9223372036854775807; (try simp only [lenS]); omega))) | ((with_reducible show AllBe ..); refine allBe fun βe => ?_; conv => whnf) | ((with_reducible show bothX ..); refine bothI ?_ ?_; conv => whnf) | (with_reducible exact trivial) | ((with_reducible show CallN ..); refine call_of env_ok rfl 1000 ?_) | ((with_reducible show XopN ..); refine xop_of env_ok rfl 1000 ?_) | ((with_reducible show CallX ..); first | (refine callX (.agg [.int .i64 4, .str [], .str [], .str [], .lit false, .int .i64 r, .int .i64 0, .int .i64 0, .any (.slice none 0 0)]) (by kernel_rfl) rfl (⟨trivial, trivial, trivial, trivial, trivial, trivial, trivial, trivial, rfl, trivial⟩) (fun β w hm => V w hm.below) ?_)) | ((with_reducible show OpX ..); first | fail) | ((with_reducible show ∃ _ : SV, _); first | fail) | ((with_reducible show ∃ _, _); first | fail))
  all_goals rfl
set_option maxRecDepth 100000 in
theorem vtextv_any (s : List UInt8) (w : World) (hw : XV w) (hs : s.length ≤ 9223372036854775807) : Calls Tryz.prog 20 #[.string (bstr s)] w (IsV (VaP.textV s) w) := by
  have V := fun (w' : World) (hb : Below w.heap.size w w') => valid_flat (VaP.rawT s) w' (hw.below hb) rfl ⟨Nat.zero_le _, Nat.zero_le _, hs, Nat.zero_le _⟩
  rw [VaP.vErr_text] at V
  unfold VaP.textV
  by_cases h : VaP.txtE s = 0
  · simp only [if_pos h] at V ⊢
    refine enter env_ok Tryz.func20 rfl Tryz.results20 Tryz.ntmps20 [] [] [.str s] (by simp [SV.oks, SV.ok]) (Nat.le_of_ble_eq_true rfl) w _ 1000 ?_
    repeat' (first | ((with_reducible first | show wpS .. | show putD .. | show putW .. | show splitG .. | show wpQ .. | show wpD .. | show wpX .. | show expX .. | show stepX .. | show keepR .. | show wpY ..); conv => whnf) | ((with_reducible show RetN ..); refine retB fun β => ?_) | ((with_reducible show _ ∧ _); first | (refine ⟨fun h => absurd h (by first | omega | decide), fun _ => ?_⟩) | (refine ⟨fun _ => ?_, fun h => absurd h (by first | omega | decide)⟩) | (refine ⟨fun _ => ?_, fun _ => ?_⟩) | (apply And.intro; · kernel_rfl) | (apply And.intro; · (show inK _ _; unfold inK; omega)) | (apply And.intro; · (show (_ : Int) ≤ 9223372036854775807; (try simp only [lenS]); omega))) | ((with_reducible show AllBe ..); refine allBe fun βe => ?_; conv => whnf) | ((with_reducible show bothX ..); refine bothI ?_ ?_; conv => whnf) | (with_reducible exact trivial) | ((with_reducible show CallN ..); refine call_of env_ok rfl 1000 ?_) | ((with_reducible show XopN ..); refine xop_of env_ok rfl 1000 ?_) | ((with_reducible show CallX ..); first | (refine callX (.agg [.int .i64 2, .str [], .str [], .str s, .lit false, .int .i64 0, .int .i64 0, .int .i64 0, .any (.slice none 0 0)]) (by kernel_rfl) rfl (⟨trivial, trivial, trivial, trivial, trivial, trivial, trivial, trivial, rfl, trivial⟩) (fun β w hm => V w hm.below) ?_)) | ((with_reducible show OpX ..); first | fail) | ((with_reducible show ∃ _ : SV, _); first | fail) | ((with_reducible show ∃ _, _); first | fail))
    all_goals rfl
  · simp only [if_neg h] at V ⊢
    refine enter env_ok Tryz.func20 rfl Tryz.results20 Tryz.ntmps20 [] [] [.str s] (by simp [SV.oks, SV.ok]) (Nat.le_of_ble_eq_true rfl) w _ 1000 ?_
    repeat' (first | ((with_reducible first | show wpS .. | show putD .. | show putW .. | show splitG .. | show wpQ .. | show wpD .. | show wpX .. | show expX .. | show stepX .. | show keepR .. | show wpY ..); conv => whnf) | ((with_reducible show RetN ..); refine retB fun β => ?_) | ((with_reducible show _ ∧ _); first | (refine ⟨fun h => absurd h (by first | omega | decide), fun _ => ?_⟩) | (refine ⟨fun _ => ?_, fun h => absurd h (by first | omega | decide)⟩) | (refine ⟨fun _ => ?_, fun _ => ?_⟩) | (apply And.intro; · kernel_rfl) | (apply And.intro; · (show inK _ _; unfold inK; omega)) | (apply And.intro; · (show (_ : Int) ≤ 9223372036854775807; (try simp only [lenS]); omega))) | ((with_reducible show AllBe ..); refine allBe fun βe => ?_; conv => whnf) | ((with_reducible show bothX ..); refine bothI ?_ ?_; conv => whnf) | (with_reducible exact trivial) | ((with_reducible show CallN ..); refine call_of env_ok rfl 1000 ?_) | ((with_reducible show XopN ..); refine xop_of env_ok rfl 1000 ?_) | ((with_reducible show CallX ..); first | (refine callX (.agg [.int .i64 4, .str [], .str [], .str [], .lit false, .int .i64 2, .int .i64 0, .int .i64 0, .any (.slice none 0 0)]) (by kernel_rfl) rfl (⟨trivial, trivial, trivial, trivial, trivial, trivial, trivial, trivial, rfl, trivial⟩) (fun β w hm => V w hm.below) ?_)) | ((with_reducible show OpX ..); first | fail) | ((with_reducible show ∃ _ : SV, _); first | fail) | ((with_reducible show ∃ _, _); first | fail))
    all_goals rfl
set_option maxRecDepth 100000 in
theorem vbool_any (b : Bool) (w : World) : Calls Tryz.prog 23 #[.bool b] w (IsV (VaP.boolV b) w) := by
  refine enter env_ok Tryz.func23 rfl Tryz.results23 Tryz.ntmps23 [] [] [.bool b] (by simp [SV.oks, SV.ok]) (Nat.le_of_ble_eq_true rfl) w _ 1000 ?_
  repeat' (first | ((with_reducible first | show wpS .. | show putD .. | show putW .. | show splitG .. | show wpQ .. | show wpD .. | show wpX .. | show expX .. | show stepX .. | show keepR .. | show wpY ..); conv => whnf) | ((with_reducible show RetN ..); refine retB fun β => ?_) | ((with_reducible show _ ∧ _); first | (refine ⟨fun h => absurd h (by first | omega | decide), fun _ => ?_⟩) | (refine ⟨fun _ => ?_, fun h => absurd h (by first | omega | decide)⟩) | (refine ⟨fun _ => ?_, fun _ => ?_⟩) | (apply And.intro; · kernel_rfl) | (apply And.intro; · (show inK _ _; unfold inK; omega)) | (apply And.intro; · (show (_ : Int) ≤ 9223372036854775807; (try simp only [lenS]); omega))) | ((with_reducible show AllBe ..); refine allBe fun βe => ?_; conv => whnf) | ((with_reducible show bothX ..); refine bothI ?_ ?_; conv => whnf) | (with_reducible exact trivial) | ((with_reducible show CallN ..); refine call_of env_ok rfl 1000 ?_) | ((with_reducible show XopN ..); refine xop_of env_ok rfl 1000 ?_) | ((with_reducible show CallX ..); first | fail) | ((with_reducible show OpX ..); first | fail) | ((with_reducible show ∃ _ : SV, _); first | fail) | ((with_reducible show ∃ _, _); first | fail))
  all_goals rfl
end Go.Proofs.YtdkhkfdenlabaaaGreatDoor
namespace Go.Proofs.YtdkhkfdenlabaaaGreatDoor
open Go.RowKit
namespace Sym
def enumL {α : Type} : Nat → List α → List (Nat × α)
  | _, [] => []
  | p, v :: r => (p, v) :: enumL (p + 1) r
theorem fill_all : ∀ (vs pre post : List Value), (∀ v ∈ vs, v.cells = #[v]) → post.length = vs.length → Instr.fill (fun i => some (i, 1)) (pre ++ post).toArray (enumL pre.length vs) = some (pre ++ vs).toArray
  | [], pre, post, _, hl => by
    have : post = [] := List.eq_nil_of_length_eq_zero hl
    subst this; rfl
  | v :: vs, pre, post, h, hl => by
    cases post with
    | nil => cases hl
    | cons q post =>
      have hv := h v (by simp)
      have ih := fill_all vs (pre ++ [v]) post (fun u hu => h u (by simp [hu])) (by simpa using hl)
      have hlen : (pre ++ [v]).length = pre.length + 1 := by simp
      rw [hlen] at ih
      have hA : ((pre ++ q :: post).toArray).setIfInBounds (pre.length + 0) v = (pre ++ [v] ++ post).toArray := by
        apply Array.toList_inj.1
        simp
      show (match (some (pre.length, 1) : Option (Nat × Nat)) with
        | none => none
        | some (off, size) => if v.cells.size ≠ size || off + v.cells.size > (pre ++ q :: post).toArray.size then none else Instr.fill (fun i => some (i, 1)) (v.cells.zipIdx.foldl (fun cs (c, j) => cs.setIfInBounds (off + j) c) (pre ++ q :: post).toArray) (enumL (pre.length + 1) vs)) = _
      rw [hv]
      have hc : ¬ ((#[v].size ≠ 1 || decide (pre.length + #[v].size > (pre ++ q :: post).toArray.size)) = true) := by simp
      have hz : (#[v].zipIdx.foldl (fun cs (x : Value × Nat) => cs.setIfInBounds (pre.length + x.2) x.1) (pre ++ q :: post).toArray) = (pre ++ [v] ++ post).toArray := hA
      dsimp only
      rw [if_neg hc]
      have hz' : (#[v].zipIdx.foldl (fun cs x => match x with | (c, j) => cs.setIfInBounds (pre.length + j) c) (pre ++ q :: post).toArray) = (pre ++ [v] ++ post).toArray := hz
      rw [hz', ih]
      simp
theorem enumL_map {α β : Type} (f : α → β) : ∀ (p : Nat) (l : List α), (enumL p l).map (fun (x : Nat × α) => (x.1, f x.2)) = enumL p (l.map f)
  | _, [] => rfl
  | p, v :: r => by simp only [enumL, List.map_cons, enumL_map f (p + 1) r]
/-- an array of single cells, written out -/
theorem x_buildArr {C : Ctx} {G : Blobs} {ps : List (Nat × Operand)} {vs : List SV} {t e : TypeId} {len : Nat} {z : Value} (hp : ps = enumL 0 (ps.map (·.2))) (ht : C.P.underlying t = some (.array len e)) (hs : ∀ w, (sizeOf e).run C.P w = .ok 1 w) (hz : ∀ w, (zeroValue t).run C.P w = .ok z w) (hc : z.cells.size = vs.length) (h1 : ∀ β, ∀ u ∈ SV.dens β vs, u.cells = #[u]) :
    ExtN C G (.build t ⟨ps⟩) vs (.agg vs) := by
  unfold ExtN
  intro ρ β w dst ty pos after g _ _ h
  have h : (ps.map (·.2)).map ρ = SV.dens β vs := by
    have h : ps.map (fun x => ρ x.2) = SV.dens β vs ∨ (ps.map (·.2)).map ρ = SV.dens β vs := .inr h
    exact h.elim (fun h => by rw [List.map_map]; exact h) id
  have q : (underlying t).run C.P w = .ok (.array len e) w := by simp [underlying, ht]
  have e1 : (((⟨ps⟩ : Array (Nat × Operand)).map fun (i, x) => (i, ρ x)).toList) = enumL 0 (SV.dens β vs) := by
    rw [← h, ← enumL_map, ← hp]
    simp
  have f1 : Instr.fill (fun i => some (i * 1, 1)) z.cells (enumL 0 (SV.dens β vs)) = some (SV.dens β vs).toArray := by
    have := fill_all (SV.dens β vs) [] z.cells.toList (h1 β) (by rw [SV.dens_len]; simpa using hc)
    simpa using this
  have hb : (Instr.build t ((⟨ps⟩ : Array (Nat × Operand)).map fun (i, x) => (i, ρ x))).run C.P w = .ok (.agg (SV.dens β vs).toArray) w := by
    unfold Instr.build
    rw [Sem.run_bind, hz]
    simp only [Result.andThen_ok, Sem.run_bind, q, hs, e1, f1]
    rfl
  simp only [execOp, Sem.run_bind, hb]
  simp [SV.den]
end Sym
end Go.Proofs.YtdkhkfdenlabaaaGreatDoor
namespace Go.Proofs.YtdkhkfdenlabaaaGreatDoor
open Go.RowKit
namespace Sym
theorem x_bytesStrF {C : Ctx} {G : Blobs} {x : Operand} {t u e : TypeId} {g cap n bs : Nat} (i : Nat) (l : List UInt8) (hs : C.P.underlying t = some (.slice e)) (he : C.P.underlying e = some (.int .u8)) (hd : C.P.underlying u = some .string)
    (ri : G i = some (SlF bs (some ⟨g, 0, none⟩) (bvals l))) (hn : n = l.length) : ExtN C G (.convert t u x) [.any (.slice (some ⟨g, 0, none⟩) n cap)] (.str l) := by
  unfold ExtN
  intro ρ β w dst ty pos after gd _ hG h
  have e1 : ρ x = .slice (some ⟨g, 0, none⟩) n cap := by simpa [opsX, SV.dens, SV.den] using h
  obtain ⟨hb, ho⟩ := hG i _ ri
  have hc := SlF.at ho hb
  subst hn
  have hr := run_convert_bytes_back (P := C.P) w t u e ⟨g, 0, none⟩ cap l hs he hd (fun j hj => by
    obtain ⟨ad, h1, -, h3⟩ := hc j (.int .u8 ((l[j]'hj).toNat : Int)) (by simp [bvals, hj])
    cases h1
    rw [h3])
  simp [execOp, e1, hr, SV.den, bstr]
theorem x_shlE {C : Ctx} {G : Blobs} {x y : Operand} {t u : TypeId} {k k' : IntKind} {a q : Int} (n : Nat) (c : Int) (hq : q = (n : Nat)) (hc : a * 2 ^ n = c) (hn : n ≤ k.bits) (hw : inK k c) : ExtN C G (.binOp .shl t x y u) [.int k a, .int k' q] (.int k c) := by
  subst hc; subst hq; exact x_shl n hn hw
end Sym
end Go.Proofs.YtdkhkfdenlabaaaGreatDoor
