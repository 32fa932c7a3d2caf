/- Values, the program: characters, texts, texts of errors. A walk that reckons: an array of numbers, sliced. A walk that reckons: bytes that are known, turned into a string. -/
import Derived.Test.YtdkhkfdenlabaaaGreatDoorKGH
import Derived.Test.YtdkhkfdenlabaaaGreatDoorKGF
set_option linter.unusedSimpArgs false
set_option linter.unusedVariables false
namespace Go.Proofs.YtdkhkfdenlabaaaGreatDoor
open Go.RowKit
open Sym
attribute [local irreducible] Calls Sym.AggEq ExP.nd ExP.dig ExP.upd ExP.writeF ExP.writeE
set_option maxRecDepth 100000 in
theorem char_any (c : Nat) (w : World) : Calls Tryz.prog 106 #[.int .i64 (c : Int)] w fun e w' => e = .returned (.bool (VaP.charP c)) ∧ Below w.heap.size w w' := by
  refine enter env_ok Tryz.func106 rfl Tryz.results106 Tryz.ntmps106 [] [] [.int .i64 (c : Int)] (by simp [SV.oks, SV.ok]) (Nat.le_of_ble_eq_true rfl) w _ 1000 ?_
  repeat' (first | ((with_reducible first | show wpS .. | show putD .. | show putW .. | show splitG .. | show wpQ .. | show wpD .. | show wpX .. | show expX .. | show stepX .. | show keepR .. | show wpY ..); conv => whnf) | ((with_reducible show RetN ..); refine retB fun β => ?_) | ((with_reducible show _ ∧ _); first | (refine ⟨fun h => absurd h (by first | omega | decide), fun _ => ?_⟩) | (refine ⟨fun _ => ?_, fun h => absurd h (by first | omega | decide)⟩) | (refine ⟨fun _ => ?_, fun _ => ?_⟩) | (apply And.intro; · kernel_rfl) | (apply And.intro; · (show inK _ _; unfold inK; omega)) | (apply And.intro; · (show (_ : Int) ≤ 9223372036854775807; (try simp only [lenS]); omega))) | ((with_reducible show AllBe ..); refine allBe fun βe => ?_; conv => whnf) | ((with_reducible show bothX ..); refine bothI ?_ ?_; conv => whnf) | (with_reducible exact trivial) | ((with_reducible show CallN ..); refine call_of env_ok rfl 1000 ?_) | ((with_reducible show XopN ..); refine xop_of env_ok rfl 1000 ?_) | ((with_reducible show CallX ..); first | fail) | ((with_reducible show OpX ..); first | fail) | ((with_reducible show ∃ _ : SV, _); first | fail) | ((with_reducible show ∃ _, _); first | fail))
  all_goals (simp only [SV.den, VaP.charP]; congr 1; rw [Bool.eq_iff_iff]; simp; omega)
set_option maxRecDepth 100000 in
theorem rchar_any (c : Nat) (w : World) : Calls Tryz.prog 121 #[.int .i64 (c : Int)] w fun e w' => e = .returned (.bool (VaP.charP c)) ∧ Below w.heap.size w w' := by
  refine enter env_ok Tryz.func121 rfl Tryz.results121 Tryz.ntmps121 [] [] [.int .i64 (c : Int)] (by simp [SV.oks, SV.ok]) (Nat.le_of_ble_eq_true rfl) w _ 1000 ?_
  repeat' (first | ((with_reducible first | show wpS .. | show putD .. | show putW .. | show splitG .. | show wpQ .. | show wpD .. | show wpX .. | show expX .. | show stepX .. | show keepR .. | show wpY ..); conv => whnf) | ((with_reducible show RetN ..); refine retB fun β => ?_) | ((with_reducible show _ ∧ _); first | (refine ⟨fun h => absurd h (by first | omega | decide), fun _ => ?_⟩) | (refine ⟨fun _ => ?_, fun h => absurd h (by first | omega | decide)⟩) | (refine ⟨fun _ => ?_, fun _ => ?_⟩) | (apply And.intro; · kernel_rfl) | (apply And.intro; · (show inK _ _; unfold inK; omega)) | (apply And.intro; · (show (_ : Int) ≤ 9223372036854775807; (try simp only [lenS]); omega))) | ((with_reducible show AllBe ..); refine allBe fun βe => ?_; conv => whnf) | ((with_reducible show bothX ..); refine bothI ?_ ?_; conv => whnf) | (with_reducible exact trivial) | ((with_reducible show CallN ..); refine call_of env_ok rfl 1000 ?_) | ((with_reducible show XopN ..); refine xop_of env_ok rfl 1000 ?_) | ((with_reducible show CallX ..); first | fail) | ((with_reducible show OpX ..); first | fail) | ((with_reducible show ∃ _ : SV, _); first | fail) | ((with_reducible show ∃ _, _); first | fail))
  all_goals (simp only [SV.den, VaP.charP]; congr 1; rw [Bool.eq_iff_iff]; simp; omega)
theorem decode_any (s : List UInt8) (w : World) (hw : XV w) : Calls Tryz.prog 105 #[.string (bstr s)] w fun e w' => e = .returned (.tuple #[.int .i32 ((VaP.dec s).1 : Nat), .int .i64 ((VaP.dec s).2 : Nat)]) ∧ Below w.heap.size w w' := Tryz.utf8_DecodeRuneInString (bstr s) w hw.utf
set_option maxRecDepth 100000 in
theorem vtext_any (s : List UInt8) (w : World) (hw : XV w) (hs : s.length ≤ 9223372036854775807) : Calls Tryz.prog 53 #[.string (bstr s)] w fun e w' => e = .returned (.int .i64 (VaP.txtE s)) ∧ Below w.heap.size w w' := by
  have hE : VaP.txtE s = if 32767 < s.length then 3 else if VaP.txtP s then 0 else 23 := rfl
  have D := fun (t : List UInt8) (w' : World) (h : Below w.heap.size w w') => decode_any t w' (hw.below h)
  refine enter env_ok Tryz.func53 rfl Tryz.results53 Tryz.ntmps53 [] [] [.str s] (by simp [SV.oks, SV.ok]) (Nat.le_of_ble_eq_true rfl) w _ 1000 ?_
  repeat' (first | ((with_reducible first | show wpS .. | show putD .. | show putW .. | show splitG .. | show wpQ .. | show wpD .. | show wpX .. | show expX .. | show stepX .. | show keepR .. | show wpY ..); conv => whnf) | ((with_reducible show RetN ..); refine retB fun β => ?_) | ((with_reducible show _ ∧ _); first | (refine ⟨fun h => absurd h (by first | omega | decide), fun _ => ?_⟩) | (refine ⟨fun _ => ?_, fun h => absurd h (by first | omega | decide)⟩) | (refine ⟨fun _ => ?_, fun _ => ?_⟩) | (apply And.intro; · kernel_rfl) | (apply And.intro; · (show inK _ _; unfold inK; omega)) | (apply And.intro; · (show (_ : Int) ≤ 9223372036854775807; (try simp only [lenS]); omega))) | ((with_reducible show AllBe ..); refine allBe fun βe => ?_; conv => whnf) | ((with_reducible show bothX ..); refine bothI ?_ ?_; conv => whnf) | (with_reducible exact trivial) | ((with_reducible show CallN ..); refine call_of env_ok rfl 1000 ?_) | ((with_reducible show XopN ..); refine xop_of env_ok rfl 1000 ?_) | ((with_reducible show CallX ..); first | fail) | ((with_reducible show OpX ..); first | fail) | ((with_reducible show ∃ _ : SV, _); first | fail) | ((with_reducible show ∃ _, _); first | fail))
  all_goals first | (rw [hE, if_pos (by omega)]; rfl) | skip
  rw [if_neg (by omega)] at hE
  refine loop env_ok rfl (T := {t : List UInt8 // t.length ≤ s.length ∧ VaP.txtP t = VaP.txtP s}) (fun t => ⟨[(0, .str t.1)], [], 0, 30⟩) (fun t => t.1.length) ⟨s, Nat.le_refl _, rfl⟩ 1000 [] [] (fun _ => Nat.zero_le _) (by ((with_reducible show wk _ _); repeat' (first | exact trivial | exact eqSV_refl _ | (refine eqI ?_) | (refine eqS ?_) | (with_reducible exact rfl) | apply And.intro | exact Nat.zero_lt_one | exact Nat.le_of_ble_eq_true rfl | (with_reducible assumption) | ((show (_ : Int) = _); (try dsimp only); omega) | ((show eqSV _ _); simp [eqSV, isB, bval, *]; done) | rfl))) (fun t I hI => ?_)
  obtain ⟨t, ht, hp⟩ := t
  dsimp only
  by_cases h0 : t = []
  · subst h0
    rw [← hp] at hE
    repeat' (first | ((with_reducible first | show wpS .. | show putD .. | show putW .. | show splitG .. | show wpQ .. | show wpD .. | show wpX .. | show expX .. | show stepX .. | show keepR .. | show wpY ..); conv => whnf) | ((with_reducible show RetN ..); refine retB fun β => ?_) | ((with_reducible show _ ∧ _); first | (refine ⟨fun h => absurd h (by first | omega | decide), fun _ => ?_⟩) | (refine ⟨fun _ => ?_, fun h => absurd h (by first | omega | decide)⟩) | (refine ⟨fun _ => ?_, fun _ => ?_⟩) | (apply And.intro; · kernel_rfl) | (apply And.intro; · (show inK _ _; unfold inK; omega)) | (apply And.intro; · (show (_ : Int) ≤ 9223372036854775807; (try simp only [lenS]); omega))) | ((with_reducible show AllBe ..); refine allBe fun βe => ?_; conv => whnf) | ((with_reducible show bothX ..); refine bothI ?_ ?_; conv => whnf) | (with_reducible exact trivial) | ((with_reducible show CallN ..); refine call_of env_ok rfl 1000 ?_) | ((with_reducible show XopN ..); refine xop_of env_ok rfl 1000 ?_) | ((with_reducible show CallX ..); first | fail) | ((with_reducible show OpX ..); first | fail) | ((with_reducible show ∃ _ : SV, _); first | fail) | ((with_reducible show ∃ _, _); first | fail))
    all_goals first | (exfalso; simp_all; done) | (rw [hE]; rfl)
  · have hst := VaP.txtP_step h0
    have hl := VaP.dec_len h0
    have hc := VaP.dec_lt h0
    obtain ⟨c, n, hcn⟩ : ∃ c n, VaP.dec t = (c, n) := ⟨_, _, rfl⟩
    have D1 := D t
    rw [hcn] at hst hl hc D1
    dsimp only at hst hl hc D1
    have bad : (c = 65533 ∧ n = 1) ∨ VaP.charP c = false → VaP.txtE s = 23 := fun h => by
      rw [hE, ← hp, hst, if_pos (h.imp (fun h => by rw [h.1, h.2]) id)]; rfl
    have good : ¬ (c = 65533 ∧ n = 1) → VaP.charP c = true → VaP.txtP (t.drop n) = VaP.txtP s := fun h1 h2 => by
      rw [← hp, hst, if_neg (fun h => h.elim (fun h => h1 ⟨congrArg Prod.fst h, congrArg Prod.snd h⟩) (fun h => by rw [h2] at h; cases h))]
    repeat' (first | ((with_reducible first | show wpS .. | show putD .. | show putW .. | show splitG .. | show wpQ .. | show wpD .. | show wpX .. | show expX .. | show stepX .. | show keepR .. | show wpY ..); conv => whnf) | ((with_reducible show RetN ..); refine retB fun β => ?_) | ((with_reducible show _ ∧ _); first | (refine ⟨fun h => absurd h (by first | omega | decide), fun _ => ?_⟩) | (refine ⟨fun _ => ?_, fun h => absurd h (by first | omega | decide)⟩) | (refine ⟨fun _ => ?_, fun _ => ?_⟩) | (apply And.intro; · kernel_rfl) | (apply And.intro; · (show inK _ _; unfold inK; omega)) | (apply And.intro; · (show (_ : Int) ≤ 9223372036854775807; (try simp only [lenS]); omega))) | ((with_reducible show AllBe ..); refine allBe fun βe => ?_; conv => whnf) | ((with_reducible show bothX ..); refine bothI ?_ ?_; conv => whnf) | (with_reducible exact trivial) | ((with_reducible show CallN ..); refine call_of env_ok rfl 1000 ?_) | ((with_reducible show XopN ..); refine xop_of env_ok rfl 1000 ?_) | ((with_reducible show CallX ..); first | (refine callX (.tup [.int .i32 (c : Int), .int .i64 (n : Int)]) (by kernel_rfl) rfl (⟨trivial, trivial, trivial⟩) (fun β w hm => D1 w hm.below) ?_) | (refine callX (.bool (VaP.charP c)) (by kernel_rfl) rfl (trivial) (fun β w hm => char_any c w) ?_) | fail) | ((with_reducible show OpX ..); first | fail) | ((with_reducible show ∃ _ : SV, _); first | fail) | ((with_reducible show ∃ _, _); first | (refine ⟨n, rfl, hl.2, ?_⟩) | fail))
    all_goals first | (exfalso; clear D D1; simp_all; done) | (rw [bad (.inl ⟨by omega, by omega⟩)]; rfl) | (rw [bad (.inr (by clear D D1; simp_all))]; rfl) | (refine hI _ ⟨t.drop n, by rw [List.length_drop]; omega, good (by omega) (by clear D D1; simp_all)⟩ (by dsimp only; rw [List.length_drop]; omega) (by ((with_reducible show wk _ _); repeat' (first | exact trivial | exact eqSV_refl _ | (refine eqI ?_) | (refine eqS ?_) | (with_reducible exact rfl) | apply And.intro | exact Nat.zero_lt_one | exact Nat.le_of_ble_eq_true rfl | (with_reducible assumption) | ((show (_ : Int) = _); (try dsimp only); omega) | ((show eqSV _ _); simp [eqSV, isB, bval, *]; done) | rfl))); done) | trace_state
theorem ftext_ne0 : ∀ i, i < 9 → i ≠ 0 → VaP.ftext i ≠ [] := by decide
theorem ftext_ne (i : Nat) (h : 1 ≤ i) (h1 : i < 9) : VaP.ftext i ≠ [] := ftext_ne0 i h1 (by omega)
/-- the text of an error value -/
def VaP.ftextI (c : Int) : List UInt8 := if c < 1 ∨ 8 < c then [] else VaP.ftext c.toNat
theorem ftextI_nil (c : Int) : VaP.ftextI c = [] ↔ (c < 1 ∨ 8 < c) := by
  unfold VaP.ftextI
  split
  · rename_i h; simp [h]
  · rename_i h
    have := ftext_ne c.toNat (by omega) (by omega)
    simp only [h, iff_false]; exact this
set_option maxRecDepth 100000 in
theorem ftext_any (c : Int) (w : World) (hw : XV w) : Calls Tryz.prog 27 #[.int .i64 c] w fun e w' => e = .returned (.string (bstr (VaP.ftextI c))) ∧ Below w.heap.size w w' := by
  by_cases h : c < 1 ∨ 8 < c
  · have e : VaP.ftextI c = [] := (ftextI_nil c).2 h
    rw [e]
    refine enter env_ok Tryz.func27 rfl Tryz.results27 Tryz.ntmps27 [] [] [.int .i64 c] (by simp [SV.oks, SV.ok]) (Nat.le_of_ble_eq_true rfl) w _ 1000 ?_
    repeat' (first | ((with_reducible first | show wpS .. | show putD .. | show putW .. | show splitG .. | show wpQ .. | show wpD .. | show wpX .. | show expX .. | show stepX .. | show keepR .. | show wpY ..); conv => whnf) | ((with_reducible show RetN ..); refine retB fun β => ?_) | ((with_reducible show _ ∧ _); first | (refine ⟨fun h => absurd h (by first | omega | decide), fun _ => ?_⟩) | (refine ⟨fun _ => ?_, fun h => absurd h (by first | omega | decide)⟩) | (refine ⟨fun _ => ?_, fun _ => ?_⟩) | (apply And.intro; · kernel_rfl) | (apply And.intro; · (show inK _ _; unfold inK; omega)) | (apply And.intro; · (show (_ : Int) ≤ 9223372036854775807; (try simp only [lenS]); omega))) | ((with_reducible show AllBe ..); refine allBe fun βe => ?_; conv => whnf) | ((with_reducible show bothX ..); refine bothI ?_ ?_; conv => whnf) | (with_reducible exact trivial) | ((with_reducible show CallN ..); refine call_of env_ok rfl 1000 ?_) | ((with_reducible show XopN ..); refine xop_of env_ok rfl 1000 ?_) | ((with_reducible show CallX ..); first | fail) | ((with_reducible show OpX ..); first | fail) | ((with_reducible show ∃ _ : SV, _); first | fail) | ((with_reducible show ∃ _, _); first | fail))
    all_goals first | rfl | (exfalso; omega)
  · obtain ⟨k, rfl⟩ : ∃ k : Nat, c = (k : Int) := ⟨c.toNat, by omega⟩
    have e : VaP.ftextI (k : Int) = VaP.ftext k := by unfold VaP.ftextI; rw [if_neg h]; rfl
    have hc := fun (w' : World) (hb : Below w.heap.size w w') => (hw.below hb).flt k (by omega)
    rw [e]
    generalize VaP.ftext k = T at *
    refine enter env_ok Tryz.func27 rfl Tryz.results27 Tryz.ntmps27 [] [] [.int .i64 (k : Int)] (by simp [SV.oks, SV.ok]) (Nat.le_of_ble_eq_true rfl) w _ 1000 ?_
    repeat' (first | ((with_reducible first | show wpS .. | show putD .. | show putW .. | show splitG .. | show wpQ .. | show wpD .. | show wpX .. | show expX .. | show stepX .. | show keepR .. | show wpY ..); conv => whnf) | ((with_reducible show RetN ..); refine retB fun β => ?_) | ((with_reducible show _ ∧ _); first | (refine ⟨fun h => absurd h (by first | omega | decide), fun _ => ?_⟩) | (refine ⟨fun _ => ?_, fun h => absurd h (by first | omega | decide)⟩) | (refine ⟨fun _ => ?_, fun _ => ?_⟩) | (apply And.intro; · kernel_rfl) | (apply And.intro; · (show inK _ _; unfold inK; omega)) | (apply And.intro; · (show (_ : Int) ≤ 9223372036854775807; (try simp only [lenS]); omega))) | ((with_reducible show AllBe ..); refine allBe fun βe => ?_; conv => whnf) | ((with_reducible show bothX ..); refine bothI ?_ ?_; conv => whnf) | (with_reducible exact trivial) | ((with_reducible show CallN ..); refine call_of env_ok rfl 1000 ?_) | ((with_reducible show XopN ..); refine xop_of env_ok rfl 1000 ?_) | ((with_reducible show CallX ..); first | fail) | ((with_reducible show OpX ..); first | fail) | ((with_reducible show ∃ _ : SV, _); first | (refine ⟨_, ?ok, x_indexAny (j := k) rfl Tryz.underlying81 (fun w => Tryz.sizeOf9 w) (by omega), ?_⟩; (case ok => exact fun _ _ => rfl)) | (refine ⟨.str T, fun _ _ => trivial, x_load1 (fun w => Tryz.isAgg9 w) (fun w' hb β => by rw [Nat.mul_one]; exact (congrArg _ (by simp [Addr.add]; omega)).trans (hc w' hb)), ?_⟩)) | ((with_reducible show ∃ _, _); first | fail))
    all_goals first | rfl | (exfalso; omega)
set_option maxRecDepth 100000 in
theorem rftext_any (c : Int) (w : World) (hw : XR w) : Calls Tryz.prog 28 #[.int .i64 c] w fun e w' => e = .returned (.string (bstr (VaP.ftextI c))) ∧ Below w.heap.size w w' := by
  by_cases h : c < 1 ∨ 8 < c
  · have e : VaP.ftextI c = [] := (ftextI_nil c).2 h
    rw [e]
    refine enter env_ok Tryz.func28 rfl Tryz.results28 Tryz.ntmps28 [] [] [.int .i64 c] (by simp [SV.oks, SV.ok]) (Nat.le_of_ble_eq_true rfl) w _ 1000 ?_
    repeat' (first | ((with_reducible first | show wpS .. | show putD .. | show putW .. | show splitG .. | show wpQ .. | show wpD .. | show wpX .. | show expX .. | show stepX .. | show keepR .. | show wpY ..); conv => whnf) | ((with_reducible show RetN ..); refine retB fun β => ?_) | ((with_reducible show _ ∧ _); first | (refine ⟨fun h => absurd h (by first | omega | decide), fun _ => ?_⟩) | (refine ⟨fun _ => ?_, fun h => absurd h (by first | omega | decide)⟩) | (refine ⟨fun _ => ?_, fun _ => ?_⟩) | (apply And.intro; · kernel_rfl) | (apply And.intro; · (show inK _ _; unfold inK; omega)) | (apply And.intro; · (show (_ : Int) ≤ 9223372036854775807; (try simp only [lenS]); omega))) | ((with_reducible show AllBe ..); refine allBe fun βe => ?_; conv => whnf) | ((with_reducible show bothX ..); refine bothI ?_ ?_; conv => whnf) | (with_reducible exact trivial) | ((with_reducible show CallN ..); refine call_of env_ok rfl 1000 ?_) | ((with_reducible show XopN ..); refine xop_of env_ok rfl 1000 ?_) | ((with_reducible show CallX ..); first | fail) | ((with_reducible show OpX ..); first | fail) | ((with_reducible show ∃ _ : SV, _); first | fail) | ((with_reducible show ∃ _, _); first | fail))
    all_goals first | rfl | (exfalso; omega)
  · obtain ⟨k, rfl⟩ : ∃ k : Nat, c = (k : Int) := ⟨c.toNat, by omega⟩
    have e : VaP.ftextI (k : Int) = VaP.ftext k := by unfold VaP.ftextI; rw [if_neg h]; rfl
    have hc := fun (w' : World) (hb : Below w.heap.size w w') => (hw.below hb) k (by omega)
    rw [e]
    generalize VaP.ftext k = T at *
    refine enter env_ok Tryz.func28 rfl Tryz.results28 Tryz.ntmps28 [] [] [.int .i64 (k : Int)] (by simp [SV.oks, SV.ok]) (Nat.le_of_ble_eq_true rfl) w _ 1000 ?_
    repeat' (first | ((with_reducible first | show wpS .. | show putD .. | show putW .. | show splitG .. | show wpQ .. | show wpD .. | show wpX .. | show expX .. | show stepX .. | show keepR .. | show wpY ..); conv => whnf) | ((with_reducible show RetN ..); refine retB fun β => ?_) | ((with_reducible show _ ∧ _); first | (refine ⟨fun h => absurd h (by first | omega | decide), fun _ => ?_⟩) | (refine ⟨fun _ => ?_, fun h => absurd h (by first | omega | decide)⟩) | (refine ⟨fun _ => ?_, fun _ => ?_⟩) | (apply And.intro; · kernel_rfl) | (apply And.intro; · (show inK _ _; unfold inK; omega)) | (apply And.intro; · (show (_ : Int) ≤ 9223372036854775807; (try simp only [lenS]); omega))) | ((with_reducible show AllBe ..); refine allBe fun βe => ?_; conv => whnf) | ((with_reducible show bothX ..); refine bothI ?_ ?_; conv => whnf) | (with_reducible exact trivial) | ((with_reducible show CallN ..); refine call_of env_ok rfl 1000 ?_) | ((with_reducible show XopN ..); refine xop_of env_ok rfl 1000 ?_) | ((with_reducible show CallX ..); first | fail) | ((with_reducible show OpX ..); first | fail) | ((with_reducible show ∃ _ : SV, _); first | (refine ⟨_, ?ok, x_indexAny (j := k) rfl Tryz.underlying81 (fun w => Tryz.sizeOf9 w) (by omega), ?_⟩; (case ok => exact fun _ _ => rfl)) | (refine ⟨.str T, fun _ _ => trivial, x_load1 (fun w => Tryz.isAgg9 w) (fun w' hb β => by rw [Nat.mul_one]; exact (congrArg _ (by simp [Addr.add]; omega)).trans (hc w' hb)), ?_⟩)) | ((with_reducible show ∃ _, _); first | fail))
    all_goals first | rfl | (exfalso; omega)
end Go.Proofs.YtdkhkfdenlabaaaGreatDoor
namespace Go.Proofs.YtdkhkfdenlabaaaGreatDoor
open Go.RowKit
namespace Sym
def enumL {α : Type} : Nat → List α → List (Nat × α)
  | _, [] => []
  | p, v :: r => (p, v) :: enumL (p + 1) r
theorem fill_all : ∀ (vs pre post : List Value), (∀ v ∈ vs, v.cells = #[v]) → post.length = vs.length → Instr.fill (fun i => some (i, 1)) (pre ++ post).toArray (enumL pre.length vs) = some (pre ++ vs).toArray
  | [], pre, post, _, hl => by
    have : post = [] := List.eq_nil_of_length_eq_zero hl
    subst this; rfl
  | v :: vs, pre, post, h, hl => by
    cases post with
    | nil => cases hl
    | cons q post =>
      have hv := h v (by simp)
      have ih := fill_all vs (pre ++ [v]) post (fun u hu => h u (by simp [hu])) (by simpa using hl)
      have hlen : (pre ++ [v]).length = pre.length + 1 := by simp
      rw [hlen] at ih
      have hA : ((pre ++ q :: post).toArray).setIfInBounds (pre.length + 0) v = (pre ++ [v] ++ post).toArray := by
        apply Array.toList_inj.1
        simp
      show (match (some (pre.length, 1) : Option (Nat × Nat)) with
        | none => none
        | some (off, size) => if v.cells.size ≠ size || off + v.cells.size > (pre ++ q :: post).toArray.size then none else Instr.fill (fun i => some (i, 1)) (v.cells.zipIdx.foldl (fun cs (c, j) => cs.setIfInBounds (off + j) c) (pre ++ q :: post).toArray) (enumL (pre.length + 1) vs)) = _
      rw [hv]
      have hc : ¬ ((#[v].size ≠ 1 || decide (pre.length + #[v].size > (pre ++ q :: post).toArray.size)) = true) := by simp
      have hz : (#[v].zipIdx.foldl (fun cs (x : Value × Nat) => cs.setIfInBounds (pre.length + x.2) x.1) (pre ++ q :: post).toArray) = (pre ++ [v] ++ post).toArray := hA
      dsimp only
      rw [if_neg hc]
      have hz' : (#[v].zipIdx.foldl (fun cs x => match x with | (c, j) => cs.setIfInBounds (pre.length + j) c) (pre ++ q :: post).toArray) = (pre ++ [v] ++ post).toArray := hz
      rw [hz', ih]
      simp
theorem enumL_map {α β : Type} (f : α → β) : ∀ (p : Nat) (l : List α), (enumL p l).map (fun (x : Nat × α) => (x.1, f x.2)) = enumL p (l.map f)
  | _, [] => rfl
  | p, v :: r => by simp only [enumL, List.map_cons, enumL_map f (p + 1) r]
/-- an array of single cells, written out -/
theorem x_buildArr {C : Ctx} {G : Blobs} {ps : List (Nat × Operand)} {vs : List SV} {t e : TypeId} {len : Nat} {z : Value} (hp : ps = enumL 0 (ps.map (·.2))) (ht : C.P.underlying t = some (.array len e)) (hs : ∀ w, (sizeOf e).run C.P w = .ok 1 w) (hz : ∀ w, (zeroValue t).run C.P w = .ok z w) (hc : z.cells.size = vs.length) (h1 : ∀ β, ∀ u ∈ SV.dens β vs, u.cells = #[u]) :
    ExtN C G (.build t ⟨ps⟩) vs (.agg vs) := by
  unfold ExtN
  intro ρ β w dst ty pos after g _ _ h
  have h : (ps.map (·.2)).map ρ = SV.dens β vs := by
    have h : ps.map (fun x => ρ x.2) = SV.dens β vs ∨ (ps.map (·.2)).map ρ = SV.dens β vs := .inr h
    exact h.elim (fun h => by rw [List.map_map]; exact h) id
  have q : (underlying t).run C.P w = .ok (.array len e) w := by simp [underlying, ht]
  have e1 : (((⟨ps⟩ : Array (Nat × Operand)).map fun (i, x) => (i, ρ x)).toList) = enumL 0 (SV.dens β vs) := by
    rw [← h, ← enumL_map, ← hp]
    simp
  have f1 : Instr.fill (fun i => some (i * 1, 1)) z.cells (enumL 0 (SV.dens β vs)) = some (SV.dens β vs).toArray := by
    have := fill_all (SV.dens β vs) [] z.cells.toList (h1 β) (by rw [SV.dens_len]; simpa using hc)
    simpa using this
  have hb : (Instr.build t ((⟨ps⟩ : Array (Nat × Operand)).map fun (i, x) => (i, ρ x))).run C.P w = .ok (.agg (SV.dens β vs).toArray) w := by
    unfold Instr.build
    rw [Sem.run_bind, hz]
    simp only [Result.andThen_ok, Sem.run_bind, q, hs, e1, f1]
    rfl
  simp only [execOp, Sem.run_bind, hb]
  simp [SV.den]
end Sym
end Go.Proofs.YtdkhkfdenlabaaaGreatDoor
namespace Go.Proofs.YtdkhkfdenlabaaaGreatDoor
open Go.RowKit
namespace Sym
theorem x_bytesStrF {C : Ctx} {G : Blobs} {x : Operand} {t u e : TypeId} {g cap n bs : Nat} (i : Nat) (l : List UInt8) (hs : C.P.underlying t = some (.slice e)) (he : C.P.underlying e = some (.int .u8)) (hd : C.P.underlying u = some .string)
    (ri : G i = some (SlF bs (some ⟨g, 0, none⟩) (bvals l))) (hn : n = l.length) : ExtN C G (.convert t u x) [.any (.slice (some ⟨g, 0, none⟩) n cap)] (.str l) := by
  unfold ExtN
  intro ρ β w dst ty pos after gd _ hG h
  have e1 : ρ x = .slice (some ⟨g, 0, none⟩) n cap := by simpa [opsX, SV.dens, SV.den] using h
  obtain ⟨hb, ho⟩ := hG i _ ri
  have hc := SlF.at ho hb
  subst hn
  have hr := run_convert_bytes_back (P := C.P) w t u e ⟨g, 0, none⟩ cap l hs he hd (fun j hj => by
    obtain ⟨ad, h1, -, h3⟩ := hc j (.int .u8 ((l[j]'hj).toNat : Int)) (by simp [bvals, hj])
    cases h1
    rw [h3])
  simp [execOp, e1, hr, SV.den, bstr]
theorem x_shlE {C : Ctx} {G : Blobs} {x y : Operand} {t u : TypeId} {k k' : IntKind} {a q : Int} (n : Nat) (c : Int) (hq : q = (n : Nat)) (hc : a * 2 ^ n = c) (hn : n ≤ k.bits) (hw : inK k c) : ExtN C G (.binOp .shl t x y u) [.int k a, .int k' q] (.int k c) := by
  subst hc; subst hq; exact x_shl n hn hw
end Sym
end Go.Proofs.YtdkhkfdenlabaaaGreatDoor
