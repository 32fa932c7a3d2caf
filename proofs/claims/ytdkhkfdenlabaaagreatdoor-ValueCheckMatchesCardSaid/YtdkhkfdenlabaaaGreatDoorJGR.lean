/- Decimal numbers read: the program's Parse. Values, the program: numbers as they are entered. -/
import Derived.Test.YtdkhkfdenlabaaaGreatDoorJGN
import Derived.Test.YtdkhkfdenlabaaaGreatDoorJGQ
import Derived.Test.YtdkhkfdenlabaaaGreatDoorJGI
set_option linter.unusedSimpArgs false
set_option linter.unusedVariables false
namespace Go.Proofs.YtdkhkfdenlabaaaGreatDoor
open Go.RowKit
open Sym
attribute [local irreducible] Calls Sym.AggEq ExP.nd ExP.dig ExP.upd ExP.writeF ExP.writeE
theorem cutD_any (s : List UInt8) (w : World) : Calls Tryz.prog 54 #[.string (bstr s), .string (bstr [46])] w fun e w' => e = .returned (.tuple #[.string (bstr (if s.head? = some 46 then s.tail else s)), .bool (s.head? == some 46)]) ∧ Below w.heap.size w w' := by
  refine (Tryz.strings_CutPrefix (bstr s) (bstr [46]) w).mono ?_
  rintro e w' ⟨h, rfl⟩
  refine ⟨?_, Below.refl _ _⟩
  rw [h, show (bstr s).data.toList = s from rfl, show (bstr [46]).data.toList = [46] from rfl]
  have key : Lib.trimPrefix s [46] = (if s.head? = some 46 then s.tail else s) ∧ Lib.hasPrefix s [46] = (s.head? == some 46) := by
    cases s with
    | nil => exact ⟨rfl, rfl⟩
    | cons c r =>
      by_cases h : c = 46
      · subst h; simp [Lib.trimPrefix, Lib.hasPrefix]
      · have h' : ¬ 46 = c := fun e => h e.symm
        simp [Lib.trimPrefix, Lib.hasPrefix, h, List.isPrefixOf, beq_eq_false_iff_ne.2 h']
  rw [key.1, key.2]; rfl
theorem ExP.nd_ten {b : Nat} (hb : 10 ≤ b) (k : Nat) : ExP.nd b (10 ^ k) ≤ k + 1 :=
  ExP.nd_le (by omega) (Nat.lt_of_lt_of_le (Nat.pow_lt_pow_right (by omega) (Nat.lt_succ_self k)) (Nat.pow_le_pow_left hb _))
theorem ExP.expV_le (s : List UInt8) (h : ExP.expB s = true) : -1000 < ExP.expV s ∧ ExP.expV s < 1000 := by
  cases s with
  | nil => exact ⟨by decide, by decide⟩
  | cons c t =>
    have hB : ExP.expB (c :: t) = ((c == 101 || c == 69) && ExP.expOK (ExP.sgnR t)) := rfl
    rw [hB, Bool.and_eq_true] at h
    have := ExP.val3 h.2
    have hV : ExP.expV (c :: t) = if ExP.sgnP t = true then -(ExP.valS (ExP.sgnR t) : Int) else (ExP.valS (ExP.sgnR t) : Int) := rfl
    rw [hV]
    split <;> omega
set_option maxRecDepth 100000 in
set_option maxHeartbeats 4000000 in
theorem parse_long (s : List UInt8) (w : World) (hw : XW w) (hw0 : 0 < w.heap.size) (hs : s.length ≤ 9223372036854775807) (h : 1000 < s.length) :
    Calls Tryz.prog 111 #[.string (bstr s)] w (WrOut ([], []) 3 w) := by
  refine enter env_ok Tryz.func111 rfl Tryz.results111 Tryz.ntmps111 [] [100018] [.str s] (by simp [SV.oks, SV.ok]) (Nat.le_of_ble_eq_true rfl) w _ 1000 ?_
  repeat' (first | ((with_reducible first | show wpS .. | show putD .. | show putW .. | show splitG .. | show wpQ .. | show wpD .. | show wpX .. | show expX .. | show stepX .. | show keepR .. | show wpY ..); conv => whnf) | ((with_reducible show RetN ..); refine retB fun β => ?_) | ((with_reducible show _ ∧ _); first | (refine ⟨fun h => absurd h (by first | omega | decide), fun _ => ?_⟩) | (refine ⟨fun _ => ?_, fun h => absurd h (by first | omega | decide)⟩) | (refine ⟨fun _ => ?_, fun _ => ?_⟩) | (apply And.intro; · kernel_rfl) | (apply And.intro; · (show inK _ _; unfold inK; omega)) | (apply And.intro; · (show (_ : Int) ≤ 9223372036854775807; (try simp only [lenS]); omega))) | ((with_reducible show AllBe ..); refine allBe fun βe => ?_; conv => whnf) | ((with_reducible show bothX ..); refine bothI ?_ ?_; conv => whnf) | (with_reducible exact trivial) | ((with_reducible show CallN ..); refine call_of env_ok rfl 1000 ?_) | ((with_reducible show XopN ..); refine xop_of env_ok rfl 1000 ?_) | ((with_reducible show CallX ..); first | fail) | ((with_reducible show OpX ..); first | fail) | ((with_reducible show ∃ _ : SV, _); first | fail) | ((with_reducible show ∃ _, _); first | fail))
  all_goals first | rfl | (exfalso; omega)
set_option maxRecDepth 100000 in
set_option maxHeartbeats 4000000 in
theorem parse_point (s : List UInt8) (w : World) (hw : XW w) (hw0 : 0 < w.heap.size) (hs : s.length ≤ 9223372036854775807) (h : s.length ≤ 1000) (hx : ExP.parX (ExP.runR (ExP.cutM s).1) = true) :
    Calls Tryz.prog 111 #[.string (bstr s)] w (WrOut ([], []) 10 w) := by
  have HC := fun w => cutM_any s w
  have hL := cutM_len s
  have hR := ExP.run_len (ExP.cutM s).1
  have HR := fun w => run_any (ExP.cutM s).1 w (by omega)
  have HD := fun w => cutD_any (ExP.runR (ExP.cutM s).1) w
  simp only [ExP.parX, Bool.and_eq_true, beq_iff_eq, List.isEmpty_iff] at hx
  rw [if_pos hx.1, hx.1] at HD
  have HQ := fun w => run_any (ExP.runR (ExP.cutM s).1).tail w (by have : (ExP.runR (ExP.cutM s).1).tail.length ≤ (ExP.runR (ExP.cutM s).1).length := (by simp); omega)
  rw [hx.2] at HQ
  generalize ExP.runR (ExP.runR (ExP.cutM s).1).tail = r2 at *
  generalize (ExP.runR (ExP.cutM s).1).tail = u at *
  clear hx
  generalize ExP.runR (ExP.cutM s).1 = r1 at *
  generalize ExP.runD (ExP.cutM s).1 = W at *
  generalize (ExP.cutM s).2 = m at *
  generalize (ExP.cutM s).1 = rest at *
  refine enter env_ok Tryz.func111 rfl Tryz.results111 Tryz.ntmps111 [] [100018] [.str s] (by simp [SV.oks, SV.ok]) (Nat.le_of_ble_eq_true rfl) w _ 1000 ?_
  repeat' (first | ((with_reducible first | show wpS .. | show putD .. | show putW .. | show splitG .. | show wpQ .. | show wpD .. | show wpX .. | show expX .. | show stepX .. | show keepR .. | show wpY ..); conv => whnf) | ((with_reducible show RetN ..); refine retB fun β => ?_) | ((with_reducible show _ ∧ _); first | (refine ⟨fun h => absurd h (by first | omega | decide), fun _ => ?_⟩) | (refine ⟨fun _ => ?_, fun h => absurd h (by first | omega | decide)⟩) | (refine ⟨fun _ => ?_, fun _ => ?_⟩) | (apply And.intro; · kernel_rfl) | (apply And.intro; · (show inK _ _; unfold inK; omega)) | (apply And.intro; · (show (_ : Int) ≤ 9223372036854775807; (try simp only [lenS]); omega))) | ((with_reducible show AllBe ..); refine allBe fun βe => ?_; conv => whnf) | ((with_reducible show bothX ..); refine bothI ?_ ?_; conv => whnf) | (with_reducible exact trivial) | ((with_reducible show CallN ..); refine call_of env_ok rfl 1000 ?_) | ((with_reducible show XopN ..); refine xop_of env_ok rfl 1000 ?_) | ((with_reducible show CallX ..); first | (refine callX (.tup [.str rest, .bool m]) (by kernel_rfl) rfl (⟨trivial, trivial, trivial⟩) (fun β w hm => HC w) ?_) | (refine callX (.tup [.str W, .str r1]) (by kernel_rfl) rfl (⟨trivial, trivial, trivial⟩) (fun β w hm => HR w) ?_) | (refine callX (.tup [.str u, .lit true]) (by kernel_rfl) rfl (⟨trivial, trivial, trivial⟩) (fun β w hm => HD w) ?_) | (refine callX (.tup [.str [], .str r2]) (by kernel_rfl) rfl (⟨trivial, trivial, trivial⟩) (fun β w hm => HQ w) ?_)) | ((with_reducible show OpX ..); first | fail) | ((with_reducible show ∃ _ : SV, _); first | fail) | ((with_reducible show ∃ _, _); first | fail))
  all_goals first | rfl | (exfalso; omega) | (exfalso; simp_all; done)
set_option maxRecDepth 100000 in
set_option maxHeartbeats 4000000 in
theorem parse_bad1 (s : List UInt8) (w : World) (hw : XW w) (hw0 : 0 < w.heap.size) (hs : s.length ≤ 9223372036854775807) (h : s.length ≤ 1000) (hx : ExP.parX (ExP.runR (ExP.cutM s).1) ≠ true) (hp : (ExP.runR (ExP.cutM s).1).head? = some 46) (hb : ExP.decW s = [] ∨ ExP.expB (ExP.decT s) = false) :
    Calls Tryz.prog 111 #[.string (bstr s)] w (WrOut ([], []) 10 w) := by
  have HC := fun w => cutM_any s w
  have hL := cutM_len s
  have hR := ExP.run_len (ExP.cutM s).1
  have HR := fun w => run_any (ExP.cutM s).1 w (by omega)
  have HD := fun w => cutD_any (ExP.runR (ExP.cutM s).1) w
  have hpx : (ExP.runR (ExP.cutM s).1).head? = some 46 := hp
  have eP : ExP.decP s = ExP.runD (ExP.runR (ExP.cutM s).1).tail := by unfold ExP.decP ExP.parD; rw [if_pos hp]
  have eT : ExP.decT s = ExP.runR (ExP.runR (ExP.cutM s).1).tail := by unfold ExP.decT ExP.parR; rw [if_pos hp]
  have hP0 : ExP.runD (ExP.runR (ExP.cutM s).1).tail ≠ [] := by
    intro h0
    unfold ExP.parX at hx
    rw [hp, h0] at hx
    exact absurd hx (by decide)
  rw [if_pos hp, hp, show ((some (46 : UInt8)) == some 46) = true from rfl] at HD
  have ht : (ExP.runR (ExP.cutM s).1).tail.length ≤ (ExP.runR (ExP.cutM s).1).length := by simp
  have hQ := ExP.run_len (ExP.runR (ExP.cutM s).1).tail
  have hPa := ExP.runD_all (ExP.runR (ExP.cutM s).1).tail
  have HQ := fun w => run_any (ExP.runR (ExP.cutM s).1).tail w (by omega)
  have hTl : (ExP.decT s).length ≤ 1000 := by rw [eT]; omega
  have hPl : (ExP.decP s).length ≤ 1000 := by rw [eP]; omega
  have hPW : (ExP.decW s).length + (ExP.decP s).length ≤ 1000 := by rw [eP]; unfold ExP.decW; omega
  rw [← eP] at hP0 hPa HQ
  rw [← eT] at HQ
  have HX := fun w => exponent_any (ExP.decT s) w (by omega)
  have eW : ExP.runD (ExP.cutM s).1 = ExP.decW s := rfl
  rw [eW] at HR hR
  clear hQ ht hpx
  generalize (ExP.runR (ExP.cutM s).1).tail = u at *
  clear hp hx
  generalize ExP.runR (ExP.cutM s).1 = r1 at *
  clear eW eT eP
  generalize (ExP.cutM s).2 = m at *
  generalize (ExP.cutM s).1 = rest at *
  generalize ExP.decW s = W at *
  generalize ExP.decT s = T at *
  generalize ExP.decP s = P at *
  generalize ExP.expV T = v at *
  generalize ExP.expB T = ok at *
  refine enter env_ok Tryz.func111 rfl Tryz.results111 Tryz.ntmps111 [] [100018] [.str s] (by simp [SV.oks, SV.ok]) (Nat.le_of_ble_eq_true rfl) w _ 1000 ?_
  by_cases hW : W = []
  · subst hW
    repeat' (first | ((with_reducible first | show wpS .. | show putD .. | show putW .. | show splitG .. | show wpQ .. | show wpD .. | show wpX .. | show expX .. | show stepX .. | show keepR .. | show wpY ..); conv => whnf) | ((with_reducible show RetN ..); refine retB fun β => ?_) | ((with_reducible show _ ∧ _); first | (refine ⟨fun h => absurd h (by first | omega | decide), fun _ => ?_⟩) | (refine ⟨fun _ => ?_, fun h => absurd h (by first | omega | decide)⟩) | (refine ⟨fun _ => ?_, fun _ => ?_⟩) | (apply And.intro; · kernel_rfl) | (apply And.intro; · (show inK _ _; unfold inK; omega)) | (apply And.intro; · (show (_ : Int) ≤ 9223372036854775807; (try simp only [lenS]); omega))) | ((with_reducible show AllBe ..); refine allBe fun βe => ?_; conv => whnf) | ((with_reducible show bothX ..); refine bothI ?_ ?_; conv => whnf) | (with_reducible exact trivial) | ((with_reducible show CallN ..); refine call_of env_ok rfl 1000 ?_) | ((with_reducible show XopN ..); refine xop_of env_ok rfl 1000 ?_) | ((with_reducible show CallX ..); first | (refine callX (.tup [.str rest, .bool m]) (by kernel_rfl) rfl (⟨trivial, trivial, trivial⟩) (fun β w hm => HC w) ?_) | (refine callX (.tup [.str [], .str r1]) (by kernel_rfl) rfl (⟨trivial, trivial, trivial⟩) (fun β w hm => HR w) ?_) | (refine callX (.tup [.str u, .lit true]) (by kernel_rfl) rfl (⟨trivial, trivial, trivial⟩) (fun β w hm => HD w) ?_) | (refine callX (.tup [.str P, .str T]) (by kernel_rfl) rfl (⟨trivial, trivial, trivial⟩) (fun β w hm => HQ w) ?_) | (refine callX (.tup [.int .i64 (if ok = true then v else 0), .bool ok]) (by kernel_rfl) rfl (⟨trivial, trivial, trivial⟩) (fun β w hm => HX w) ?_)) | ((with_reducible show OpX ..); first | fail) | ((with_reducible show ∃ _ : SV, _); first | fail) | ((with_reducible show ∃ _, _); first | fail))
    all_goals first | rfl | (exfalso; omega) | (exfalso; simp_all; done)
  · have hok : ok = false := hb.resolve_left hW
    subst hok
    repeat' (first | ((with_reducible first | show wpS .. | show putD .. | show putW .. | show splitG .. | show wpQ .. | show wpD .. | show wpX .. | show expX .. | show stepX .. | show keepR .. | show wpY ..); conv => whnf) | ((with_reducible show RetN ..); refine retB fun β => ?_) | ((with_reducible show _ ∧ _); first | (refine ⟨fun h => absurd h (by first | omega | decide), fun _ => ?_⟩) | (refine ⟨fun _ => ?_, fun h => absurd h (by first | omega | decide)⟩) | (refine ⟨fun _ => ?_, fun _ => ?_⟩) | (apply And.intro; · kernel_rfl) | (apply And.intro; · (show inK _ _; unfold inK; omega)) | (apply And.intro; · (show (_ : Int) ≤ 9223372036854775807; (try simp only [lenS]); omega))) | ((with_reducible show AllBe ..); refine allBe fun βe => ?_; conv => whnf) | ((with_reducible show bothX ..); refine bothI ?_ ?_; conv => whnf) | (with_reducible exact trivial) | ((with_reducible show CallN ..); refine call_of env_ok rfl 1000 ?_) | ((with_reducible show XopN ..); refine xop_of env_ok rfl 1000 ?_) | ((with_reducible show CallX ..); first | (refine callX (.tup [.str rest, .bool m]) (by kernel_rfl) rfl (⟨trivial, trivial, trivial⟩) (fun β w hm => HC w) ?_) | (refine callX (.tup [.str W, .str r1]) (by kernel_rfl) rfl (⟨trivial, trivial, trivial⟩) (fun β w hm => HR w) ?_) | (refine callX (.tup [.str u, .lit true]) (by kernel_rfl) rfl (⟨trivial, trivial, trivial⟩) (fun β w hm => HD w) ?_) | (refine callX (.tup [.str P, .str T]) (by kernel_rfl) rfl (⟨trivial, trivial, trivial⟩) (fun β w hm => HQ w) ?_) | (refine callX (.tup [.int .i64 (if false = true then v else 0), .bool false]) (by kernel_rfl) rfl (⟨trivial, trivial, trivial⟩) (fun β w hm => HX w) ?_)) | ((with_reducible show OpX ..); first | fail) | ((with_reducible show ∃ _ : SV, _); first | fail) | ((with_reducible show ∃ _, _); first | fail))
    all_goals first | rfl | (exfalso; omega) | (exfalso; simp_all; done)
set_option maxRecDepth 100000 in
set_option maxHeartbeats 4000000 in
theorem parse_good1 (s : List UInt8) (w : World) (hw : XW w) (hw0 : 0 < w.heap.size) (hs : s.length ≤ 9223372036854775807) (h : s.length ≤ 1000) (hx : ExP.parX (ExP.runR (ExP.cutM s).1) ≠ true) (hp : (ExP.runR (ExP.cutM s).1).head? = some 46) (hW : ExP.decW s ≠ []) (hB : ExP.expB (ExP.decT s) = true) :
    Calls Tryz.prog 111 #[.string (bstr s)] w (WrOut (ExP.writeF (ExP.decN s)) (ExP.writeE (ExP.decN s)) w) := by
  have HC := fun w => cutM_any s w
  have hL := cutM_len s
  have hR := ExP.run_len (ExP.cutM s).1
  have HR := fun w => run_any (ExP.cutM s).1 w (by omega)
  have HD := fun w => cutD_any (ExP.runR (ExP.cutM s).1) w
  have hpx : (ExP.runR (ExP.cutM s).1).head? = some 46 := hp
  have eP : ExP.decP s = ExP.runD (ExP.runR (ExP.cutM s).1).tail := by unfold ExP.decP ExP.parD; rw [if_pos hp]
  have eT : ExP.decT s = ExP.runR (ExP.runR (ExP.cutM s).1).tail := by unfold ExP.decT ExP.parR; rw [if_pos hp]
  have hP0 : ExP.runD (ExP.runR (ExP.cutM s).1).tail ≠ [] := by
    intro h0
    unfold ExP.parX at hx
    rw [hp, h0] at hx
    exact absurd hx (by decide)
  rw [if_pos hp, hp, show ((some (46 : UInt8)) == some 46) = true from rfl] at HD
  have ht : (ExP.runR (ExP.cutM s).1).tail.length ≤ (ExP.runR (ExP.cutM s).1).length := by simp
  have hQ := ExP.run_len (ExP.runR (ExP.cutM s).1).tail
  have hPa := ExP.runD_all (ExP.runR (ExP.cutM s).1).tail
  have HQ := fun w => run_any (ExP.runR (ExP.cutM s).1).tail w (by omega)
  have hTl : (ExP.decT s).length ≤ 1000 := by rw [eT]; omega
  have hPl : (ExP.decP s).length ≤ 1000 := by rw [eP]; omega
  have hPW : (ExP.decW s).length + (ExP.decP s).length ≤ 1000 := by rw [eP]; unfold ExP.decW; omega
  rw [← eP] at hP0 hPa HQ
  rw [← eT] at HQ
  have HX := fun w => exponent_any (ExP.decT s) w (by omega)
  have hv := ExP.expV_le _ hB
  simp only [hB, if_true] at HX
  have hWa : (ExP.decW s).all ExP.digC = true := ExP.runD_all _
  have ha : (ExP.decW s ++ ExP.decP s).all ExP.digC = true := by rw [List.all_append, hWa, hPa]; rfl
  have HP := fun w => parse_any (ExP.decW s ++ ExP.decP s) w (by rw [List.length_append]; omega) ha
  have hn := ExP.nd_val (b := 1000000000) (by omega) ha
  rw [List.length_append] at hn
  have hN : ExP.decN s = ExP.scaleN ⟨(ExP.cutM s).2, ExP.valS (ExP.decW s ++ ExP.decP s), 1⟩ (ExP.expV (ExP.decT s) - ((ExP.decP s).length : Int)) := rfl
  obtain ⟨i0, hi, hz0, hz1, hz2⟩ := info_parts u32Info
  have hu := Tryz.underlying137
  have hsz := fun w => Tryz.sizeOf161 w
  have hzv := fun w => Tryz.zeroValue161 w
  have hn1 : ExP.nd 1000000000 1 = 1 := ExP.nd_one (by omega)
  have hv1 : nv .u32 1000000000 1 = [.int .u32 1] := nv_one (by omega)
  have W1 := fun (x : FrV) (w' : World) (h : Below w.heap.size w w') => write_any x w' (hw.below h) (Nat.lt_of_lt_of_le hw0 h.size)
  have eW : ExP.runD (ExP.cutM s).1 = ExP.decW s := rfl
  rw [eW] at HR hR
  clear hQ ht hpx
  generalize (ExP.runR (ExP.cutM s).1).tail = u at *
  clear hp hx
  generalize ExP.runR (ExP.cutM s).1 = r1 at *
  clear eW eT eP
  generalize (ExP.cutM s).2 = m at *
  generalize (ExP.cutM s).1 = rest at *
  generalize ExP.decW s = W at *
  generalize ExP.decT s = T at *
  generalize ExP.decP s = P at *
  generalize ExP.expV T = v at *
  generalize ExP.valS (W ++ P) = V at *
  generalize ExP.decN s = N at *
  obtain ⟨k, hk⟩ : ∃ k, k = (v - ((P).length : Int)).natAbs := ⟨_, rfl⟩
  have hk2 : k ≤ 2000 := by (try simp only [List.length_nil] at hk); omega
  have HT := fun (w' : World) (h : Below w.heap.size w w') => ten_any k w' (Nat.lt_of_lt_of_le hw0 h.size) (by omega)
  have hnt := ExP.nd_ten (b := 1000000000) (by omega) k
  have hnm := ExP.nd_mul (b := 1000000000) (x := V) (y := 10 ^ k) (by omega)
  have hkp : 0 < 10 ^ k := Nat.pow_pos (by omega)
  by_cases hneg : v - ((P).length : Int) < 0
  · have hN2 : N = ⟨m, V, 10 ^ k⟩ := by
      rw [hN, ExP.scaleN, if_pos hneg, ← hk]
      simp
    rw [hN2]
    have hkk : 0 - (v - ((P).length : Int)) = (k : Int) := by omega
    clear hN hN2
    refine enter env_ok Tryz.func111 rfl Tryz.results111 Tryz.ntmps111 [] [100018] [.str s] (by simp [SV.oks, SV.ok]) (Nat.le_of_ble_eq_true rfl) w _ 1000 ?_
    repeat' (first | ((with_reducible first | show wpS .. | show putD .. | show putW .. | show splitG .. | show wpQ .. | show wpD .. | show wpX .. | show expX .. | show stepX .. | show keepR .. | show wpY ..); conv => whnf) | ((with_reducible show RetN ..); refine retB fun β => ?_) | ((with_reducible show _ ∧ _); first | (refine ⟨fun h => absurd h (by first | omega | decide), fun _ => ?_⟩) | (refine ⟨fun _ => ?_, fun h => absurd h (by first | omega | decide)⟩) | (refine ⟨fun _ => ?_, fun _ => ?_⟩) | (apply And.intro; · kernel_rfl) | (apply And.intro; · (show inK _ _; unfold inK; omega)) | (apply And.intro; · (show (_ : Int) ≤ 9223372036854775807; (try simp only [lenS]); omega))) | ((with_reducible show AllBe ..); refine allBe fun βe => ?_; conv => whnf) | ((with_reducible show bothX ..); refine bothI ?_ ?_; conv => whnf) | (with_reducible exact trivial) | ((with_reducible show CallN ..); refine call_of env_ok rfl 1000 ?_) | ((with_reducible show XopN ..); refine xop_of env_ok rfl 1000 ?_) | ((with_reducible show CallX ..); first | (refine callX (.tup [.str rest, .bool m]) (by kernel_rfl) rfl (⟨trivial, trivial, trivial⟩) (fun β w hm => HC w) ?_) | (refine callX (.tup [.str W, .str r1]) (by kernel_rfl) rfl (⟨trivial, trivial, trivial⟩) (fun β w hm => HR w) ?_) | (refine callX (.tup [.str u, .lit true]) (by kernel_rfl) rfl (⟨trivial, trivial, trivial⟩) (fun β w hm => HD w) ?_) | (refine callX (.tup [.str P, .str T]) (by kernel_rfl) rfl (⟨trivial, trivial, trivial⟩) (fun β w hm => HQ w) ?_) | (refine callX (.tup [.int .i64 v, .bool true]) (by kernel_rfl) rfl (⟨trivial, trivial, trivial⟩) (fun β w hm => HX w) ?_) | (refine callNat .u32 1000000000 V hw0 (by kernel_rfl) rfl (fun β w' hm => HP w') (fun a1 c1 q1 q2 q3 => ?_)) | (refine callNat .u32 1000000000 (10 ^ k) hw0 (by kernel_rfl) rfl (fun β w' hm => by simp only [SV.dens, SV.den]; rw [hkk]; exact HT w' hm.below) (fun a2 c2 q4 q5 q6 => ?_)) | (refine callX (.tup [.agg [.str (ExP.writeF ⟨m, V, 10 ^ k⟩).1, .str (ExP.writeF ⟨m, V, 10 ^ k⟩).2], .int .i64 (ExP.writeE ⟨m, V, 10 ^ k⟩)]) (by kernel_rfl) rfl (⟨⟨trivial, trivial, trivial⟩, trivial, trivial⟩) (fun β w hm => W1 ⟨m, V, 10 ^ k, a1, c1, a2, c2⟩ w hm.below (FrIn.of (by first | exact hm.slF 1 rfl | exact hm.slF 2 rfl | exact hm.slF 3 rfl | exact hm.slF 4 rfl | exact hm.slF 5 rfl) (by first | exact hm.slF 1 rfl | exact hm.slF 2 rfl | exact hm.slF 3 rfl | exact hm.slF 4 rfl | exact hm.slF 5 rfl) ⟨q1, q4, q2, q5⟩) hkp (by dsimp only; omega) (by dsimp only; omega)) ?_)) | ((with_reducible show OpX ..); first | (refine opx_build1 (sz := 1) rfl rfl rfl (xs := [.int .u32 1]) (fun β => rfl) rfl (by omega) (by omega) hu hsz hzv (fun g1 => ?_))) | ((with_reducible show ∃ _ : SV, _); first | fail) | ((with_reducible show ∃ _, _); first | fail))
    all_goals first | rfl | (exfalso; omega) | (exfalso; simp_all; done)
  · have hN2 : N = ⟨m, V * 10 ^ k, 1⟩ := by
      rw [hN, ExP.scaleN, if_neg hneg, ← hk]
    rw [hN2]
    have hkk : v - ((P).length : Int) = (k : Int) := by omega
    clear hN hN2
    refine enter env_ok Tryz.func111 rfl Tryz.results111 Tryz.ntmps111 [] [100018] [.str s] (by simp [SV.oks, SV.ok]) (Nat.le_of_ble_eq_true rfl) w _ 1000 ?_
    repeat' (first | ((with_reducible first | show wpS .. | show putD .. | show putW .. | show splitG .. | show wpQ .. | show wpD .. | show wpX .. | show expX .. | show stepX .. | show keepR .. | show wpY ..); conv => whnf) | ((with_reducible show RetN ..); refine retB fun β => ?_) | ((with_reducible show _ ∧ _); first | (refine ⟨fun h => absurd h (by first | omega | decide), fun _ => ?_⟩) | (refine ⟨fun _ => ?_, fun h => absurd h (by first | omega | decide)⟩) | (refine ⟨fun _ => ?_, fun _ => ?_⟩) | (apply And.intro; · kernel_rfl) | (apply And.intro; · (show inK _ _; unfold inK; omega)) | (apply And.intro; · (show (_ : Int) ≤ 9223372036854775807; (try simp only [lenS]); omega))) | ((with_reducible show AllBe ..); refine allBe fun βe => ?_; conv => whnf) | ((with_reducible show bothX ..); refine bothI ?_ ?_; conv => whnf) | (with_reducible exact trivial) | ((with_reducible show CallN ..); refine call_of env_ok rfl 1000 ?_) | ((with_reducible show XopN ..); refine xop_of env_ok rfl 1000 ?_) | ((with_reducible show CallX ..); first | (refine callX (.tup [.str rest, .bool m]) (by kernel_rfl) rfl (⟨trivial, trivial, trivial⟩) (fun β w hm => HC w) ?_) | (refine callX (.tup [.str W, .str r1]) (by kernel_rfl) rfl (⟨trivial, trivial, trivial⟩) (fun β w hm => HR w) ?_) | (refine callX (.tup [.str u, .lit true]) (by kernel_rfl) rfl (⟨trivial, trivial, trivial⟩) (fun β w hm => HD w) ?_) | (refine callX (.tup [.str P, .str T]) (by kernel_rfl) rfl (⟨trivial, trivial, trivial⟩) (fun β w hm => HQ w) ?_) | (refine callX (.tup [.int .i64 v, .bool true]) (by kernel_rfl) rfl (⟨trivial, trivial, trivial⟩) (fun β w hm => HX w) ?_) | (refine callNat .u32 1000000000 V hw0 (by kernel_rfl) rfl (fun β w' hm => HP w') (fun a1 c1 q1 q2 q3 => ?_)) | (refine callNat .u32 1000000000 (10 ^ k) hw0 (by kernel_rfl) rfl (fun β w' hm => by simp only [SV.dens, SV.den]; rw [hkk]; exact HT w' hm.below) (fun a2 c2 q4 q5 q6 => ?_)) | (refine callNat .u32 1000000000 (V * 10 ^ k) hw0 (by kernel_rfl) rfl (fun β w' hm => times_any a1 a2 c1 c2 V (10 ^ k) w' (by omega) (by omega) (by first | exact hm.slF 1 rfl | exact hm.slF 2 rfl | exact hm.slF 3 rfl | exact hm.slF 4 rfl | exact hm.slF 5 rfl) (by first | exact hm.slF 1 rfl | exact hm.slF 2 rfl | exact hm.slF 3 rfl | exact hm.slF 4 rfl | exact hm.slF 5 rfl)) (fun a3 c3 q7 q8 q9 => ?_)) | (refine callX (.tup [.agg [.str (ExP.writeF ⟨m, V * 10 ^ k, 1⟩).1, .str (ExP.writeF ⟨m, V * 10 ^ k, 1⟩).2], .int .i64 (ExP.writeE ⟨m, V * 10 ^ k, 1⟩)]) (by kernel_rfl) rfl (⟨⟨trivial, trivial, trivial⟩, trivial, trivial⟩) (fun β w hm => by have W2 := W1 ⟨m, V * 10 ^ k, 1, a3, c3, some ⟨g1, 0, none⟩, 1⟩ w hm.below (FrIn.of (by first | exact hm.slF 1 rfl | exact hm.slF 2 rfl | exact hm.slF 3 rfl | exact hm.slF 4 rfl | exact hm.slF 5 rfl) (by rw [hv1]; first | exact (hm.own 1 rfl).1 | exact (hm.own 2 rfl).1 | exact (hm.own 3 rfl).1) ⟨q7, (fun h => by cases h), q8, by dsimp only; omega⟩) (by dsimp only; omega) (by dsimp only; omega) (by dsimp only; omega); simp only [FrV.val, hn1] at W2; exact W2) ?_)) | ((with_reducible show OpX ..); first | (refine opx_build1 (sz := 1) rfl rfl rfl (xs := [.int .u32 1]) (fun β => rfl) rfl (by omega) (by omega) hu hsz hzv (fun g1 => ?_))) | ((with_reducible show ∃ _ : SV, _); first | fail) | ((with_reducible show ∃ _, _); first | fail))
    all_goals first | rfl | (exfalso; omega) | (exfalso; simp_all; done)
set_option maxRecDepth 100000 in
set_option maxHeartbeats 4000000 in
theorem parse_bad0 (s : List UInt8) (w : World) (hw : XW w) (hw0 : 0 < w.heap.size) (hs : s.length ≤ 9223372036854775807) (h : s.length ≤ 1000) (hx : ExP.parX (ExP.runR (ExP.cutM s).1) ≠ true) (hp : (ExP.runR (ExP.cutM s).1).head? ≠ some 46) (hb : ExP.decW s = [] ∨ ExP.expB (ExP.decT s) = false) :
    Calls Tryz.prog 111 #[.string (bstr s)] w (WrOut ([], []) 10 w) := by
  have HC := fun w => cutM_any s w
  have hL := cutM_len s
  have hR := ExP.run_len (ExP.cutM s).1
  have HR := fun w => run_any (ExP.cutM s).1 w (by omega)
  have HD := fun w => cutD_any (ExP.runR (ExP.cutM s).1) w
  have hpx : (ExP.runR (ExP.cutM s).1).head? ≠ some 46 := hp
  have eP : ExP.decP s = [] := by unfold ExP.decP ExP.parD; rw [if_neg hp]
  have eT : ExP.decT s = ExP.runR (ExP.cutM s).1 := by unfold ExP.decT ExP.parR; rw [if_neg hp]
  rw [if_neg hp, beq_eq_false_iff_ne.2 hp] at HD
  have hTl : (ExP.decT s).length ≤ 1000 := by rw [eT]; omega
  have hPa : (ExP.decP s).all ExP.digC = true := by rw [eP]; rfl
  have hPl : (ExP.decP s).length ≤ 1000 := by rw [eP]; simp
  have hPW : (ExP.decW s).length + (ExP.decP s).length ≤ 1000 := by rw [eP]; unfold ExP.decW; simp; omega
  rw [← eT] at HD HR
  have HX := fun w => exponent_any (ExP.decT s) w (by omega)
  have eW : ExP.runD (ExP.cutM s).1 = ExP.decW s := rfl
  rw [eW] at HR hR
  clear hpx hp hx hR
  clear eW eT eP
  generalize (ExP.cutM s).2 = m at *
  generalize (ExP.cutM s).1 = rest at *
  generalize ExP.decW s = W at *
  generalize ExP.decT s = T at *
  generalize ExP.expV T = v at *
  generalize ExP.expB T = ok at *
  refine enter env_ok Tryz.func111 rfl Tryz.results111 Tryz.ntmps111 [] [100018] [.str s] (by simp [SV.oks, SV.ok]) (Nat.le_of_ble_eq_true rfl) w _ 1000 ?_
  by_cases hW : W = []
  · subst hW
    repeat' (first | ((with_reducible first | show wpS .. | show putD .. | show putW .. | show splitG .. | show wpQ .. | show wpD .. | show wpX .. | show expX .. | show stepX .. | show keepR .. | show wpY ..); conv => whnf) | ((with_reducible show RetN ..); refine retB fun β => ?_) | ((with_reducible show _ ∧ _); first | (refine ⟨fun h => absurd h (by first | omega | decide), fun _ => ?_⟩) | (refine ⟨fun _ => ?_, fun h => absurd h (by first | omega | decide)⟩) | (refine ⟨fun _ => ?_, fun _ => ?_⟩) | (apply And.intro; · kernel_rfl) | (apply And.intro; · (show inK _ _; unfold inK; omega)) | (apply And.intro; · (show (_ : Int) ≤ 9223372036854775807; (try simp only [lenS]); omega))) | ((with_reducible show AllBe ..); refine allBe fun βe => ?_; conv => whnf) | ((with_reducible show bothX ..); refine bothI ?_ ?_; conv => whnf) | (with_reducible exact trivial) | ((with_reducible show CallN ..); refine call_of env_ok rfl 1000 ?_) | ((with_reducible show XopN ..); refine xop_of env_ok rfl 1000 ?_) | ((with_reducible show CallX ..); first | (refine callX (.tup [.str rest, .bool m]) (by kernel_rfl) rfl (⟨trivial, trivial, trivial⟩) (fun β w hm => HC w) ?_) | (refine callX (.tup [.str [], .str T]) (by kernel_rfl) rfl (⟨trivial, trivial, trivial⟩) (fun β w hm => HR w) ?_) | (refine callX (.tup [.str T, .lit false]) (by kernel_rfl) rfl (⟨trivial, trivial, trivial⟩) (fun β w hm => HD w) ?_) | (refine callX (.tup [.int .i64 (if ok = true then v else 0), .bool ok]) (by kernel_rfl) rfl (⟨trivial, trivial, trivial⟩) (fun β w hm => HX w) ?_)) | ((with_reducible show OpX ..); first | fail) | ((with_reducible show ∃ _ : SV, _); first | fail) | ((with_reducible show ∃ _, _); first | fail))
    all_goals first | rfl | (exfalso; omega) | (exfalso; simp_all; done)
  · have hok : ok = false := hb.resolve_left hW
    subst hok
    repeat' (first | ((with_reducible first | show wpS .. | show putD .. | show putW .. | show splitG .. | show wpQ .. | show wpD .. | show wpX .. | show expX .. | show stepX .. | show keepR .. | show wpY ..); conv => whnf) | ((with_reducible show RetN ..); refine retB fun β => ?_) | ((with_reducible show _ ∧ _); first | (refine ⟨fun h => absurd h (by first | omega | decide), fun _ => ?_⟩) | (refine ⟨fun _ => ?_, fun h => absurd h (by first | omega | decide)⟩) | (refine ⟨fun _ => ?_, fun _ => ?_⟩) | (apply And.intro; · kernel_rfl) | (apply And.intro; · (show inK _ _; unfold inK; omega)) | (apply And.intro; · (show (_ : Int) ≤ 9223372036854775807; (try simp only [lenS]); omega))) | ((with_reducible show AllBe ..); refine allBe fun βe => ?_; conv => whnf) | ((with_reducible show bothX ..); refine bothI ?_ ?_; conv => whnf) | (with_reducible exact trivial) | ((with_reducible show CallN ..); refine call_of env_ok rfl 1000 ?_) | ((with_reducible show XopN ..); refine xop_of env_ok rfl 1000 ?_) | ((with_reducible show CallX ..); first | (refine callX (.tup [.str rest, .bool m]) (by kernel_rfl) rfl (⟨trivial, trivial, trivial⟩) (fun β w hm => HC w) ?_) | (refine callX (.tup [.str W, .str T]) (by kernel_rfl) rfl (⟨trivial, trivial, trivial⟩) (fun β w hm => HR w) ?_) | (refine callX (.tup [.str T, .lit false]) (by kernel_rfl) rfl (⟨trivial, trivial, trivial⟩) (fun β w hm => HD w) ?_) | (refine callX (.tup [.int .i64 (if false = true then v else 0), .bool false]) (by kernel_rfl) rfl (⟨trivial, trivial, trivial⟩) (fun β w hm => HX w) ?_)) | ((with_reducible show OpX ..); first | fail) | ((with_reducible show ∃ _ : SV, _); first | fail) | ((with_reducible show ∃ _, _); first | fail))
    all_goals first | rfl | (exfalso; omega) | (exfalso; simp_all; done)
set_option maxRecDepth 100000 in
set_option maxHeartbeats 4000000 in
theorem parse_good0 (s : List UInt8) (w : World) (hw : XW w) (hw0 : 0 < w.heap.size) (hs : s.length ≤ 9223372036854775807) (h : s.length ≤ 1000) (hx : ExP.parX (ExP.runR (ExP.cutM s).1) ≠ true) (hp : (ExP.runR (ExP.cutM s).1).head? ≠ some 46) (hW : ExP.decW s ≠ []) (hB : ExP.expB (ExP.decT s) = true) :
    Calls Tryz.prog 111 #[.string (bstr s)] w (WrOut (ExP.writeF (ExP.decN s)) (ExP.writeE (ExP.decN s)) w) := by
  have HC := fun w => cutM_any s w
  have hL := cutM_len s
  have hR := ExP.run_len (ExP.cutM s).1
  have HR := fun w => run_any (ExP.cutM s).1 w (by omega)
  have HD := fun w => cutD_any (ExP.runR (ExP.cutM s).1) w
  have hpx : (ExP.runR (ExP.cutM s).1).head? ≠ some 46 := hp
  have eP : ExP.decP s = [] := by unfold ExP.decP ExP.parD; rw [if_neg hp]
  have eT : ExP.decT s = ExP.runR (ExP.cutM s).1 := by unfold ExP.decT ExP.parR; rw [if_neg hp]
  rw [if_neg hp, beq_eq_false_iff_ne.2 hp] at HD
  have hTl : (ExP.decT s).length ≤ 1000 := by rw [eT]; omega
  have hPa : (ExP.decP s).all ExP.digC = true := by rw [eP]; rfl
  have hPl : (ExP.decP s).length ≤ 1000 := by rw [eP]; simp
  have hPW : (ExP.decW s).length + (ExP.decP s).length ≤ 1000 := by rw [eP]; unfold ExP.decW; simp; omega
  rw [← eT] at HD HR
  have HX := fun w => exponent_any (ExP.decT s) w (by omega)
  have hv := ExP.expV_le _ hB
  simp only [hB, if_true] at HX
  have hWa : (ExP.decW s).all ExP.digC = true := ExP.runD_all _
  have ha : (ExP.decW s ++ ExP.decP s).all ExP.digC = true := by rw [List.all_append, hWa, hPa]; rfl
  have HP := fun w => parse_any (ExP.decW s ++ ExP.decP s) w (by rw [List.length_append]; omega) ha
  have hn := ExP.nd_val (b := 1000000000) (by omega) ha
  rw [List.length_append] at hn
  have hN : ExP.decN s = ExP.scaleN ⟨(ExP.cutM s).2, ExP.valS (ExP.decW s ++ ExP.decP s), 1⟩ (ExP.expV (ExP.decT s) - ((ExP.decP s).length : Int)) := rfl
  obtain ⟨i0, hi, hz0, hz1, hz2⟩ := info_parts u32Info
  have hu := Tryz.underlying137
  have hsz := fun w => Tryz.sizeOf161 w
  have hzv := fun w => Tryz.zeroValue161 w
  have hn1 : ExP.nd 1000000000 1 = 1 := ExP.nd_one (by omega)
  have hv1 : nv .u32 1000000000 1 = [.int .u32 1] := nv_one (by omega)
  have W1 := fun (x : FrV) (w' : World) (h : Below w.heap.size w w') => write_any x w' (hw.below h) (Nat.lt_of_lt_of_le hw0 h.size)
  have eW : ExP.runD (ExP.cutM s).1 = ExP.decW s := rfl
  rw [eW] at HR hR
  clear hpx hp hx hR
  rw [eP] at HP hn hN hPW hPl ha
  clear eW eT eP
  generalize (ExP.cutM s).2 = m at *
  generalize (ExP.cutM s).1 = rest at *
  generalize ExP.decW s = W at *
  generalize ExP.decT s = T at *
  generalize ExP.expV T = v at *
  generalize ExP.valS (W ++ ([] : List UInt8)) = V at *
  generalize ExP.decN s = N at *
  obtain ⟨k, hk⟩ : ∃ k, k = (v - ((([] : List UInt8)).length : Int)).natAbs := ⟨_, rfl⟩
  have hk2 : k ≤ 2000 := by (try simp only [List.length_nil] at hk); omega
  have HT := fun (w' : World) (h : Below w.heap.size w w') => ten_any k w' (Nat.lt_of_lt_of_le hw0 h.size) (by omega)
  have hnt := ExP.nd_ten (b := 1000000000) (by omega) k
  have hnm := ExP.nd_mul (b := 1000000000) (x := V) (y := 10 ^ k) (by omega)
  have hkp : 0 < 10 ^ k := Nat.pow_pos (by omega)
  by_cases hneg : v - ((([] : List UInt8)).length : Int) < 0
  · have hN2 : N = ⟨m, V, 10 ^ k⟩ := by
      rw [hN, ExP.scaleN, if_pos hneg, ← hk]
      simp
    rw [hN2]
    have hkk : 0 - (v - ((([] : List UInt8)).length : Int)) = (k : Int) := by omega
    clear hN hN2
    refine enter env_ok Tryz.func111 rfl Tryz.results111 Tryz.ntmps111 [] [100018] [.str s] (by simp [SV.oks, SV.ok]) (Nat.le_of_ble_eq_true rfl) w _ 1000 ?_
    repeat' (first | ((with_reducible first | show wpS .. | show putD .. | show putW .. | show splitG .. | show wpQ .. | show wpD .. | show wpX .. | show expX .. | show stepX .. | show keepR .. | show wpY ..); conv => whnf) | ((with_reducible show RetN ..); refine retB fun β => ?_) | ((with_reducible show _ ∧ _); first | (refine ⟨fun h => absurd h (by first | omega | decide), fun _ => ?_⟩) | (refine ⟨fun _ => ?_, fun h => absurd h (by first | omega | decide)⟩) | (refine ⟨fun _ => ?_, fun _ => ?_⟩) | (apply And.intro; · kernel_rfl) | (apply And.intro; · (show inK _ _; unfold inK; omega)) | (apply And.intro; · (show (_ : Int) ≤ 9223372036854775807; (try simp only [lenS]); omega))) | ((with_reducible show AllBe ..); refine allBe fun βe => ?_; conv => whnf) | ((with_reducible show bothX ..); refine bothI ?_ ?_; conv => whnf) | (with_reducible exact trivial) | ((with_reducible show CallN ..); refine call_of env_ok rfl 1000 ?_) | ((with_reducible show XopN ..); refine xop_of env_ok rfl 1000 ?_) | ((with_reducible show CallX ..); first | (refine callX (.tup [.str rest, .bool m]) (by kernel_rfl) rfl (⟨trivial, trivial, trivial⟩) (fun β w hm => HC w) ?_) | (refine callX (.tup [.str W, .str T]) (by kernel_rfl) rfl (⟨trivial, trivial, trivial⟩) (fun β w hm => HR w) ?_) | (refine callX (.tup [.str T, .lit false]) (by kernel_rfl) rfl (⟨trivial, trivial, trivial⟩) (fun β w hm => HD w) ?_) | (refine callX (.tup [.int .i64 v, .bool true]) (by kernel_rfl) rfl (⟨trivial, trivial, trivial⟩) (fun β w hm => HX w) ?_) | (refine callNat .u32 1000000000 V hw0 (by kernel_rfl) rfl (fun β w' hm => HP w') (fun a1 c1 q1 q2 q3 => ?_)) | (refine callNat .u32 1000000000 (10 ^ k) hw0 (by kernel_rfl) rfl (fun β w' hm => by simp only [SV.dens, SV.den]; rw [hkk]; exact HT w' hm.below) (fun a2 c2 q4 q5 q6 => ?_)) | (refine callX (.tup [.agg [.str (ExP.writeF ⟨m, V, 10 ^ k⟩).1, .str (ExP.writeF ⟨m, V, 10 ^ k⟩).2], .int .i64 (ExP.writeE ⟨m, V, 10 ^ k⟩)]) (by kernel_rfl) rfl (⟨⟨trivial, trivial, trivial⟩, trivial, trivial⟩) (fun β w hm => W1 ⟨m, V, 10 ^ k, a1, c1, a2, c2⟩ w hm.below (FrIn.of (by first | exact hm.slF 1 rfl | exact hm.slF 2 rfl | exact hm.slF 3 rfl | exact hm.slF 4 rfl | exact hm.slF 5 rfl) (by first | exact hm.slF 1 rfl | exact hm.slF 2 rfl | exact hm.slF 3 rfl | exact hm.slF 4 rfl | exact hm.slF 5 rfl) ⟨q1, q4, q2, q5⟩) hkp (by dsimp only; omega) (by dsimp only; omega)) ?_)) | ((with_reducible show OpX ..); first | (refine opx_build1 (sz := 1) rfl rfl rfl (xs := [.int .u32 1]) (fun β => rfl) rfl (by omega) (by omega) hu hsz hzv (fun g1 => ?_))) | ((with_reducible show ∃ _ : SV, _); first | fail) | ((with_reducible show ∃ _, _); first | fail))
    all_goals first | rfl | (exfalso; omega) | (exfalso; simp_all; done)
  · have hN2 : N = ⟨m, V * 10 ^ k, 1⟩ := by
      rw [hN, ExP.scaleN, if_neg hneg, ← hk]
    rw [hN2]
    have hkk : v - ((([] : List UInt8)).length : Int) = (k : Int) := by omega
    clear hN hN2
    refine enter env_ok Tryz.func111 rfl Tryz.results111 Tryz.ntmps111 [] [100018] [.str s] (by simp [SV.oks, SV.ok]) (Nat.le_of_ble_eq_true rfl) w _ 1000 ?_
    repeat' (first | ((with_reducible first | show wpS .. | show putD .. | show putW .. | show splitG .. | show wpQ .. | show wpD .. | show wpX .. | show expX .. | show stepX .. | show keepR .. | show wpY ..); conv => whnf) | ((with_reducible show RetN ..); refine retB fun β => ?_) | ((with_reducible show _ ∧ _); first | (refine ⟨fun h => absurd h (by first | omega | decide), fun _ => ?_⟩) | (refine ⟨fun _ => ?_, fun h => absurd h (by first | omega | decide)⟩) | (refine ⟨fun _ => ?_, fun _ => ?_⟩) | (apply And.intro; · kernel_rfl) | (apply And.intro; · (show inK _ _; unfold inK; omega)) | (apply And.intro; · (show (_ : Int) ≤ 9223372036854775807; (try simp only [lenS]); omega))) | ((with_reducible show AllBe ..); refine allBe fun βe => ?_; conv => whnf) | ((with_reducible show bothX ..); refine bothI ?_ ?_; conv => whnf) | (with_reducible exact trivial) | ((with_reducible show CallN ..); refine call_of env_ok rfl 1000 ?_) | ((with_reducible show XopN ..); refine xop_of env_ok rfl 1000 ?_) | ((with_reducible show CallX ..); first | (refine callX (.tup [.str rest, .bool m]) (by kernel_rfl) rfl (⟨trivial, trivial, trivial⟩) (fun β w hm => HC w) ?_) | (refine callX (.tup [.str W, .str T]) (by kernel_rfl) rfl (⟨trivial, trivial, trivial⟩) (fun β w hm => HR w) ?_) | (refine callX (.tup [.str T, .lit false]) (by kernel_rfl) rfl (⟨trivial, trivial, trivial⟩) (fun β w hm => HD w) ?_) | (refine callX (.tup [.int .i64 v, .bool true]) (by kernel_rfl) rfl (⟨trivial, trivial, trivial⟩) (fun β w hm => HX w) ?_) | (refine callNat .u32 1000000000 V hw0 (by kernel_rfl) rfl (fun β w' hm => HP w') (fun a1 c1 q1 q2 q3 => ?_)) | (refine callNat .u32 1000000000 (10 ^ k) hw0 (by kernel_rfl) rfl (fun β w' hm => by simp only [SV.dens, SV.den]; rw [hkk]; exact HT w' hm.below) (fun a2 c2 q4 q5 q6 => ?_)) | (refine callNat .u32 1000000000 (V * 10 ^ k) hw0 (by kernel_rfl) rfl (fun β w' hm => times_any a1 a2 c1 c2 V (10 ^ k) w' (by omega) (by omega) (by first | exact hm.slF 1 rfl | exact hm.slF 2 rfl | exact hm.slF 3 rfl | exact hm.slF 4 rfl | exact hm.slF 5 rfl) (by first | exact hm.slF 1 rfl | exact hm.slF 2 rfl | exact hm.slF 3 rfl | exact hm.slF 4 rfl | exact hm.slF 5 rfl)) (fun a3 c3 q7 q8 q9 => ?_)) | (refine callX (.tup [.agg [.str (ExP.writeF ⟨m, V * 10 ^ k, 1⟩).1, .str (ExP.writeF ⟨m, V * 10 ^ k, 1⟩).2], .int .i64 (ExP.writeE ⟨m, V * 10 ^ k, 1⟩)]) (by kernel_rfl) rfl (⟨⟨trivial, trivial, trivial⟩, trivial, trivial⟩) (fun β w hm => by have W2 := W1 ⟨m, V * 10 ^ k, 1, a3, c3, some ⟨g1, 0, none⟩, 1⟩ w hm.below (FrIn.of (by first | exact hm.slF 1 rfl | exact hm.slF 2 rfl | exact hm.slF 3 rfl | exact hm.slF 4 rfl | exact hm.slF 5 rfl) (by rw [hv1]; first | exact (hm.own 1 rfl).1 | exact (hm.own 2 rfl).1 | exact (hm.own 3 rfl).1) ⟨q7, (fun h => by cases h), q8, by dsimp only; omega⟩) (by dsimp only; omega) (by dsimp only; omega) (by dsimp only; omega); simp only [FrV.val, hn1] at W2; exact W2) ?_)) | ((with_reducible show OpX ..); first | (refine opx_build1 (sz := 1) rfl rfl rfl (xs := [.int .u32 1]) (fun β => rfl) rfl (by omega) (by omega) hu hsz hzv (fun g1 => ?_))) | ((with_reducible show ∃ _ : SV, _); first | fail) | ((with_reducible show ∃ _, _); first | fail))
    all_goals first | rfl | (exfalso; omega) | (exfalso; simp_all; done)
theorem parse_law (s : List UInt8) (w : World) (hw : XW w) (hw0 : 0 < w.heap.size) (hs : s.length ≤ 9223372036854775807) :
    Calls Tryz.prog 111 #[.string (bstr s)] w (WrOut (if ExP.parE s = 0 then ExP.writeF (ExP.decN s) else ([], [])) (if ExP.parE s = 0 then ExP.writeE (ExP.decN s) else ExP.parE s) w) := by
  have hE : ExP.parE s = if 1000 < s.length then 3 else if ExP.parX (ExP.runR (ExP.cutM s).1) = true ∨ ExP.decW s = [] ∨ ExP.expB (ExP.decT s) = false then 10 else 0 := rfl
  by_cases h : 1000 < s.length
  · rw [if_pos h] at hE
    rw [hE]
    exact parse_long s w hw hw0 hs h
  rw [if_neg h] at hE
  by_cases hx : ExP.parX (ExP.runR (ExP.cutM s).1) = true
  · rw [if_pos (.inl hx)] at hE
    rw [hE]
    exact parse_point s w hw hw0 hs (by omega) hx
  by_cases hb : ExP.decW s = [] ∨ ExP.expB (ExP.decT s) = false
  · rw [if_pos (.inr hb)] at hE
    rw [hE]
    by_cases hp : (ExP.runR (ExP.cutM s).1).head? = some 46
    · exact parse_bad1 s w hw hw0 hs (by omega) hx hp hb
    · exact parse_bad0 s w hw hw0 hs (by omega) hx hp hb
  · rw [if_neg (fun h => h.elim hx hb)] at hE
    rw [hE]
    simp only [not_or, Bool.not_eq_false] at hb
    by_cases hp : (ExP.runR (ExP.cutM s).1).head? = some 46
    · exact parse_good1 s w hw hw0 hs (by omega) hx hp hb.1 hb.2
    · exact parse_good0 s w hw hw0 hs (by omega) hx hp hb.1 hb.2
end Go.Proofs.YtdkhkfdenlabaaaGreatDoor
namespace Go.Proofs.YtdkhkfdenlabaaaGreatDoor
open Go.RowKit
open Sym
attribute [local irreducible] Calls Sym.AggEq ExP.nd ExP.dig ExP.upd ExP.writeF ExP.writeE
set_option maxRecDepth 100000 in
theorem vdigits_any (s : List UInt8) (w : World) (hs : s.length ≤ 9223372036854775807) : Calls Tryz.prog 119 #[.string (bstr s)] w fun e w' => e = .returned (.tuple #[.string (bstr (ExP.runD s)), .string (bstr (ExP.runR s))]) ∧ Below w.heap.size w w' := by
  have HT := fun w => trimLeft_any s w
  have h1 := ExP.run_len s
  have h2 := ExP.run_take s
  generalize ExP.runR s = r at *
  refine enter env_ok Tryz.func119 rfl Tryz.results119 Tryz.ntmps119 [] [] [.str s] (by simp [SV.oks, SV.ok]) (Nat.le_of_ble_eq_true rfl) w _ 1000 ?_
  repeat' (first | ((with_reducible first | show wpS .. | show putD .. | show putW .. | show splitG .. | show wpQ .. | show wpD .. | show wpX .. | show expX .. | show stepX .. | show keepR .. | show wpY ..); conv => whnf) | ((with_reducible show RetN ..); refine retB fun β => ?_) | ((with_reducible show _ ∧ _); first | (refine ⟨fun h => absurd h (by first | omega | decide), fun _ => ?_⟩) | (refine ⟨fun _ => ?_, fun h => absurd h (by first | omega | decide)⟩) | (refine ⟨fun _ => ?_, fun _ => ?_⟩) | (apply And.intro; · kernel_rfl) | (apply And.intro; · (show inK _ _; unfold inK; omega)) | (apply And.intro; · (show (_ : Int) ≤ 9223372036854775807; (try simp only [lenS]); omega))) | ((with_reducible show AllBe ..); refine allBe fun βe => ?_; conv => whnf) | ((with_reducible show bothX ..); refine bothI ?_ ?_; conv => whnf) | (with_reducible exact trivial) | ((with_reducible show CallN ..); refine call_of env_ok rfl 1000 ?_) | ((with_reducible show XopN ..); refine xop_of env_ok rfl 1000 ?_) | ((with_reducible show CallX ..); first | (refine callX (.str r) (by kernel_rfl) rfl (trivial) (fun β w hm => HT w) ?_)) | ((with_reducible show OpX ..); first | fail) | ((with_reducible show ∃ _ : SV, _); first | fail) | ((with_reducible show ∃ _, _); first | (refine ⟨s.length - r.length, by omega, by omega, ?_⟩)))
  all_goals first | (rw [h2]; rfl) | (simp [SV.den, SV.dens, h2]; done) | skip
theorem cutPct_any (s : List UInt8) (w : World) (hs : s.length ≤ 9223372036854775807) : Calls Tryz.prog 110 #[.string (bstr s), .string (bstr [37])] w fun e w' => e = .returned (.tuple #[.string (bstr (VaP.cutP s).1), .bool (VaP.cutP s).2]) ∧ Below w.heap.size w w' := by
  refine (Tryz.strings_CutSuffix (bstr s) (bstr [37]) w hs).mono ?_
  rintro e w' ⟨h, rfl⟩
  refine ⟨?_, Below.refl _ _⟩
  rw [h, show (bstr s).data.toList = s from rfl, show (bstr [37]).data.toList = [37] from rfl]
  have e1 : Lib.hasSuffix s [37] = decide (s.getLast? = some 37) := by
    rw [Bool.eq_iff_iff, decide_eq_true_eq]
    unfold Lib.hasSuffix
    rw [List.isSuffixOf_iff_suffix]
    constructor
    · rintro ⟨t, rfl⟩; simp
    · intro h
      obtain ⟨t, rfl⟩ := List.getLast?_eq_some_iff.1 h
      exact ⟨t, rfl⟩
  unfold Lib.trimSuffix VaP.cutP
  rw [e1]
  by_cases hl : s.getLast? = some 37
  · rw [decide_eq_true hl, if_pos rfl, if_pos hl]
    obtain ⟨t, rfl⟩ := List.getLast?_eq_some_iff.1 hl
    have e2 : (t ++ [37]).take ((t ++ [37]).length - 1) = t := by simp
    show Ending.returned (.tuple #[.string (bstr ((t ++ [37]).take ((t ++ [37]).length - 1))), .bool true]) = _
    rw [e2, List.dropLast_concat]
  · rw [decide_eq_false hl, if_neg Bool.false_ne_true, if_neg hl]
    rfl
theorem VaP.grpF_len : ∀ (k : Nat) (d r : List UInt8), (VaP.grpF k d r).1.length + (VaP.grpF k d r).2.length ≤ d.length + r.length
  | 0, d, r => Nat.le_refl _
  | k + 1, d, r => by
    unfold VaP.grpF
    split
    · have h1 := VaP.grpF_len k (d ++ ExP.runD r.tail) (ExP.runR r.tail)
      have h2 := ExP.run_len r.tail
      have h3 : r.tail.length ≤ r.length := by simp
      rw [List.length_append] at h1
      omega
    · exact Nat.le_refl _
theorem VaP.grp_len (s : List UInt8) : (VaP.grp s).1.length + (VaP.grp s).2.length ≤ s.length := by
  have h2 := ExP.run_len s
  unfold VaP.grp
  split
  · exact Nat.le_of_eq h2
  · have h1 := VaP.grpF_len (ExP.runR s).length (ExP.runD s) (ExP.runR s)
    unfold VaP.grpR
    omega
set_option maxRecDepth 100000 in
theorem grouped_any (s : List UInt8) (w : World) (hs : s.length ≤ 1000000) : Calls Tryz.prog 109 #[.string (bstr s)] w fun e w' => e = .returned (.tuple #[.string (bstr (VaP.grp s).1), .string (bstr (VaP.grp s).2)]) ∧ Below w.heap.size w w' := by
  have D := fun (t : List UInt8) (h : t.length ≤ 1000000) (w' : World) => vdigits_any t w' (by omega)
  have H := fun (t : List UInt8) (w' : World) => hasOne_any t 44 w'
  have D0 := D s hs
  have hG : VaP.grp s = if (ExP.runD s).length < 1 ∨ 3 < (ExP.runD s).length then (ExP.runD s, ExP.runR s) else VaP.grpR (ExP.runD s) (ExP.runR s) := rfl
  have hl := ExP.run_len s
  generalize VaP.grp s = G at *
  generalize ExP.runD s = d0 at *
  generalize ExP.runR s = r0 at *
  refine enter env_ok Tryz.func109 rfl Tryz.results109 Tryz.ntmps109 [] [] [.str s] (by simp [SV.oks, SV.ok]) (Nat.le_of_ble_eq_true rfl) w _ 1000 ?_
  repeat' (first | ((with_reducible first | show wpS .. | show putD .. | show putW .. | show splitG .. | show wpQ .. | show wpD .. | show wpX .. | show expX .. | show stepX .. | show keepR .. | show wpY ..); conv => whnf) | ((with_reducible show RetN ..); refine retB fun β => ?_) | ((with_reducible show _ ∧ _); first | (refine ⟨fun h => absurd h (by first | omega | decide), fun _ => ?_⟩) | (refine ⟨fun _ => ?_, fun h => absurd h (by first | omega | decide)⟩) | (refine ⟨fun _ => ?_, fun _ => ?_⟩) | (apply And.intro; · kernel_rfl) | (apply And.intro; · (show inK _ _; unfold inK; omega)) | (apply And.intro; · (show (_ : Int) ≤ 9223372036854775807; (try simp only [lenS]); omega))) | ((with_reducible show AllBe ..); refine allBe fun βe => ?_; conv => whnf) | ((with_reducible show bothX ..); refine bothI ?_ ?_; conv => whnf) | (with_reducible exact trivial) | ((with_reducible show CallN ..); refine call_of env_ok rfl 1000 ?_) | ((with_reducible show XopN ..); refine xop_of env_ok rfl 1000 ?_) | ((with_reducible show CallX ..); first | (refine callX (.tup [.str d0, .str r0]) (by kernel_rfl) rfl (⟨trivial, trivial, trivial⟩) (fun β w hm => D0 w) ?_)) | ((with_reducible show OpX ..); first | fail) | ((with_reducible show ∃ _ : SV, _); first | fail) | ((with_reducible show ∃ _, _); first | fail))
  all_goals first | (rw [hG, if_pos (by omega)]; rfl) | skip
  rw [if_neg (by omega)] at hG
  refine loop env_ok rfl (T := {t : List UInt8 × List UInt8 // t.1.length + t.2.length ≤ 1000000 ∧ VaP.grpR t.1 t.2 = G}) (fun t => ⟨[(4, .str t.1.1), (5, .str t.1.2)], [], 0, 40⟩) (fun t => t.1.2.length) ⟨(d0, r0), by dsimp only; omega, hG.symm⟩ 1000 [] [] (fun _ => Nat.zero_le _) (by ((with_reducible show wk _ _); repeat' (first | exact trivial | exact eqSV_refl _ | (refine eqI ?_) | (refine eqS ?_) | (with_reducible exact rfl) | apply And.intro | exact Nat.zero_lt_one | exact Nat.le_of_ble_eq_true rfl | (with_reducible assumption) | ((show (_ : Int) = _); (try dsimp only); omega) | ((show eqSV _ _); simp [eqSV, isB, bval, *]; done) | rfl))) (fun t I hI => ?_)
  obtain ⟨⟨d, r⟩, hdr, hg⟩ := t
  dsimp only
  have hdr : d.length + r.length ≤ 1000000 := hdr
  have hg : VaP.grpR d r = G := hg
  have hst := VaP.grpR_step d r
  rw [hg] at hst
  have H0 := H r
  cases r with
  | nil =>
    rw [if_neg (fun h => by cases h.1)] at hst
    have H0 : ∀ w' : World, Calls Tryz.prog 162 #[.string (bstr []), .string (bstr [44])] w' fun e w'' => e = .returned (.bool false) ∧ Below w'.heap.size w' w'' := H0
    subst hst
    repeat' (first | ((with_reducible first | show wpS .. | show putD .. | show putW .. | show splitG .. | show wpQ .. | show wpD .. | show wpX .. | show expX .. | show stepX .. | show keepR .. | show wpY ..); conv => whnf) | ((with_reducible show RetN ..); refine retB fun β => ?_) | ((with_reducible show _ ∧ _); first | (refine ⟨fun h => absurd h (by first | omega | decide), fun _ => ?_⟩) | (refine ⟨fun _ => ?_, fun h => absurd h (by first | omega | decide)⟩) | (refine ⟨fun _ => ?_, fun _ => ?_⟩) | (apply And.intro; · kernel_rfl) | (apply And.intro; · (show inK _ _; unfold inK; omega)) | (apply And.intro; · (show (_ : Int) ≤ 9223372036854775807; (try simp only [lenS]); omega))) | ((with_reducible show AllBe ..); refine allBe fun βe => ?_; conv => whnf) | ((with_reducible show bothX ..); refine bothI ?_ ?_; conv => whnf) | (with_reducible exact trivial) | ((with_reducible show CallN ..); refine call_of env_ok rfl 1000 ?_) | ((with_reducible show XopN ..); refine xop_of env_ok rfl 1000 ?_) | ((with_reducible show CallX ..); first | (refine callX (.lit false) (by kernel_rfl) rfl (trivial) (fun β w hm => H0 w) ?_)) | ((with_reducible show OpX ..); first | fail) | ((with_reducible show ∃ _ : SV, _); first | fail) | ((with_reducible show ∃ _, _); first | fail))
    all_goals rfl
  | cons x q =>
    have hq := ExP.run_len q
    have D1 := D q (by simp at hdr; omega)
    have hlc : (x :: q).length = q.length + 1 := rfl
    have htl : (x :: q).tail = q := rfl
    rw [htl] at hst
    by_cases hx : x = 44
    · subst hx
      have H0 : ∀ w' : World, Calls Tryz.prog 162 #[.string (bstr (44 :: q)), .string (bstr [44])] w' fun e w'' => e = .returned (.bool true) ∧ Below w'.heap.size w' w'' := H0
      generalize ExP.runD q = d1 at *
      generalize ExP.runR q = r1 at *
      repeat' (first | ((with_reducible first | show wpS .. | show putD .. | show putW .. | show splitG .. | show wpQ .. | show wpD .. | show wpX .. | show expX .. | show stepX .. | show keepR .. | show wpY ..); conv => whnf) | ((with_reducible show RetN ..); refine retB fun β => ?_) | ((with_reducible show _ ∧ _); first | (refine ⟨fun h => absurd h (by first | omega | decide), fun _ => ?_⟩) | (refine ⟨fun _ => ?_, fun h => absurd h (by first | omega | decide)⟩) | (refine ⟨fun _ => ?_, fun _ => ?_⟩) | (apply And.intro; · kernel_rfl) | (apply And.intro; · (show inK _ _; unfold inK; omega)) | (apply And.intro; · (show (_ : Int) ≤ 9223372036854775807; (try simp only [lenS]); omega))) | ((with_reducible show AllBe ..); refine allBe fun βe => ?_; conv => whnf) | ((with_reducible show bothX ..); refine bothI ?_ ?_; conv => whnf) | (with_reducible exact trivial) | ((with_reducible show CallN ..); refine call_of env_ok rfl 1000 ?_) | ((with_reducible show XopN ..); refine xop_of env_ok rfl 1000 ?_) | ((with_reducible show CallX ..); first | (refine callX (.lit true) (by kernel_rfl) rfl (trivial) (fun β w hm => H0 w) ?_) | (refine callX (.tup [.str d1, .str r1]) (by kernel_rfl) rfl (⟨trivial, trivial, trivial⟩) (fun β w hm => D1 w) ?_)) | ((with_reducible show OpX ..); first | fail) | ((with_reducible show ∃ _ : SV, _); first | fail) | ((with_reducible show ∃ _, _); first | (refine ⟨1, rfl, by omega, ?_⟩)))
      all_goals first | (rw [if_neg (fun h => by omega)] at hst; subst hst; rfl) | (refine hI _ ⟨(d ++ d1, r1), by simp only [List.length_append]; omega, by rw [hst, if_pos ⟨rfl, by omega⟩]⟩ (by dsimp only; omega) (by ((with_reducible show wk _ _); repeat' (first | exact trivial | exact eqSV_refl _ | (refine eqI ?_) | (refine eqS ?_) | (with_reducible exact rfl) | apply And.intro | exact Nat.zero_lt_one | exact Nat.le_of_ble_eq_true rfl | (with_reducible assumption) | ((show (_ : Int) = _); (try dsimp only); omega) | ((show eqSV _ _); simp [eqSV, isB, bval, *]; done) | rfl))); done) | trace_state
    · have H0 : ∀ w' : World, Calls Tryz.prog 162 #[.string (bstr (x :: q)), .string (bstr [44])] w' fun e w'' => e = .returned (.bool false) ∧ Below w'.heap.size w' w'' := by
        have e : ((x :: q).head? == some 44) = false := by rw [beq_eq_false_iff_ne]; intro e; exact hx (by simpa using e)
        rw [e] at H0; exact H0
      rw [if_neg (fun h => hx (by simpa using h.1))] at hst
      subst hst
      repeat' (first | ((with_reducible first | show wpS .. | show putD .. | show putW .. | show splitG .. | show wpQ .. | show wpD .. | show wpX .. | show expX .. | show stepX .. | show keepR .. | show wpY ..); conv => whnf) | ((with_reducible show RetN ..); refine retB fun β => ?_) | ((with_reducible show _ ∧ _); first | (refine ⟨fun h => absurd h (by first | omega | decide), fun _ => ?_⟩) | (refine ⟨fun _ => ?_, fun h => absurd h (by first | omega | decide)⟩) | (refine ⟨fun _ => ?_, fun _ => ?_⟩) | (apply And.intro; · kernel_rfl) | (apply And.intro; · (show inK _ _; unfold inK; omega)) | (apply And.intro; · (show (_ : Int) ≤ 9223372036854775807; (try simp only [lenS]); omega))) | ((with_reducible show AllBe ..); refine allBe fun βe => ?_; conv => whnf) | ((with_reducible show bothX ..); refine bothI ?_ ?_; conv => whnf) | (with_reducible exact trivial) | ((with_reducible show CallN ..); refine call_of env_ok rfl 1000 ?_) | ((with_reducible show XopN ..); refine xop_of env_ok rfl 1000 ?_) | ((with_reducible show CallX ..); first | (refine callX (.lit false) (by kernel_rfl) rfl (trivial) (fun β w hm => H0 w) ?_)) | ((with_reducible show OpX ..); first | fail) | ((with_reducible show ∃ _ : SV, _); first | fail) | ((with_reducible show ∃ _, _); first | fail))
      all_goals rfl
end Go.Proofs.YtdkhkfdenlabaaaGreatDoor
