/- Values: the law of errors and makers. -/
import Derived.Test.YtdkhkfdenlabaaaGreatDoorJGW
import Derived.Test.YtdkhkfdenlabaaaGreatDoorJVaL1
import Derived.Lib.ItoaLen
set_option linter.unusedSimpArgs false
set_option linter.unusedVariables false
namespace Go.Proofs.YtdkhkfdenlabaaaGreatDoor
open Go.RowKit
open Sym
attribute [local irreducible] Calls Sym.AggEq ExP.nd ExP.dig ExP.upd ExP.writeF ExP.writeE
theorem rsame_self (x : VaP.VT) (w : World) (hf : x.Fit) (h : x.items = []) : Calls Tryz.prog 10 #[vtV x none 0, vtV x none 0] w fun e w' => e = .returned (.bool true) ∧ Below w.heap.size w w' := by
  have := rsame_any x x none none 0 0 w (VIn.flat h hf) (VIn.flat h hf)
  rwa [VaP.same_true.2 rfl] at this
theorem VaP.fit_num {f : ExP.Fr} (h1 : f.1.length ≤ 9223372036854775807) (h2 : f.2.length ≤ 9223372036854775807) : (VaP.numF f).Fit := ⟨h1, h2, by simp [VaP.numF], by simp [VaP.numF]⟩
theorem VaP.fit_fault (c : Int) : (VaP.faultV c).Fit := ⟨by simp [VaP.faultV], by simp [VaP.faultV], by simp [VaP.faultV], by simp [VaP.faultV]⟩
theorem VaP.fit_text {s : List UInt8} (h : s.length ≤ 9223372036854775807) : (VaP.textV s).Fit := by
  unfold VaP.textV
  split
  · exact ⟨by simp [VaP.rawT], by simp [VaP.rawT], h, by simp [VaP.rawT]⟩
  · exact VaP.fit_fault 2
theorem VaP.items_text (s : List UInt8) : (VaP.textV s).items = [] := by
  unfold VaP.textV
  split <;> rfl
theorem VaP.fit_bool (b : Bool) : (VaP.boolV b).Fit := ⟨by simp [VaP.boolV], by simp [VaP.boolV], by simp [VaP.boolV], by simp [VaP.boolV]⟩
theorem VaP.sound_num (f : ExP.Fr) : VaP.soundV (VaP.numF f) = if ExP.readE f = 0 then VaP.numF f else VaP.faultV 2 := by unfold VaP.soundV; rw [VaP.vErr_num]
theorem VaP.sound_fault (c : Int) : VaP.soundV (VaP.faultV c) = VaP.faultV (if c < 1 ∨ 8 < c then 2 else c) := by
  unfold VaP.soundV
  rw [VaP.vErr_fault]
  by_cases h : c < 1 ∨ 8 < c
  · rw [if_pos h, if_neg (by omega), if_pos h]
  · rw [if_neg h, if_pos rfl, if_neg h]
section
variable (t o : VaP.VT) (a b : Option Addr) (cap cap' : Nat) (n : Int) (w : World) (hw : XV w ∧ XR w) (ht : VIn w t a cap) (ho : VIn w o b cap') (h0 : -9223372036854775808 ≤ n) (h1 : n ≤ 9223372036854775807)
include hw ht ho h0 h1
set_option maxRecDepth 100000 in
set_option maxHeartbeats 16000000 in
theorem checkLaw_bad (F : Int) (hF : F = VaP.vErr (VaP.arrT t)) (hbad : F ≠ 0) : Calls Tryz.prog 4 #[vtV t a cap, vtV o b cap', .int .i64 n] w fun e w' => e = .returned (.bool true) ∧ Below w.heap.size w w' := by
  have hw0 := hw.1.pos
  have hf := ht.fit
  have V := fun (w' : World) (h : Below w.heap.size w w') => values_any w' (hw.1.below h)
  have C := fun (w' : World) (h : Below w.heap.size w w') => vcheck_any t a cap w' (hw.1.below h) (ht.lift h)
  have E := fun (w' : World) (h : Below w.heap.size w w') => rverr_any t a cap w' (hw.1.below h) (hw.2.below h) (ht.lift h)
  have S1 := fun (w' : World) (h : Below w.heap.size w w') => vsame_any t o a b cap cap' w' (ht.lift h) (ho.lift h)
  have S2 := fun (w' : World) (h : Below w.heap.size w w') => rsame_any t o a b cap cap' w' (ht.lift h) (ho.lift h)
  have S3 := fun (w' : World) (h : Below w.heap.size w w') => vsame_any t t a a cap cap w' (ht.lift h) (ht.lift h)
  rw [VaP.same_true.2 rfl] at S3
  have E2 := fun (w' : World) (h : Below w.heap.size w w') => rverr_any (VaP.arrT t) a cap w' (hw.1.below h) (hw.2.below h) (ht.arr.lift h)
  have AB := fun (w' : World) (h : Below w.heap.size w w') => varray_bad t a cap w' (hw.1.below h) (ht.lift h) (by rw [← hF]; exact hbad)
  rw [← hF] at E2 AB
  have Z0 := fun (w' : World) => rsame_self VaP.emptyV w' ⟨by simp [VaP.emptyV], by simp [VaP.emptyV], by simp [VaP.emptyV], by simp [VaP.emptyV]⟩ rfl
  have N1 := fun (w' : World) (h : Below w.heap.size w w') => vnumber_any t.num w' (hw.1.below h) hf.n1 hf.n2
  have N2 := fun (w' : World) (h : Below w.heap.size w w') => sound_any (VaP.numF t.num) w' (hw.1.below h) (hw.2.below h) (VIn.flat rfl (VaP.fit_num hf.n1 hf.n2)) rfl
  rw [VaP.sound_num] at N2
  have N3 := fun (w' : World) => rsame_self (if ExP.readE t.num = 0 then VaP.numF t.num else VaP.faultV 2) w' (by split; exact VaP.fit_num hf.n1 hf.n2; exact VaP.fit_fault 2) (by split <;> rfl)
  have T1 := fun (w' : World) (h : Below w.heap.size w w') => vtextv_any t.text w' (hw.1.below h) hf.tx
  have T2 := fun (w' : World) => rtextv_any t.text w' hf.tx
  have T3 := fun (w' : World) => rsame_self (VaP.textV t.text) w' (VaP.fit_text hf.tx) (VaP.items_text _)
  have F1 := fun (w' : World) (h : Below w.heap.size w w') => vfault_any t.code w' (hw.1.below h)
  have F2 := fun (w' : World) => rfault_any t.code w'
  have F3 := fun (w' : World) (h : Below w.heap.size w w') => sound_any (VaP.faultV t.code) w' (hw.1.below h) (hw.2.below h) (VIn.flat rfl (VaP.fit_fault _)) rfl
  rw [VaP.sound_fault] at F3
  have F4 := fun (w' : World) => rsame_self (VaP.faultV (if t.code < 1 ∨ 8 < t.code then 2 else t.code)) w' (VaP.fit_fault _) rfl
  have B1 := fun (w' : World) => vbool_any t.on w'
  have B2 := fun (w' : World) => rbool_any t.on w'
  have B3 := fun (w' : World) => rsame_self (VaP.boolV t.on) w' (VaP.fit_bool _) rfl
  have I1 := fun (w' : World) (h : Below w.heap.size w w') => vwhole_any n w' (hw.1.below h) h0 h1
  have I2 := fun (w' : World) (h : Below w.heap.size w w') => rint_any n w' (Nat.lt_of_lt_of_le hw0 h.size) h0 h1
  have I3 := fun (w' : World) => rsame_self (VaP.numF (Lib.itoa n, [49])) w' (VaP.fit_num (Nat.le_trans (Lib.itoa_length_le n h0 h1) (by omega)) (by simp)) rfl
  have X1 := fun (w' : World) (h : Below w.heap.size w w') => ftext_any t.code w' (hw.1.below h)
  have X2 := fun (w' : World) (h : Below w.heap.size w w') => rftext_any t.code w' (hw.2.below h)
  clear ht ho hf
  generalize VaP.vErr t = e at *
  generalize VaP.same t o = S at *
  generalize (if ExP.readE t.num = 0 then VaP.numF t.num else VaP.faultV 2) = x1 at *
  generalize VaP.textV t.text = x2 at *
  generalize (if t.code < 1 ∨ 8 < t.code then (2 : Int) else t.code) = fc at *
  generalize VaP.ftextI t.code = FT at *
  generalize Lib.itoa n = L at *
  obtain ⟨k, ⟨n1, n2⟩, tx, on, cd, rw', cl, its⟩ := t
  obtain ⟨k2, ⟨m1, m2⟩, tx2, on2, cd2, rw2, cl2, its2⟩ := o
  unfold VaP.arrT VaP.numF VaP.faultV VaP.boolV VaP.emptyV at *
  unfold vtV at *
  dsimp only at *
  generalize its.length = L1 at *
  generalize its2.length = L2 at *
  clear hF h0 h1
  refine enter env_ok Tryz.func4 rfl Tryz.results4 Tryz.ntmps4 [] [] [.agg [.int .i64 k, .str n1, .str n2, .str tx, .bool on, .int .i64 cd, .int .i64 rw', .int .i64 cl, .any (.slice a L1 cap)], .agg [.int .i64 k2, .str m1, .str m2, .str tx2, .bool on2, .int .i64 cd2, .int .i64 rw2, .int .i64 cl2, .any (.slice b L2 cap')], .int .i64 n] ⟨⟨trivial, trivial, trivial, trivial, trivial, trivial, trivial, trivial, rfl, trivial⟩, ⟨trivial, trivial, trivial, trivial, trivial, trivial, trivial, trivial, rfl, trivial⟩, trivial, trivial⟩ (Nat.le_of_ble_eq_true rfl) w _ 1000 ?_
  repeat' (first | ((with_reducible first | show wpS .. | show putD .. | show putW .. | show splitG .. | show wpQ .. | show wpD .. | show wpX .. | show expX .. | show stepX .. | show keepR .. | show wpY ..); conv => whnf) | ((with_reducible show RetN ..); refine retB fun β => ?_) | ((with_reducible show _ ∧ _); first | (refine ⟨fun h => absurd h (by first | omega | decide), fun _ => ?_⟩) | (refine ⟨fun _ => ?_, fun h => absurd h (by first | omega | decide)⟩) | (refine ⟨fun _ => ?_, fun _ => ?_⟩) | (apply And.intro; · kernel_rfl) | (apply And.intro; · (show inK _ _; unfold inK; omega)) | (apply And.intro; · (show (_ : Int) ≤ 9223372036854775807; (try simp only [lenS]); omega))) | ((with_reducible show AllBe ..); refine allBe fun βe => ?_; conv => whnf) | ((with_reducible show bothX ..); refine bothI ?_ ?_; conv => whnf) | (with_reducible exact trivial) | ((with_reducible show CallN ..); refine call_of env_ok rfl 1000 ?_) | ((with_reducible show XopN ..); refine xop_of env_ok rfl 1000 ?_) | ((with_reducible show CallX ..); first | (refine callX (.tup [.agg [.int .i64 0, .str [], .str [], .str [], .lit false, .int .i64 0, .int .i64 0, .int .i64 0, .any (.slice none 0 0)], .int .i64 F]) (by kernel_rfl) rfl (⟨⟨trivial, trivial, trivial, trivial, trivial, trivial, trivial, trivial, rfl, trivial⟩, trivial, trivial⟩) (fun β w hm => AB w hm.below) ?_) | (refine callX (.int .i64 F) (by kernel_rfl) rfl (trivial) (fun β w hm => E2 w hm.below) ?_) | (refine callX (.lit true) (by kernel_rfl) rfl (trivial) (fun β w hm => Z0 w) ?_)) | ((with_reducible show OpX ..); first | fail) | ((with_reducible show ∃ _ : SV, _); first | (refine ⟨.lit true, by kernel_rfl, trivial, fun β w hm => V w hm.below, ?_⟩) | (refine ⟨.int .i64 e, by kernel_rfl, trivial, fun β w hm => C w hm.below, ?_⟩) | (refine ⟨.int .i64 e, by kernel_rfl, trivial, fun β w hm => E w hm.below, ?_⟩) | (refine ⟨.bool S, by kernel_rfl, trivial, fun β w hm => S1 w hm.below, ?_⟩) | (refine ⟨.bool S, by kernel_rfl, trivial, fun β w hm => S2 w hm.below, ?_⟩) | (refine ⟨.lit true, by kernel_rfl, trivial, fun β w hm => S3 w hm.below, ?_⟩) | (refine ⟨.lit false, ?ok, x_neBF S S (fun _ => rfl) (fun _ => rfl) rfl Tryz.underlying4, ?_⟩; (case ok => exact fun _ _ => trivial)) | (refine ⟨.agg [.int .i64 (x1).kind, .str (x1).num.1, .str (x1).num.2, .str (x1).text, .bool (x1).on, .int .i64 (x1).code, .int .i64 (x1).rows, .int .i64 (x1).cols, .any (.slice none (x1).items.length 0)], by kernel_rfl, ⟨trivial, trivial, trivial, trivial, trivial, trivial, trivial, trivial, rfl, trivial⟩, fun β w hm => N1 w hm.below, ?_⟩) | (refine ⟨.agg [.int .i64 (x1).kind, .str (x1).num.1, .str (x1).num.2, .str (x1).text, .bool (x1).on, .int .i64 (x1).code, .int .i64 (x1).rows, .int .i64 (x1).cols, .any (.slice none (x1).items.length 0)], by kernel_rfl, ⟨trivial, trivial, trivial, trivial, trivial, trivial, trivial, trivial, rfl, trivial⟩, fun β w hm => N2 w hm.below, ?_⟩) | (refine ⟨.lit true, by kernel_rfl, trivial, fun β w hm => N3 w, ?_⟩) | (refine ⟨.agg [.int .i64 (x2).kind, .str (x2).num.1, .str (x2).num.2, .str (x2).text, .bool (x2).on, .int .i64 (x2).code, .int .i64 (x2).rows, .int .i64 (x2).cols, .any (.slice none (x2).items.length 0)], by kernel_rfl, ⟨trivial, trivial, trivial, trivial, trivial, trivial, trivial, trivial, rfl, trivial⟩, fun β w hm => T1 w hm.below, ?_⟩) | (refine ⟨.agg [.int .i64 (x2).kind, .str (x2).num.1, .str (x2).num.2, .str (x2).text, .bool (x2).on, .int .i64 (x2).code, .int .i64 (x2).rows, .int .i64 (x2).cols, .any (.slice none (x2).items.length 0)], by kernel_rfl, ⟨trivial, trivial, trivial, trivial, trivial, trivial, trivial, trivial, rfl, trivial⟩, fun β w hm => T2 w, ?_⟩) | (refine ⟨.lit true, by kernel_rfl, trivial, fun β w hm => T3 w, ?_⟩) | (refine ⟨.agg [.int .i64 4, .str [], .str [], .str [], .lit false, .int .i64 fc, .int .i64 0, .int .i64 0, .any (.slice none 0 0)], by kernel_rfl, ⟨trivial, trivial, trivial, trivial, trivial, trivial, trivial, trivial, rfl, trivial⟩, fun β w hm => F1 w hm.below, ?_⟩) | (refine ⟨.agg [.int .i64 4, .str [], .str [], .str [], .lit false, .int .i64 cd, .int .i64 0, .int .i64 0, .any (.slice none 0 0)], by kernel_rfl, ⟨trivial, trivial, trivial, trivial, trivial, trivial, trivial, trivial, rfl, trivial⟩, fun β w hm => F2 w, ?_⟩) | (refine ⟨.agg [.int .i64 4, .str [], .str [], .str [], .lit false, .int .i64 fc, .int .i64 0, .int .i64 0, .any (.slice none 0 0)], by kernel_rfl, ⟨trivial, trivial, trivial, trivial, trivial, trivial, trivial, trivial, rfl, trivial⟩, fun β w hm => F3 w hm.below, ?_⟩) | (refine ⟨.lit true, by kernel_rfl, trivial, fun β w hm => F4 w, ?_⟩) | (refine ⟨.agg [.int .i64 3, .str [], .str [], .str [], .bool on, .int .i64 0, .int .i64 0, .int .i64 0, .any (.slice none 0 0)], by kernel_rfl, ⟨trivial, trivial, trivial, trivial, trivial, trivial, trivial, trivial, rfl, trivial⟩, fun β w hm => B1 w, ?_⟩) | (refine ⟨.agg [.int .i64 3, .str [], .str [], .str [], .bool on, .int .i64 0, .int .i64 0, .int .i64 0, .any (.slice none 0 0)], by kernel_rfl, ⟨trivial, trivial, trivial, trivial, trivial, trivial, trivial, trivial, rfl, trivial⟩, fun β w hm => B2 w, ?_⟩) | (refine ⟨.lit true, by kernel_rfl, trivial, fun β w hm => B3 w, ?_⟩) | (refine ⟨.agg [.int .i64 1, .str L, .str [49], .str [], .lit false, .int .i64 0, .int .i64 0, .int .i64 0, .any (.slice none 0 0)], by kernel_rfl, ⟨trivial, trivial, trivial, trivial, trivial, trivial, trivial, trivial, rfl, trivial⟩, fun β w hm => I1 w hm.below, ?_⟩) | (refine ⟨.agg [.int .i64 1, .str L, .str [49], .str [], .lit false, .int .i64 0, .int .i64 0, .int .i64 0, .any (.slice none 0 0)], by kernel_rfl, ⟨trivial, trivial, trivial, trivial, trivial, trivial, trivial, trivial, rfl, trivial⟩, fun β w hm => I2 w hm.below, ?_⟩) | (refine ⟨.lit true, by kernel_rfl, trivial, fun β w hm => I3 w, ?_⟩) | (refine ⟨.str FT, by kernel_rfl, trivial, fun β w hm => X1 w hm.below, ?_⟩) | (refine ⟨.str FT, by kernel_rfl, trivial, fun β w hm => X2 w hm.below, ?_⟩)) | ((with_reducible show ∃ _, _); first | fail))
  all_goals first | (exfalso; omega) | rfl | (simp [SV.den]; done) | trace_state
set_option maxRecDepth 100000 in
set_option maxHeartbeats 16000000 in
theorem checkLaw_ok (hF : VaP.vErr (VaP.arrT t) = 0) : Calls Tryz.prog 4 #[vtV t a cap, vtV o b cap', .int .i64 n] w fun e w' => e = .returned (.bool true) ∧ Below w.heap.size w w' := by
  have hw0 := hw.1.pos
  have hf := ht.fit
  have V := fun (w' : World) (h : Below w.heap.size w w') => values_any w' (hw.1.below h)
  have C := fun (w' : World) (h : Below w.heap.size w w') => vcheck_any t a cap w' (hw.1.below h) (ht.lift h)
  have E := fun (w' : World) (h : Below w.heap.size w w') => rverr_any t a cap w' (hw.1.below h) (hw.2.below h) (ht.lift h)
  have S1 := fun (w' : World) (h : Below w.heap.size w w') => vsame_any t o a b cap cap' w' (ht.lift h) (ho.lift h)
  have S2 := fun (w' : World) (h : Below w.heap.size w w') => rsame_any t o a b cap cap' w' (ht.lift h) (ho.lift h)
  have S3 := fun (w' : World) (h : Below w.heap.size w w') => vsame_any t t a a cap cap w' (ht.lift h) (ht.lift h)
  rw [VaP.same_true.2 rfl] at S3
  have E2 := fun (w' : World) (h : Below w.heap.size w w') => rverr_any (VaP.arrT t) a cap w' (hw.1.below h) (hw.2.below h) (ht.arr.lift h)
  obtain ⟨hl0, hl1⟩ := VaP.arr_len hF
  obtain ⟨ps, -, -, -, hi, hs⟩ := ht.parts
  obtain ⟨ad, rfl⟩ : ∃ ad, a = some ad := by
    obtain ⟨ad, e, -⟩ := hs 0 _ (List.getElem?_eq_getElem hl0)
    exact ⟨ad, e⟩
  have AK := fun (w' : World) (h : Below w.heap.size w w') => varray_ok t ad cap ps w' (hw.1.below h) (ht.lift h) (fun i x hx => by
    obtain ⟨ad', e, q1, q2⟩ := hs i x hx
    exact ⟨ad', e, Nat.lt_of_lt_of_le q1 h.size, fun j v hv => cell_below (q2 j v hv) h⟩) hF
  have SN := fun (g c : Nat) (hc : t.items.length ≤ c) (w' : World) (h : Below w.heap.size w w') (hsl : SlAt (some ⟨g, 0, none⟩) (cellsV t.items ps) w') => rsame_any (VaP.arrT t) (VaP.arrT t) (some ⟨g, 0, none⟩) (some ad) c cap w' (ht.copied h hi hsl hc) (ht.arr.lift h)
  rw [VaP.same_true.2 rfl] at SN
  rw [hF] at E2
  clear hi hs hl0 hl1 hF
  have N1 := fun (w' : World) (h : Below w.heap.size w w') => vnumber_any t.num w' (hw.1.below h) hf.n1 hf.n2
  have N2 := fun (w' : World) (h : Below w.heap.size w w') => sound_any (VaP.numF t.num) w' (hw.1.below h) (hw.2.below h) (VIn.flat rfl (VaP.fit_num hf.n1 hf.n2)) rfl
  rw [VaP.sound_num] at N2
  have N3 := fun (w' : World) => rsame_self (if ExP.readE t.num = 0 then VaP.numF t.num else VaP.faultV 2) w' (by split; exact VaP.fit_num hf.n1 hf.n2; exact VaP.fit_fault 2) (by split <;> rfl)
  have T1 := fun (w' : World) (h : Below w.heap.size w w') => vtextv_any t.text w' (hw.1.below h) hf.tx
  have T2 := fun (w' : World) => rtextv_any t.text w' hf.tx
  have T3 := fun (w' : World) => rsame_self (VaP.textV t.text) w' (VaP.fit_text hf.tx) (VaP.items_text _)
  have F1 := fun (w' : World) (h : Below w.heap.size w w') => vfault_any t.code w' (hw.1.below h)
  have F2 := fun (w' : World) => rfault_any t.code w'
  have F3 := fun (w' : World) (h : Below w.heap.size w w') => sound_any (VaP.faultV t.code) w' (hw.1.below h) (hw.2.below h) (VIn.flat rfl (VaP.fit_fault _)) rfl
  rw [VaP.sound_fault] at F3
  have F4 := fun (w' : World) => rsame_self (VaP.faultV (if t.code < 1 ∨ 8 < t.code then 2 else t.code)) w' (VaP.fit_fault _) rfl
  have B1 := fun (w' : World) => vbool_any t.on w'
  have B2 := fun (w' : World) => rbool_any t.on w'
  have B3 := fun (w' : World) => rsame_self (VaP.boolV t.on) w' (VaP.fit_bool _) rfl
  have I1 := fun (w' : World) (h : Below w.heap.size w w') => vwhole_any n w' (hw.1.below h) h0 h1
  have I2 := fun (w' : World) (h : Below w.heap.size w w') => rint_any n w' (Nat.lt_of_lt_of_le hw0 h.size) h0 h1
  have I3 := fun (w' : World) => rsame_self (VaP.numF (Lib.itoa n, [49])) w' (VaP.fit_num (Nat.le_trans (Lib.itoa_length_le n h0 h1) (by omega)) (by simp)) rfl
  have X1 := fun (w' : World) (h : Below w.heap.size w w') => ftext_any t.code w' (hw.1.below h)
  have X2 := fun (w' : World) (h : Below w.heap.size w w') => rftext_any t.code w' (hw.2.below h)
  clear ht ho hf
  generalize VaP.vErr t = e at *
  generalize VaP.same t o = S at *
  generalize (if ExP.readE t.num = 0 then VaP.numF t.num else VaP.faultV 2) = x1 at *
  generalize VaP.textV t.text = x2 at *
  generalize (if t.code < 1 ∨ 8 < t.code then (2 : Int) else t.code) = fc at *
  generalize VaP.ftextI t.code = FT at *
  generalize Lib.itoa n = L at *
  obtain ⟨k, ⟨n1, n2⟩, tx, on, cd, rw', cl, its⟩ := t
  obtain ⟨k2, ⟨m1, m2⟩, tx2, on2, cd2, rw2, cl2, its2⟩ := o
  unfold VaP.arrT VaP.numF VaP.faultV VaP.boolV at *
  unfold vtV at *
  dsimp only at *
  generalize cellsV its ps = xs at *
  generalize its.length = L1 at *
  generalize its2.length = L2 at *
  clear h0 h1
  refine enter env_ok Tryz.func4 rfl Tryz.results4 Tryz.ntmps4 [] [] [.agg [.int .i64 k, .str n1, .str n2, .str tx, .bool on, .int .i64 cd, .int .i64 rw', .int .i64 cl, .any (.slice (some ad) L1 cap)], .agg [.int .i64 k2, .str m1, .str m2, .str tx2, .bool on2, .int .i64 cd2, .int .i64 rw2, .int .i64 cl2, .any (.slice b L2 cap')], .int .i64 n] ⟨⟨trivial, trivial, trivial, trivial, trivial, trivial, trivial, trivial, rfl, trivial⟩, ⟨trivial, trivial, trivial, trivial, trivial, trivial, trivial, trivial, rfl, trivial⟩, trivial, trivial⟩ (Nat.le_of_ble_eq_true rfl) w _ 1000 ?_
  repeat' (first | ((with_reducible first | show wpS .. | show putD .. | show putW .. | show splitG .. | show wpQ .. | show wpD .. | show wpX .. | show expX .. | show stepX .. | show keepR .. | show wpY ..); conv => whnf) | ((with_reducible show RetN ..); refine retB fun β => ?_) | ((with_reducible show _ ∧ _); first | (refine ⟨fun h => absurd h (by first | omega | decide), fun _ => ?_⟩) | (refine ⟨fun _ => ?_, fun h => absurd h (by first | omega | decide)⟩) | (refine ⟨fun _ => ?_, fun _ => ?_⟩) | (apply And.intro; · kernel_rfl) | (apply And.intro; · (show inK _ _; unfold inK; omega)) | (apply And.intro; · (show (_ : Int) ≤ 9223372036854775807; (try simp only [lenS]); omega))) | ((with_reducible show AllBe ..); refine allBe fun βe => ?_; conv => whnf) | ((with_reducible show bothX ..); refine bothI ?_ ?_; conv => whnf) | (with_reducible exact trivial) | ((with_reducible show CallN ..); refine call_of env_ok rfl 1000 ?_) | ((with_reducible show XopN ..); refine xop_of env_ok rfl 1000 ?_) | ((with_reducible show CallX ..); first | (refine callSls (T := {p : Nat × Nat // L1 ≤ p.2}) (fun t => .tup [.agg [.int .i64 5, .str [], .str [], .str [], .lit false, .int .i64 0, .int .i64 rw', .int .i64 cl, .any (.slice (some ⟨t.1.1, 0, none⟩) L1 t.1.2)], .int .i64 0]) (fun t => [(some ⟨t.1.1, 0, none⟩, xs)]) hw0 (by kernel_rfl) rfl (fun _ => ⟨⟨trivial, trivial, trivial, trivial, trivial, trivial, trivial, trivial, rfl, trivial⟩, trivial, trivial⟩) (fun β w' hm => AK w' hm.below) (fun p _ => ?_)) | (refine callX (.int .i64 0) (by kernel_rfl) rfl (trivial) (fun β w hm => E2 w hm.below) ?_) | (refine callX (.lit true) (by kernel_rfl) rfl (trivial) (fun β w hm => SN _ _ p.2 w hm.below (hm.slF 2 rfl)) ?_)) | ((with_reducible show OpX ..); first | fail) | ((with_reducible show ∃ _ : SV, _); first | (refine ⟨.lit true, by kernel_rfl, trivial, fun β w hm => V w hm.below, ?_⟩) | (refine ⟨.int .i64 e, by kernel_rfl, trivial, fun β w hm => C w hm.below, ?_⟩) | (refine ⟨.int .i64 e, by kernel_rfl, trivial, fun β w hm => E w hm.below, ?_⟩) | (refine ⟨.bool S, by kernel_rfl, trivial, fun β w hm => S1 w hm.below, ?_⟩) | (refine ⟨.bool S, by kernel_rfl, trivial, fun β w hm => S2 w hm.below, ?_⟩) | (refine ⟨.lit true, by kernel_rfl, trivial, fun β w hm => S3 w hm.below, ?_⟩) | (refine ⟨.lit false, ?ok, x_neBF S S (fun _ => rfl) (fun _ => rfl) rfl Tryz.underlying4, ?_⟩; (case ok => exact fun _ _ => trivial)) | (refine ⟨.agg [.int .i64 (x1).kind, .str (x1).num.1, .str (x1).num.2, .str (x1).text, .bool (x1).on, .int .i64 (x1).code, .int .i64 (x1).rows, .int .i64 (x1).cols, .any (.slice none (x1).items.length 0)], by kernel_rfl, ⟨trivial, trivial, trivial, trivial, trivial, trivial, trivial, trivial, rfl, trivial⟩, fun β w hm => N1 w hm.below, ?_⟩) | (refine ⟨.agg [.int .i64 (x1).kind, .str (x1).num.1, .str (x1).num.2, .str (x1).text, .bool (x1).on, .int .i64 (x1).code, .int .i64 (x1).rows, .int .i64 (x1).cols, .any (.slice none (x1).items.length 0)], by kernel_rfl, ⟨trivial, trivial, trivial, trivial, trivial, trivial, trivial, trivial, rfl, trivial⟩, fun β w hm => N2 w hm.below, ?_⟩) | (refine ⟨.lit true, by kernel_rfl, trivial, fun β w hm => N3 w, ?_⟩) | (refine ⟨.agg [.int .i64 (x2).kind, .str (x2).num.1, .str (x2).num.2, .str (x2).text, .bool (x2).on, .int .i64 (x2).code, .int .i64 (x2).rows, .int .i64 (x2).cols, .any (.slice none (x2).items.length 0)], by kernel_rfl, ⟨trivial, trivial, trivial, trivial, trivial, trivial, trivial, trivial, rfl, trivial⟩, fun β w hm => T1 w hm.below, ?_⟩) | (refine ⟨.agg [.int .i64 (x2).kind, .str (x2).num.1, .str (x2).num.2, .str (x2).text, .bool (x2).on, .int .i64 (x2).code, .int .i64 (x2).rows, .int .i64 (x2).cols, .any (.slice none (x2).items.length 0)], by kernel_rfl, ⟨trivial, trivial, trivial, trivial, trivial, trivial, trivial, trivial, rfl, trivial⟩, fun β w hm => T2 w, ?_⟩) | (refine ⟨.lit true, by kernel_rfl, trivial, fun β w hm => T3 w, ?_⟩) | (refine ⟨.agg [.int .i64 4, .str [], .str [], .str [], .lit false, .int .i64 fc, .int .i64 0, .int .i64 0, .any (.slice none 0 0)], by kernel_rfl, ⟨trivial, trivial, trivial, trivial, trivial, trivial, trivial, trivial, rfl, trivial⟩, fun β w hm => F1 w hm.below, ?_⟩) | (refine ⟨.agg [.int .i64 4, .str [], .str [], .str [], .lit false, .int .i64 cd, .int .i64 0, .int .i64 0, .any (.slice none 0 0)], by kernel_rfl, ⟨trivial, trivial, trivial, trivial, trivial, trivial, trivial, trivial, rfl, trivial⟩, fun β w hm => F2 w, ?_⟩) | (refine ⟨.agg [.int .i64 4, .str [], .str [], .str [], .lit false, .int .i64 fc, .int .i64 0, .int .i64 0, .any (.slice none 0 0)], by kernel_rfl, ⟨trivial, trivial, trivial, trivial, trivial, trivial, trivial, trivial, rfl, trivial⟩, fun β w hm => F3 w hm.below, ?_⟩) | (refine ⟨.lit true, by kernel_rfl, trivial, fun β w hm => F4 w, ?_⟩) | (refine ⟨.agg [.int .i64 3, .str [], .str [], .str [], .bool on, .int .i64 0, .int .i64 0, .int .i64 0, .any (.slice none 0 0)], by kernel_rfl, ⟨trivial, trivial, trivial, trivial, trivial, trivial, trivial, trivial, rfl, trivial⟩, fun β w hm => B1 w, ?_⟩) | (refine ⟨.agg [.int .i64 3, .str [], .str [], .str [], .bool on, .int .i64 0, .int .i64 0, .int .i64 0, .any (.slice none 0 0)], by kernel_rfl, ⟨trivial, trivial, trivial, trivial, trivial, trivial, trivial, trivial, rfl, trivial⟩, fun β w hm => B2 w, ?_⟩) | (refine ⟨.lit true, by kernel_rfl, trivial, fun β w hm => B3 w, ?_⟩) | (refine ⟨.agg [.int .i64 1, .str L, .str [49], .str [], .lit false, .int .i64 0, .int .i64 0, .int .i64 0, .any (.slice none 0 0)], by kernel_rfl, ⟨trivial, trivial, trivial, trivial, trivial, trivial, trivial, trivial, rfl, trivial⟩, fun β w hm => I1 w hm.below, ?_⟩) | (refine ⟨.agg [.int .i64 1, .str L, .str [49], .str [], .lit false, .int .i64 0, .int .i64 0, .int .i64 0, .any (.slice none 0 0)], by kernel_rfl, ⟨trivial, trivial, trivial, trivial, trivial, trivial, trivial, trivial, rfl, trivial⟩, fun β w hm => I2 w hm.below, ?_⟩) | (refine ⟨.lit true, by kernel_rfl, trivial, fun β w hm => I3 w, ?_⟩) | (refine ⟨.str FT, by kernel_rfl, trivial, fun β w hm => X1 w hm.below, ?_⟩) | (refine ⟨.str FT, by kernel_rfl, trivial, fun β w hm => X2 w hm.below, ?_⟩)) | ((with_reducible show ∃ _, _); first | fail))
  all_goals first | (exfalso; omega) | rfl | (simp [SV.den]; done) | trace_state
theorem checkLaw_any : Calls Tryz.prog 4 #[vtV t a cap, vtV o b cap', .int .i64 n] w fun e w' => e = .returned (.bool true) ∧ Below w.heap.size w w' := by
  by_cases h : VaP.vErr (VaP.arrT t) = 0
  · exact checkLaw_ok t o a b cap cap' n w hw ht ho h0 h1 h
  · exact checkLaw_bad t o a b cap cap' n w hw ht ho h0 h1 _ rfl h
end
end Go.Proofs.YtdkhkfdenlabaaaGreatDoor
