/- Values, the reference: Enter: the walk. Values, the reference: times with seconds: the walk. Values, the reference: times with parts of a second: the wal -/
import Derived.Test.YtdkhkfdenlabaaaGreatDoorLGG
import Derived.Test.YtdkhkfdenlabaaaGreatDoorLGW
set_option linter.unusedSimpArgs false
set_option linter.unusedVariables false
set_option maxRecDepth 100000
set_option maxHeartbeats 64000000
namespace Go.Proofs.YtdkhkfdenlabaaaGreatDoor
open Go.RowKit
open Sym
attribute [local irreducible] Calls Sym.AggEq ExP.nd ExP.dig ExP.upd ExP.writeF ExP.writeE VaP.ftext
abbrev readR : List SV := [.fn 63 [], .fn 64 [], .fn 65 [], .fn 66 [], .fn 67 []]
theorem readR_cells : ∀ β, ∀ u ∈ SV.dens β readR, u.cells = #[u] := by
 intro β u hu
 simp only [readR, SV.dens, SV.den, List.mem_cons, List.not_mem_nil, or_false] at hu
 rcases hu with rfl | rfl | rfl | rfl | rfl <;> rfl
theorem renter_empty (w : World) : Calls Tryz.prog 12 #[.string (bstr [])] w (IsV VaP.emptyV w) := by
 refine yE Tryz.func12 rfl Tryz.results12 Tryz.ntmps12 [] [] [.str []] w ?_
 repeat' (first | refine yX ?_ | (apply And.intro <;> intro _) | apply bothI | refine retB fun β => ?_ | intro βe | exact trivial)
 all_goals first | rfl | (exfalso; contradiction) | trace_state
section
variable (s : List UInt8) (w : World) (hs : s ≠ []) (hl : s.length ≤ 9223372036854775807)
include hs hl
theorem renter_bad (hT : VaP.txtE s ≠ 0) : Calls Tryz.prog 12 #[.string (bstr s)] w (IsV (VaP.faultV 2) w) := by
 have T := fun (w' : World) => rtexterr_any s w' hl
 have F := fun (w' : World) => rfault_any 2 w'
 generalize VaP.txtE s = E at *
 refine yE Tryz.func12 rfl Tryz.results12 Tryz.ntmps12 [] [] [.str s] w ?_
 repeat' (first | refine yX ?_ | (apply And.intro <;> intro _) | apply bothI | refine retB fun β => ?_ | intro βe | refine yK (.int .i64 E) (fun β w hm => T w) ?_ | refine yK (.agg [.int .i64 4, .str [], .str [], .str [], .lit false, .int .i64 2, .int .i64 0, .int .i64 0, .any (.slice none 0 0)]) (fun β w hm => F w) ?_ | exact trivial)
 all_goals first | rfl | (exfalso; contradiction) | (exfalso; omega) | trace_state
variable (hT : VaP.txtE s = 0)
include hT
theorem renter_quote (h0 : ((s.getD 0 0).toNat : Int) = 39) : Calls Tryz.prog 12 #[.string (bstr s)] w (IsV (VaP.textV (List.drop 1 s)) w) := by
 have T := fun (w' : World) => rtexterr_any s w' hl
 rw [hT] at T
 have hp := List.length_pos_iff.2 hs
 have X := fun (w' : World) => rtextv_any (List.drop 1 s) w' (by rw [List.length_drop]; omega)
 obtain ⟨V, hV⟩ : ∃ V, VaP.textV (List.drop 1 s) = V := ⟨_, rfl⟩
 have hi : V.items = [] := by rw [← hV]; exact VaP.items_text _
 rw [hV] at X ⊢
 obtain ⟨k, ⟨n1, n2⟩, tx, on, cd, R, L, its⟩ := V
 obtain rfl : its = [] := hi
 refine yE Tryz.func12 rfl Tryz.results12 Tryz.ntmps12 [] [] [.str s] w ?_
 repeat' (first | refine yX ?_ | (apply And.intro <;> intro _) | apply bothI | refine retB fun β => ?_ | intro βe | refine yK (.int .i64 0) (fun β w hm => T w) ?_ | refine yK (.agg [.int .i64 k, .str n1, .str n2, .str tx, .bool on, .int .i64 cd, .int .i64 R, .int .i64 L, .any (.slice none 0 0)]) (fun β w hm => X w) ?_ | ((with_reducible show ∃ _, _); first | (refine ⟨0, rfl, hp, ?_⟩) | (refine ⟨1, rfl, by omega, ?_⟩)) | exact trivial)
 all_goals first | rfl | (exfalso; contradiction) | (exfalso; omega) | trace_state
variable (hq : ¬ ((s.getD 0 0).toNat : Int) = 39) (hl2 : s.length ≤ 1000000)
include hq hl2
theorem renter_bool (h : VaP.low s = [116, 114, 117, 101] ∨ VaP.low s = [102, 97, 108, 115, 101]) : Calls Tryz.prog 12 #[.string (bstr s)] w (IsV (VaP.boolV (decide (VaP.low s = [116, 114, 117, 101]))) w) := by
 have T := fun (w' : World) => rtexterr_any s w' hl
 rw [hT] at T
 have hp := List.length_pos_iff.2 hs
 have LL := fun (w' : World) => rlowV_any s w' hl2
 have B1 := fun (w' : World) => rbool_any true w'
 have B0 := fun (w' : World) => rbool_any false w'
 generalize VaP.low s = l at *
 have hne : ¬ ([102, 97, 108, 115, 101] : List UInt8) = [116, 114, 117, 101] := by decide
 rcases h with rfl | rfl
 ·rw [decide_eq_true rfl]
  refine yE Tryz.func12 rfl Tryz.results12 Tryz.ntmps12 [] [] [.str s] w ?_
  repeat' (first | refine yX ?_ | (apply And.intro <;> intro _) | apply bothI | refine retB fun β => ?_ | intro βe | refine yK (.int .i64 0) (fun β w hm => T w) ?_ | refine yK (.str [116, 114, 117, 101]) (fun β w hm => LL w) ?_ | refine yK (.agg [.int .i64 3, .str [], .str [], .str [], .lit true, .int .i64 0, .int .i64 0, .int .i64 0, .any (.slice none 0 0)]) (fun β w hm => B1 w) ?_ | ((with_reducible show ∃ _ : SV, _); first | (refine ⟨.str [116, 114, 117, 101], by kernel_rfl, trivial, fun β w hm => LL w, ?_⟩)) | ((with_reducible show ∃ _, _); first | (refine ⟨0, rfl, hp, ?_⟩)) | exact trivial)
  all_goals first | rfl | (exfalso; contradiction) | (exfalso; omega) | (exfalso; simp_all; done) | trace_state
 ·rw [decide_eq_false hne]
  refine yE Tryz.func12 rfl Tryz.results12 Tryz.ntmps12 [] [] [.str s] w ?_
  repeat' (first | refine yX ?_ | (apply And.intro <;> intro _) | apply bothI | refine retB fun β => ?_ | intro βe | refine yK (.int .i64 0) (fun β w hm => T w) ?_ | refine yK (.str [102, 97, 108, 115, 101]) (fun β w hm => LL w) ?_ | refine yK (.agg [.int .i64 3, .str [], .str [], .str [], .lit false, .int .i64 0, .int .i64 0, .int .i64 0, .any (.slice none 0 0)]) (fun β w hm => B0 w) ?_ | ((with_reducible show ∃ _ : SV, _); first | (refine ⟨.str [102, 97, 108, 115, 101], by kernel_rfl, trivial, fun β w hm => LL w, ?_⟩)) | ((with_reducible show ∃ _, _); first | (refine ⟨0, rfl, hp, ?_⟩)) | exact trivial)
  all_goals first | rfl | (exfalso; contradiction) | (exfalso; omega) | (exfalso; simp_all; done) | trace_state
variable (hw0 : 0 < w.heap.size) (hXR : XR w) (hL1 : VaP.low s ≠ [116, 114, 117, 101]) (hL2 : VaP.low s ≠ [102, 97, 108, 115, 101]) (ANS : VaP.VT) (hi : ANS.items = [])
 (hX : ∀ i : Nat, 1 ≤ i → i < 9 → s = VaP.ftext i → ∀ w' : World, Calls Tryz.prog 18 #[.int .i64 (i : Nat)] w' (IsV ANS w'))
 (NA NB NC ND NE : ExP.Num) (oA oB oC oD oE : Bool)
 (hA : ∀ w' : World, BW w w' → Calls Tryz.prog 63 #[.string (bstr s)] w' (FrOutB .i64 10 NA oA w'))
 (hB : ∀ w' : World, BW w w' → Calls Tryz.prog 64 #[.string (bstr s)] w' (FrOutB .i64 10 NB oB w'))
 (hC : ∀ w' : World, BW w w' → Calls Tryz.prog 65 #[.string (bstr s)] w' (FrOutB .i64 10 NC oC w'))
 (hD : ∀ w' : World, BW w w' → Calls Tryz.prog 66 #[.string (bstr s)] w' (FrOutB .i64 10 ND oD w'))
 (hE : ∀ w' : World, BW w w' → Calls Tryz.prog 67 #[.string (bstr s)] w' (FrOutB .i64 10 NE oE w'))
 (nA : (∀ i, 1 ≤ i → i < 9 → s ≠ VaP.ftext i) → oA = true → ∀ (x : FrV) (w' : World), BW w w' → FrIn .i64 10 x w' → x.num = NA → Calls Tryz.prog 68 #[x.val 10] w' (IsV ANS w'))
 (nB : (∀ i, 1 ≤ i → i < 9 → s ≠ VaP.ftext i) → oA = false → oB = true → ∀ (x : FrV) (w' : World), BW w w' → FrIn .i64 10 x w' → x.num = NB → Calls Tryz.prog 68 #[x.val 10] w' (IsV ANS w'))
 (nC : (∀ i, 1 ≤ i → i < 9 → s ≠ VaP.ftext i) → oA = false → oB = false → oC = true → ∀ (x : FrV) (w' : World), BW w w' → FrIn .i64 10 x w' → x.num = NC → Calls Tryz.prog 68 #[x.val 10] w' (IsV ANS w'))
 (nD : (∀ i, 1 ≤ i → i < 9 → s ≠ VaP.ftext i) → oA = false → oB = false → oC = false → oD = true → ∀ (x : FrV) (w' : World), BW w w' → FrIn .i64 10 x w' → x.num = ND → Calls Tryz.prog 68 #[x.val 10] w' (IsV ANS w'))
 (nE : (∀ i, 1 ≤ i → i < 9 → s ≠ VaP.ftext i) → oA = false → oB = false → oC = false → oD = false → oE = true → ∀ (x : FrV) (w' : World), BW w w' → FrIn .i64 10 x w' → x.num = NE → Calls Tryz.prog 68 #[x.val 10] w' (IsV ANS w'))
 (nZ : (∀ i, 1 ≤ i → i < 9 → s ≠ VaP.ftext i) → oA = false → oB = false → oC = false → oD = false → oE = false → ∀ w' : World, Calls Tryz.prog 21 #[.string (bstr s)] w' (IsV ANS w'))
include hw0 hXR hL1 hL2 hi hX hA nA hB nB hC nC hD nD hE nE nZ
theorem renter_main : Calls Tryz.prog 12 #[.string (bstr s)] w (IsV ANS w) := by
 have T := fun (w' : World) => rtexterr_any s w' hl
 rw [hT] at T
 have hp := List.length_pos_iff.2 hs
 have LL := fun (w' : World) => rlowV_any s w' hl2
 have hc := fun (i : Nat) (h : i < 9) (w' : World) (hb : BW w w') => (hXR.below hb) i h
 obtain ⟨vk, ⟨v1, v2⟩, vt, vo, vc, vr, vl, its⟩ := ANS
 obtain rfl : its = [] := hi
 generalize VaP.low s = l at *
 refine yE Tryz.func12 rfl Tryz.results12 Tryz.ntmps12 [] [] [.str s] w ?_
 repeat' (first | refine yX ?_ | (apply And.intro <;> intro _) | apply bothI | refine retB fun β => ?_ | intro βe | refine yK (.int .i64 0) (fun β w hm => T w) ?_ | refine yK (.str l) (fun β w hm => LL w) ?_ | ((with_reducible show ∃ _ : SV, _); first | (refine ⟨.str l, by kernel_rfl, trivial, fun β w hm => LL w, ?_⟩)) | ((with_reducible show ∃ _, _); first | (refine ⟨0, rfl, hp, ?_⟩)) | exact trivial)
 all_goals first | (exfalso; contradiction) | skip
 refine yZ (T := {i : Nat // (1 ≤ i ∧ i ≤ 9) ∧ ∀ j, 1 ≤ j → j < i → s ≠ VaP.ftext j}) (fun t => ⟨[(0, .str s), (2, .ptr 0 0), (3, .int .i64 (t.1 : Nat))], [(0, true, .cells 28 [.int .i64 0, .str [], .str [], .str [], .lit false, .int .i64 0, .int .i64 0, .int .i64 0, .any (.slice none 0 0)])], 1, 64⟩) (fun t => 9 - t.1) ⟨1, by omega, fun j h1 h2 => by omega⟩ [] [] (fun t I hI => ?_)
 obtain ⟨i, ⟨hi1, hi⟩, hne⟩ := t
 dsimp only at hI ⊢
 by_cases hlt : i < 9
 ·have hXi := hX i hi1 hlt
  have hnx : s ≠ VaP.ftext i → ∀ j, 1 ≤ j → j < i + 1 → s ≠ VaP.ftext j := fun h j h1 h2 => by
   by_cases e : j = i
   ·rw [e]; exact h
   ·exact hne j h1 (by omega)
  have hci := hc i hlt
  generalize VaP.ftext i = XX at *
  clear hX hc
  repeat' (first | refine yX ?_ | (apply And.intro <;> intro _) | apply bothI | refine retB fun β => ?_ | intro βe | refine yK (.agg [.int .i64 vk, .str v1, .str v2, .str vt, .bool vo, .int .i64 vc, .int .i64 vr, .int .i64 vl, .any (.slice none 0 0)]) (fun β w hm => hXi (by assumption) w) ?_ | refine yO (x_indexAny (j := i) rfl Tryz.underlying81 (fun w => Tryz.sizeOf9 w) (by omega)) ?_ | refine yO (v := .str XX) (x_load1 (fun w => Tryz.isAgg9 w) (fun w' hb β => by rw [Nat.mul_one]; exact (congrArg _ (by simp [Addr.add]; omega)).trans (hci w' hb))) ?_ | exact trivial)
  all_goals first | (exfalso; omega) | rfl | (refine hI _ ⟨i + 1, by omega, hnx (by assumption)⟩ (by dsimp only; omega) yW; done) | trace_state
 ·have hno : ∀ j, 1 ≤ j → j < 9 → s ≠ VaP.ftext j := fun j h1 h2 => hne j h1 (by omega)
  have e9 : i = 9 := by omega
  subst e9
  clear hX hc hne hI
  replace nZ := nZ hno
  replace nA := nA hno
  replace nB := nB hno
  replace nC := nC hno
  replace nD := nD hno
  replace nE := nE hno
  repeat' (first | refine yX ?_ | (apply And.intro <;> intro _) | apply bothI | refine retB fun β => ?_ | intro βe | ((with_reducible show ∃ _ : SV, _); first | (refine ⟨.agg readR, ?ok, x_buildArr rfl Tryz.underlying86 (fun w => Tryz.sizeOf85 w) (fun w => Tryz.zeroValue86 w) rfl readR_cells, ?_⟩; (case ok => exact fun _ h => h))) | exact trivial)
  all_goals first | (exfalso; omega) | skip
  refine yZ (T := {i : Nat // i ≤ 5 ∧ (0 < i → oA = false) ∧ (1 < i → oB = false) ∧ (2 < i → oC = false) ∧ (3 < i → oD = false) ∧ (4 < i → oE = false)}) (fun t => ⟨[(0, .str s), (2, .ptr 0 0), (48, .agg readR), (49, .int .i64 (t.1 : Nat))], [(0, true, .cells 28 [.int .i64 0, .str [], .str [], .str [], .lit false, .int .i64 0, .int .i64 0, .int .i64 0, .any (.slice none 0 0)])], 1, 64⟩) (fun t => 5 - t.1) ⟨0, by omega, by omega, by omega, by omega, by omega, by omega⟩ [] [] (fun t I hI => ?_)
  obtain ⟨i, hi, z0, z1, z2, z3, z4⟩ := t
  dsimp only at hI ⊢
  rcases (by omega : i = 0 ∨ i = 1 ∨ i = 2 ∨ i = 3 ∨ i = 4 ∨ i = 5) with rfl | rfl | rfl | rfl | rfl | rfl
  ·obtain ⟨m, nn, dd⟩ := NA
   cases oA with
   | true =>
     replace nA := nA  rfl
     repeat' (first | refine yX ?_ | (apply And.intro <;> intro _) | apply bothI | refine retB fun β => ?_ | intro βe | (refine callFrB .i64 10 ⟨m, nn, dd⟩ true hw0 (by kernel_rfl) rfl (fun β w' hm => hA w' hm.below) (fun a1 c1 a2 c2 hc1 => ?_)) | refine yK (.agg [.int .i64 vk, .str v1, .str v2, .str vt, .bool vo, .int .i64 vc, .int .i64 vr, .int .i64 vl, .any (.slice none 0 0)]) (fun β w hm => nA ⟨m, nn, dd, a1, c1, a2, c2⟩ w hm.below (FrIn.of (ySl hm) (ySl hm) hc1) rfl) ?_ | ((with_reducible show ∃ _ : SV, _); first | (refine ⟨.fn 63 [], ?ok, x_indexAgg (j := 0) Tryz.underlying86 (fun w => Tryz.sizeOf85 w) (fun w => Tryz.isAgg85 w) (by omega) rfl, ?_⟩; (case ok => exact fun _ _ => trivial))) | exact trivial)
     all_goals first | (exfalso; omega) | rfl | trace_state
   | false =>
     repeat' (first | refine yX ?_ | (apply And.intro <;> intro _) | apply bothI | refine retB fun β => ?_ | intro βe | (refine callFrB .i64 10 ⟨m, nn, dd⟩ false hw0 (by kernel_rfl) rfl (fun β w' hm => hA w' hm.below) (fun a1 c1 a2 c2 hc1 => ?_)) | ((with_reducible show ∃ _ : SV, _); first | (refine ⟨.fn 63 [], ?ok, x_indexAgg (j := 0) Tryz.underlying86 (fun w => Tryz.sizeOf85 w) (fun w => Tryz.isAgg85 w) (by omega) rfl, ?_⟩; (case ok => exact fun _ _ => trivial))) | exact trivial)
     all_goals first | (exfalso; omega) | (refine hI _ ⟨1, by omega, fun _ => rfl, fun h => by omega, fun h => by omega, fun h => by omega, fun h => by omega⟩ (by dsimp only; omega) yW; done) | trace_state
  ·obtain ⟨m, nn, dd⟩ := NB
   cases oB with
   | true =>
     replace nB := nB (z0 (by omega)) rfl
     repeat' (first | refine yX ?_ | (apply And.intro <;> intro _) | apply bothI | refine retB fun β => ?_ | intro βe | (refine callFrB .i64 10 ⟨m, nn, dd⟩ true hw0 (by kernel_rfl) rfl (fun β w' hm => hB w' hm.below) (fun a1 c1 a2 c2 hc1 => ?_)) | refine yK (.agg [.int .i64 vk, .str v1, .str v2, .str vt, .bool vo, .int .i64 vc, .int .i64 vr, .int .i64 vl, .any (.slice none 0 0)]) (fun β w hm => nB ⟨m, nn, dd, a1, c1, a2, c2⟩ w hm.below (FrIn.of (ySl hm) (ySl hm) hc1) rfl) ?_ | ((with_reducible show ∃ _ : SV, _); first | (refine ⟨.fn 64 [], ?ok, x_indexAgg (j := 1) Tryz.underlying86 (fun w => Tryz.sizeOf85 w) (fun w => Tryz.isAgg85 w) (by omega) rfl, ?_⟩; (case ok => exact fun _ _ => trivial))) | exact trivial)
     all_goals first | (exfalso; omega) | rfl | trace_state
   | false =>
     repeat' (first | refine yX ?_ | (apply And.intro <;> intro _) | apply bothI | refine retB fun β => ?_ | intro βe | (refine callFrB .i64 10 ⟨m, nn, dd⟩ false hw0 (by kernel_rfl) rfl (fun β w' hm => hB w' hm.below) (fun a1 c1 a2 c2 hc1 => ?_)) | ((with_reducible show ∃ _ : SV, _); first | (refine ⟨.fn 64 [], ?ok, x_indexAgg (j := 1) Tryz.underlying86 (fun w => Tryz.sizeOf85 w) (fun w => Tryz.isAgg85 w) (by omega) rfl, ?_⟩; (case ok => exact fun _ _ => trivial))) | exact trivial)
     all_goals first | (exfalso; omega) | (refine hI _ ⟨2, by omega, fun _ => z0 (by omega), fun _ => rfl, fun h => by omega, fun h => by omega, fun h => by omega⟩ (by dsimp only; omega) yW; done) | trace_state
  ·obtain ⟨m, nn, dd⟩ := NC
   cases oC with
   | true =>
     replace nC := nC (z0 (by omega)) (z1 (by omega)) rfl
     repeat' (first | refine yX ?_ | (apply And.intro <;> intro _) | apply bothI | refine retB fun β => ?_ | intro βe | (refine callFrB .i64 10 ⟨m, nn, dd⟩ true hw0 (by kernel_rfl) rfl (fun β w' hm => hC w' hm.below) (fun a1 c1 a2 c2 hc1 => ?_)) | refine yK (.agg [.int .i64 vk, .str v1, .str v2, .str vt, .bool vo, .int .i64 vc, .int .i64 vr, .int .i64 vl, .any (.slice none 0 0)]) (fun β w hm => nC ⟨m, nn, dd, a1, c1, a2, c2⟩ w hm.below (FrIn.of (ySl hm) (ySl hm) hc1) rfl) ?_ | ((with_reducible show ∃ _ : SV, _); first | (refine ⟨.fn 65 [], ?ok, x_indexAgg (j := 2) Tryz.underlying86 (fun w => Tryz.sizeOf85 w) (fun w => Tryz.isAgg85 w) (by omega) rfl, ?_⟩; (case ok => exact fun _ _ => trivial))) | exact trivial)
     all_goals first | (exfalso; omega) | rfl | trace_state
   | false =>
     repeat' (first | refine yX ?_ | (apply And.intro <;> intro _) | apply bothI | refine retB fun β => ?_ | intro βe | (refine callFrB .i64 10 ⟨m, nn, dd⟩ false hw0 (by kernel_rfl) rfl (fun β w' hm => hC w' hm.below) (fun a1 c1 a2 c2 hc1 => ?_)) | ((with_reducible show ∃ _ : SV, _); first | (refine ⟨.fn 65 [], ?ok, x_indexAgg (j := 2) Tryz.underlying86 (fun w => Tryz.sizeOf85 w) (fun w => Tryz.isAgg85 w) (by omega) rfl, ?_⟩; (case ok => exact fun _ _ => trivial))) | exact trivial)
     all_goals first | (exfalso; omega) | (refine hI _ ⟨3, by omega, fun _ => z0 (by omega), fun _ => z1 (by omega), fun _ => rfl, fun h => by omega, fun h => by omega⟩ (by dsimp only; omega) yW; done) | trace_state
  ·obtain ⟨m, nn, dd⟩ := ND
   cases oD with
   | true =>
     replace nD := nD (z0 (by omega)) (z1 (by omega)) (z2 (by omega)) rfl
     repeat' (first | refine yX ?_ | (apply And.intro <;> intro _) | apply bothI | refine retB fun β => ?_ | intro βe | (refine callFrB .i64 10 ⟨m, nn, dd⟩ true hw0 (by kernel_rfl) rfl (fun β w' hm => hD w' hm.below) (fun a1 c1 a2 c2 hc1 => ?_)) | refine yK (.agg [.int .i64 vk, .str v1, .str v2, .str vt, .bool vo, .int .i64 vc, .int .i64 vr, .int .i64 vl, .any (.slice none 0 0)]) (fun β w hm => nD ⟨m, nn, dd, a1, c1, a2, c2⟩ w hm.below (FrIn.of (ySl hm) (ySl hm) hc1) rfl) ?_ | ((with_reducible show ∃ _ : SV, _); first | (refine ⟨.fn 66 [], ?ok, x_indexAgg (j := 3) Tryz.underlying86 (fun w => Tryz.sizeOf85 w) (fun w => Tryz.isAgg85 w) (by omega) rfl, ?_⟩; (case ok => exact fun _ _ => trivial))) | exact trivial)
     all_goals first | (exfalso; omega) | rfl | trace_state
   | false =>
     repeat' (first | refine yX ?_ | (apply And.intro <;> intro _) | apply bothI | refine retB fun β => ?_ | intro βe | (refine callFrB .i64 10 ⟨m, nn, dd⟩ false hw0 (by kernel_rfl) rfl (fun β w' hm => hD w' hm.below) (fun a1 c1 a2 c2 hc1 => ?_)) | ((with_reducible show ∃ _ : SV, _); first | (refine ⟨.fn 66 [], ?ok, x_indexAgg (j := 3) Tryz.underlying86 (fun w => Tryz.sizeOf85 w) (fun w => Tryz.isAgg85 w) (by omega) rfl, ?_⟩; (case ok => exact fun _ _ => trivial))) | exact trivial)
     all_goals first | (exfalso; omega) | (refine hI _ ⟨4, by omega, fun _ => z0 (by omega), fun _ => z1 (by omega), fun _ => z2 (by omega), fun _ => rfl, fun h => by omega⟩ (by dsimp only; omega) yW; done) | trace_state
  ·obtain ⟨m, nn, dd⟩ := NE
   cases oE with
   | true =>
     replace nE := nE (z0 (by omega)) (z1 (by omega)) (z2 (by omega)) (z3 (by omega)) rfl
     repeat' (first | refine yX ?_ | (apply And.intro <;> intro _) | apply bothI | refine retB fun β => ?_ | intro βe | (refine callFrB .i64 10 ⟨m, nn, dd⟩ true hw0 (by kernel_rfl) rfl (fun β w' hm => hE w' hm.below) (fun a1 c1 a2 c2 hc1 => ?_)) | refine yK (.agg [.int .i64 vk, .str v1, .str v2, .str vt, .bool vo, .int .i64 vc, .int .i64 vr, .int .i64 vl, .any (.slice none 0 0)]) (fun β w hm => nE ⟨m, nn, dd, a1, c1, a2, c2⟩ w hm.below (FrIn.of (ySl hm) (ySl hm) hc1) rfl) ?_ | ((with_reducible show ∃ _ : SV, _); first | (refine ⟨.fn 67 [], ?ok, x_indexAgg (j := 4) Tryz.underlying86 (fun w => Tryz.sizeOf85 w) (fun w => Tryz.isAgg85 w) (by omega) rfl, ?_⟩; (case ok => exact fun _ _ => trivial))) | exact trivial)
     all_goals first | (exfalso; omega) | rfl | trace_state
   | false =>
     repeat' (first | refine yX ?_ | (apply And.intro <;> intro _) | apply bothI | refine retB fun β => ?_ | intro βe | (refine callFrB .i64 10 ⟨m, nn, dd⟩ false hw0 (by kernel_rfl) rfl (fun β w' hm => hE w' hm.below) (fun a1 c1 a2 c2 hc1 => ?_)) | ((with_reducible show ∃ _ : SV, _); first | (refine ⟨.fn 67 [], ?ok, x_indexAgg (j := 4) Tryz.underlying86 (fun w => Tryz.sizeOf85 w) (fun w => Tryz.isAgg85 w) (by omega) rfl, ?_⟩; (case ok => exact fun _ _ => trivial))) | exact trivial)
     all_goals first | (exfalso; omega) | (refine hI _ ⟨5, by omega, fun _ => z0 (by omega), fun _ => z1 (by omega), fun _ => z2 (by omega), fun _ => z3 (by omega), fun _ => rfl⟩ (by dsimp only; omega) yW; done) | trace_state
  ·replace nZ := nZ (z0 (by omega)) (z1 (by omega)) (z2 (by omega)) (z3 (by omega)) (z4 (by omega))
   repeat' (first | refine yX ?_ | (apply And.intro <;> intro _) | apply bothI | refine retB fun β => ?_ | intro βe | refine yK (.agg [.int .i64 vk, .str v1, .str v2, .str vt, .bool vo, .int .i64 vc, .int .i64 vr, .int .i64 vl, .any (.slice none 0 0)]) (fun β w hm => nZ w) ?_ | exact trivial)
   all_goals first | (exfalso; omega) | rfl | trace_state
end
end Go.Proofs.YtdkhkfdenlabaaaGreatDoor
namespace Go.Proofs.YtdkhkfdenlabaaaGreatDoor
open Go.RowKit
open Sym
attribute [local irreducible] Calls Sym.AggEq ExP.nd ExP.dig ExP.upd ExP.writeF ExP.writeE
section
variable (s : List UInt8) (l : List (List UInt8)) (w : World) (hw0 : 0 < w.heap.size)
 (hS : ∀ w' : World, Calls Tryz.prog 126 #[.string (bstr s), .int .u8 58] w' (fun e w'' => BW w' w'' ∧ ∃ t : Nat × Nat, e = .returned (.slice (some ⟨t.1, 0, none⟩) (l).length t.2) ∧ ∀ q ∈ [((some ⟨t.1, 0, none⟩ : Option Addr), strV l)], SlAt q.1 q.2 w'' ∧ FreshX q.1 q.2 w'))
include hw0 hS
variable (a b : List UInt8) (hl : l.length = 2 ∨ l.length = 3) (hx0 : (strV l)[0]? = some (.string (bstr a))) (hx1 : (strV l)[1]? = some (.string (bstr b)))
 (A0 : ∀ w' : World, QC 127 #[.string (bstr a)] w' (.bool (VaP.adP a)))
 (A1 : ∀ w' : World, QC 127 #[.string (bstr b)] w' (.bool (VaP.adP b)))
 (M0 : VaP.adP a = true → a.length ≤ 2 → ∀ w' : World, QC 132 #[.string (bstr a)] w' (.int .i64 (ExP.valS a : Nat)))
 (M1 : VaP.adP b = true → b.length = 2 → ∀ w' : World, QC 132 #[.string (bstr b)] w' (.int .i64 (ExP.valS b : Nat)))
include hl hx0 hx1 A0 A1 M0 M1
variable (va vb N : Nat) (d0 : VaP.adP a = true) (d1 : VaP.adP b = true) (la : a.length ≤ 2) (lb : b.length = 2) (hva : ExP.valS a = va) (hvb : ExP.valS b = vb) (b0 : va ≤ 23) (b1 : vb ≤ 59)
 (hW : ∀ w' : World, BW w w' → Calls Tryz.prog 78 #[.int .i64 (3600 * (va : Int) + 60 * (vb : Int))] w' (FrOut .i64 10 ⟨false, N, 1⟩ w'))
 (hG : ∀ w' : World, BW w w' → Calls Tryz.prog 78 #[.int .i64 86400] w' (FrOut .i64 10 ⟨false, 86400, 1⟩ w'))
include d0 d1 la lb hva hvb b0 b1 hW hG
variable (c x : List UInt8) (l2 : List (List UInt8)) (h3 : l.length = 3) (hx2 : (strV l)[2]? = some (.string (bstr c)))
 (hS2 : ∀ w' : World, Calls Tryz.prog 126 #[.string (bstr c), .int .u8 46] w' (fun e w'' => BW w' w'' ∧ ∃ t : Nat × Nat, e = .returned (.slice (some ⟨t.1, 0, none⟩) (l2).length t.2) ∧ ∀ q ∈ [((some ⟨t.1, 0, none⟩ : Option Addr), strV l2)], SlAt q.1 q.2 w'' ∧ FreshX q.1 q.2 w'))
 (hl2 : 1 ≤ l2.length) (hy0 : (strV l2)[0]? = some (.string (bstr x)))
 (A2 : ∀ w' : World, QC 127 #[.string (bstr x)] w' (.bool (VaP.adP x)))
 (M2 : VaP.adP x = true → x.length = 2 → ∀ w' : World, QC 132 #[.string (bstr x)] w' (.int .i64 (ExP.valS x : Nat)))
 (q : List UInt8) (hy1 : l2.length = 2 → (strV l2)[1]? = some (.string (bstr q)))
 (A3 : ∀ w' : World, QC 127 #[.string (bstr q)] w' (.bool (VaP.adP q)))
include h3 hx2 hS2 hl2 hy0 A2 M2 hy1 A3
variable (vx N1 : Nat) (d2 : VaP.adP x = true) (lx : x.length = 2) (hvx : ExP.valS x = vx) (b2 : vx ≤ 59)
 (hWx : ∀ w' : World, BW w w' → Calls Tryz.prog 78 #[.int .i64 (vx : Nat)] w' (FrOut .i64 10 ⟨false, vx, 1⟩ w'))
 (hAd : ∀ (x y : FrV) (w' : World), BW w w' → FrIn .i64 10 x w' → FrIn .i64 10 y w' → x.num = ⟨false, N, 1⟩ → y.num = ⟨false, vx, 1⟩ → Calls Tryz.prog 131 #[x.val 10, y.val 10] w' (FrOut .i64 10 ⟨false, N1, 1⟩ w'))
include d2 lx hvx b2 hWx hAd
theorem rtime_one (hn1 : l2.length = 1) (hU : ∀ (x y : FrV) (w' : World), BW w w' → FrIn .i64 10 x w' → FrIn .i64 10 y w' → x.num = ⟨false, N1, 1⟩ → y.num = ⟨false, 1, 86400⟩ → Calls Tryz.prog 133 #[x.val 10, y.val 10] w' (FrOut .i64 10 ⟨false, N1, 86400⟩ w')) : Calls Tryz.prog 66 #[.string (bstr s)] w (FrOutB .i64 10 ⟨false, N1, 86400⟩ true w) := by
 have _u := And.intro hl (And.intro hl2 (And.intro hy1 A3))
 rw [d0] at A0
 rw [d1] at A1
 replace M0 := M0 d0 la
 replace M1 := M1 d1 lb
 rw [hva] at M0
 rw [hvb] at M1
 rw [d2] at A2
 replace M2 := M2 d2 lx
 rw [hvx] at M2
 generalize hn : l.length = n at *
 refine yE Tryz.func66 rfl Tryz.results66 Tryz.ntmps66 [] [300004] [.str s] w ?_
 repeat' (first | refine yX ?_ | (apply And.intro <;> intro _) | apply bothI | refine retB fun β => ?_ | intro βe | (refine callSls (T := Nat × Nat) (fun t => .any (.slice (some ⟨t.1, 0, none⟩) n t.2)) (fun t => [(some ⟨t.1, 0, none⟩, strV l)]) hw0 (by kernel_rfl) rfl (fun _ => rfl) (fun β w' hm => hS w') (fun p _ => ?_)) | refine yK (.lit true) (fun β w hm => A0 w) ?_ | refine yK (.lit true) (fun β w hm => A1 w) ?_ | refine yK (.int .i64 (va : Nat)) (fun β w hm => M0 w) ?_ | refine yK (.int .i64 (vb : Nat)) (fun β w hm => M1 w) ?_ | refine yO (x_len Tryz.underlying121) ?_ | refine yN (j := 0) Tryz.underlying121 Tryz.sizeOf9 ?_ | refine yN (j := 1) Tryz.underlying121 Tryz.sizeOf9 ?_ | refine yO (v := .str a) (x_loadF 1 (.str a) (fun w => Tryz.isAgg9 w) rfl (fun β => hx0)) ?_ | refine yO (v := .str b) (x_loadF 1 (.str b) (fun w => Tryz.isAgg9 w) rfl (fun β => hx1)) ?_ | exact trivial)
 all_goals first | (exfalso; omega) | skip
 refine stop_reserve 3 hw0 ?_
 refine yJ (T := {t : Option Addr × Nat × Option Addr × Nat // FrCap 10 ⟨false, N, 1, t.1, t.2.1, t.2.2.1, t.2.2.2⟩}) (fun t => ⟨[(2, .ptr 0 0), (4, .any (.slice (some ⟨p.1, 0, none⟩) n p.2)), (5, .ptr 2 0)], [(0, true, .cells 72 [.lit false, .any (.slice none 0 0), .any (.slice none 0 0)]), (1, false, .blob (SlF w.heap.size (some ⟨p.1, 0, none⟩) (strV l))), (2, true, .cells 72 [.bool false, .any (.slice t.1.1 (ExP.nd 10 N) t.1.2.1), .any (.slice t.1.2.2.1 (ExP.nd 10 1) t.1.2.2.2)]), (3, false, .blob (SlF w.heap.size t.1.1 (nv .i64 10 N))), (4, false, .blob (SlF w.heap.size t.1.2.2.1 (nv .i64 10 1)))], 5, 151⟩) [] [200004] [] [200009, 200012] (fun I2 hI2 => ?_) (fun t => ?_)
 ·repeat' (first | refine yX ?_ | (apply And.intro <;> intro _) | apply bothI | refine retB fun β => ?_ | intro βe | refine yK (.int .i64 (va : Nat)) (fun β w hm => M0 w) ?_ | refine yK (.int .i64 (vb : Nat)) (fun β w hm => M1 w) ?_ | (refine callFr .i64 10 ⟨false, N, 1⟩ hw0 (by kernel_rfl) rfl (fun β w' hm => hW w' hm.below) (fun a5 c5 a6 c6 hc5 => ?_)) | ((with_reducible show ∃ _ : SV, _); first | refine yN (j := 0) Tryz.underlying121 Tryz.sizeOf9 ?_ | refine yN (j := 1) Tryz.underlying121 Tryz.sizeOf9 ?_ | refine yO (v := .str a) (x_loadF 1 (.str a) (fun w => Tryz.isAgg9 w) rfl (fun β => hx0)) ?_ | refine yO (v := .str b) (x_loadF 1 (.str b) (fun w => Tryz.isAgg9 w) rfl (fun β => hx1)) ?_ | (refine ⟨.int .i64 (va : Nat), by kernel_rfl, trivial, fun β w hm => M0 w, ?_⟩) | (refine ⟨.int .i64 (vb : Nat), by kernel_rfl, trivial, fun β w hm => M1 w, ?_⟩)) | exact trivial)
  all_goals refine back_own 5 2 rfl rfl rfl (Nat.zero_le _) ?_
  all_goals first | refine back_copy (Φ := SlF w.heap.size a5 (nv .i64 10 (N))) 3 5 rfl rfl rfl (Nat.zero_le _) (by kernel_rfl) ?_ | refine back_copy (Φ := SlF w.heap.size a5 (nv .i64 10 (N))) 3 6 rfl rfl rfl (Nat.zero_le _) (by kernel_rfl) ?_ | refine back_copy (Φ := SlF w.heap.size a5 (nv .i64 10 (N))) 3 7 rfl rfl rfl (Nat.zero_le _) (by kernel_rfl) ?_ | refine back_copy (Φ := SlF w.heap.size a5 (nv .i64 10 (N))) 3 8 rfl rfl rfl (Nat.zero_le _) (by kernel_rfl) ?_ | refine back_copy (Φ := SlF w.heap.size a5 (nv .i64 10 (N))) 3 9 rfl rfl rfl (Nat.zero_le _) (by kernel_rfl) ?_ | refine back_copy (Φ := SlF w.heap.size a5 (nv .i64 10 (N))) 3 10 rfl rfl rfl (Nat.zero_le _) (by kernel_rfl) ?_ | refine back_copy (Φ := SlF w.heap.size a5 (nv .i64 10 (N))) 3 11 rfl rfl rfl (Nat.zero_le _) (by kernel_rfl) ?_
  all_goals first | refine back_copy (Φ := SlF w.heap.size a6 (nv .i64 10 (1))) 4 5 rfl rfl rfl (Nat.zero_le _) (by kernel_rfl) ?_ | refine back_copy (Φ := SlF w.heap.size a6 (nv .i64 10 (1))) 4 6 rfl rfl rfl (Nat.zero_le _) (by kernel_rfl) ?_ | refine back_copy (Φ := SlF w.heap.size a6 (nv .i64 10 (1))) 4 7 rfl rfl rfl (Nat.zero_le _) (by kernel_rfl) ?_ | refine back_copy (Φ := SlF w.heap.size a6 (nv .i64 10 (1))) 4 8 rfl rfl rfl (Nat.zero_le _) (by kernel_rfl) ?_ | refine back_copy (Φ := SlF w.heap.size a6 (nv .i64 10 (1))) 4 9 rfl rfl rfl (Nat.zero_le _) (by kernel_rfl) ?_ | refine back_copy (Φ := SlF w.heap.size a6 (nv .i64 10 (1))) 4 10 rfl rfl rfl (Nat.zero_le _) (by kernel_rfl) ?_ | refine back_copy (Φ := SlF w.heap.size a6 (nv .i64 10 (1))) 4 11 rfl rfl rfl (Nat.zero_le _) (by kernel_rfl) ?_
  all_goals exact hI2 _ ⟨(a5, c5, a6, c6), hc5⟩ (by dsimp only; ((with_reducible show wk _ _); repeat' (first | exact trivial | exact eqSV_refl _ | refine eqI ?_ | refine eqS ?_ | apply And.intro | exact yV | fail)); all_goals exact fun b x h => h)
 obtain ⟨⟨ta, tc, tb, te⟩, hct⟩ := t
 dsimp only at hct ⊢
 repeat' (first | refine yX ?_ | (apply And.intro <;> intro _) | apply bothI | refine retB fun β => ?_ | intro βe | (refine callSls (T := Nat × Nat) (fun t => .any (.slice (some ⟨t.1, 0, none⟩) l2.length t.2)) (fun t => [(some ⟨t.1, 0, none⟩, strV l2)]) hw0 (by kernel_rfl) rfl (fun _ => rfl) (fun β w' hm => hS2 w') (fun p2 _ => ?_)) | refine yK (.lit true) (fun β w hm => A2 w) ?_ | refine yK (.int .i64 (vx : Nat)) (fun β w hm => M2 w) ?_ | (refine callFr .i64 10 ⟨false, vx, 1⟩ hw0 (by kernel_rfl) rfl (fun β w' hm => hWx w' hm.below) (fun xa xc xb xe hcx => ?_)) | (refine callFr .i64 10 ⟨false, N1, 1⟩ hw0 (by kernel_rfl) rfl (fun β w' hm => hAd ⟨false, N, 1, ta, tc, tb, te⟩ ⟨false, vx, 1, xa, xc, xb, xe⟩ w' hm.below (FrIn.of (ySl hm) (ySl hm) hct) (FrIn.of (ySl hm) (ySl hm) hcx) rfl rfl) (fun sa sc sb se hcs => ?_)) | (refine callFr .i64 10 ⟨false, 86400, 1⟩ hw0 (by kernel_rfl) rfl (fun β w' hm => hG w' hm.below) (fun a7 c7 a8 c8 hc7 => ?_)) | refine yK (.agg [.bool false, .any (.slice a8 (ExP.nd 10 1) c8), .any (.slice a7 (ExP.nd 10 86400) c7)]) (fun β w hm => rinv_any false a7 a8 _ _ _ _ w) ?_ | (refine callFr .i64 10 ⟨false, N1, 86400⟩ hw0 (by kernel_rfl) rfl (fun β w' hm => hU ⟨false, N1, 1, sa, sc, sb, se⟩ ⟨false, 1, 86400, a8, c8, a7, c7⟩ w' hm.below (FrIn.of (ySl hm) (ySl hm) hcs) (FrIn.of (ySl hm) (ySl hm) ⟨hc7.2, hc7.1, hc7.4, hc7.3⟩) rfl rfl) (fun ra rc rb re hcr => ?_)) | refine yO (x_len Tryz.underlying121) ?_ | refine yN (j := 0) Tryz.underlying121 Tryz.sizeOf9 ?_ | refine yN (j := 1) Tryz.underlying121 Tryz.sizeOf9 ?_ | refine yN (j := 2) Tryz.underlying121 Tryz.sizeOf9 ?_ | refine yO (v := .str c) (x_loadF 1 (.str c) (fun w => Tryz.isAgg9 w) rfl (fun β => hx2)) ?_ | refine yO (v := .str x) (x_loadF 5 (.str x) (fun w => Tryz.isAgg9 w) rfl (fun β => hy0)) ?_ | exact trivial)
 all_goals first | (exfalso; omega) | (refine ret fun β w' hm => ?_; exact ⟨⟨false, N1, 86400, ra, rc, rb, re⟩, rfl, rfl, hcr, Ls2 (ySl hm) (yFr hm) (ySl hm) (yFr hm), hm.below⟩) | trace_state
end
section
variable (s : List UInt8) (l : List (List UInt8)) (w : World) (hw0 : 0 < w.heap.size)
 (hS : ∀ w' : World, Calls Tryz.prog 126 #[.string (bstr s), .int .u8 58] w' (fun e w'' => BW w' w'' ∧ ∃ t : Nat × Nat, e = .returned (.slice (some ⟨t.1, 0, none⟩) (l).length t.2) ∧ ∀ q ∈ [((some ⟨t.1, 0, none⟩ : Option Addr), strV l)], SlAt q.1 q.2 w'' ∧ FreshX q.1 q.2 w'))
include hw0 hS
variable (a b : List UInt8) (hl : l.length = 2 ∨ l.length = 3) (hx0 : (strV l)[0]? = some (.string (bstr a))) (hx1 : (strV l)[1]? = some (.string (bstr b)))
 (A0 : ∀ w' : World, QC 127 #[.string (bstr a)] w' (.bool (VaP.adP a)))
 (A1 : ∀ w' : World, QC 127 #[.string (bstr b)] w' (.bool (VaP.adP b)))
 (M0 : VaP.adP a = true → a.length ≤ 2 → ∀ w' : World, QC 132 #[.string (bstr a)] w' (.int .i64 (ExP.valS a : Nat)))
 (M1 : VaP.adP b = true → b.length = 2 → ∀ w' : World, QC 132 #[.string (bstr b)] w' (.int .i64 (ExP.valS b : Nat)))
include hl hx0 hx1 A0 A1 M0 M1
variable (va vb N : Nat) (d0 : VaP.adP a = true) (d1 : VaP.adP b = true) (la : a.length ≤ 2) (lb : b.length = 2) (hva : ExP.valS a = va) (hvb : ExP.valS b = vb) (b0 : va ≤ 23) (b1 : vb ≤ 59)
 (hW : ∀ w' : World, BW w w' → Calls Tryz.prog 78 #[.int .i64 (3600 * (va : Int) + 60 * (vb : Int))] w' (FrOut .i64 10 ⟨false, N, 1⟩ w'))
 (hG : ∀ w' : World, BW w w' → Calls Tryz.prog 78 #[.int .i64 86400] w' (FrOut .i64 10 ⟨false, 86400, 1⟩ w'))
include d0 d1 la lb hva hvb b0 b1 hW hG
variable (c x : List UInt8) (l2 : List (List UInt8)) (h3 : l.length = 3) (hx2 : (strV l)[2]? = some (.string (bstr c)))
 (hS2 : ∀ w' : World, Calls Tryz.prog 126 #[.string (bstr c), .int .u8 46] w' (fun e w'' => BW w' w'' ∧ ∃ t : Nat × Nat, e = .returned (.slice (some ⟨t.1, 0, none⟩) (l2).length t.2) ∧ ∀ q ∈ [((some ⟨t.1, 0, none⟩ : Option Addr), strV l2)], SlAt q.1 q.2 w'' ∧ FreshX q.1 q.2 w'))
 (hl2 : 1 ≤ l2.length) (hy0 : (strV l2)[0]? = some (.string (bstr x)))
 (A2 : ∀ w' : World, QC 127 #[.string (bstr x)] w' (.bool (VaP.adP x)))
 (M2 : VaP.adP x = true → x.length = 2 → ∀ w' : World, QC 132 #[.string (bstr x)] w' (.int .i64 (ExP.valS x : Nat)))
 (q : List UInt8) (hy1 : l2.length = 2 → (strV l2)[1]? = some (.string (bstr q)))
 (A3 : ∀ w' : World, QC 127 #[.string (bstr q)] w' (.bool (VaP.adP q)))
include h3 hx2 hS2 hl2 hy0 A2 M2 hy1 A3
variable (vx N1 : Nat) (d2 : VaP.adP x = true) (lx : x.length = 2) (hvx : ExP.valS x = vx) (b2 : vx ≤ 59)
 (hWx : ∀ w' : World, BW w w' → Calls Tryz.prog 78 #[.int .i64 (vx : Nat)] w' (FrOut .i64 10 ⟨false, vx, 1⟩ w'))
 (hAd : ∀ (x y : FrV) (w' : World), BW w w' → FrIn .i64 10 x w' → FrIn .i64 10 y w' → x.num = ⟨false, N, 1⟩ → y.num = ⟨false, vx, 1⟩ → Calls Tryz.prog 131 #[x.val 10, y.val 10] w' (FrOut .i64 10 ⟨false, N1, 1⟩ w'))
include d2 lx hvx b2 hWx hAd
theorem rtime_pt (hn2 : l2.length = 2) (d3 : VaP.adP q = true) (lq : q.length ≤ 9) (vq N2 T Q : Nat)
  (hNq : ∀ w' : World, Calls Tryz.prog 130 #[.string (bstr q)] w' (NatOut .i64 10 vq w'))
  (hSC : ∀ (a : Option Addr) (c g : Nat) (w' : World), 0 < w'.heap.size → SlAt (some ⟨g, 0, none⟩) [.int .i64 1] w' → Calls Tryz.prog 129 #[.agg #[.bool false, .slice a (ExP.nd 10 vq) c, .slice (some ⟨g, 0, none⟩) 1 1], .int .i64 (0 - (q.length : Int))] w' (NumOut .i64 10 T (fun a' c' => .agg #[.bool false, .slice a (ExP.nd 10 vq) c, .slice a' (ExP.nd 10 T) c']) w'))
  (hAq : ∀ (x y : FrV) (w' : World), BW w w' → FrIn .i64 10 x w' → FrIn .i64 10 y w' → x.num = ⟨false, N1, 1⟩ → y.num = ⟨false, vq, T⟩ → Calls Tryz.prog 131 #[x.val 10, y.val 10] w' (FrOut .i64 10 ⟨false, N2, T⟩ w'))
  (hU : ∀ (x y : FrV) (w' : World), BW w w' → FrIn .i64 10 x w' → FrIn .i64 10 y w' → x.num = ⟨false, N2, T⟩ → y.num = ⟨false, 1, 86400⟩ → Calls Tryz.prog 133 #[x.val 10, y.val 10] w' (FrOut .i64 10 ⟨false, N2, Q⟩ w')) : Calls Tryz.prog 66 #[.string (bstr s)] w (FrOutB .i64 10 ⟨false, N2, Q⟩ true w) := by
 have _u := And.intro hl hl2
 rw [d0] at A0
 rw [d1] at A1
 replace M0 := M0 d0 la
 replace M1 := M1 d1 lb
 rw [hva] at M0
 rw [hvb] at M1
 rw [d2] at A2
 replace M2 := M2 d2 lx
 rw [hvx] at M2
 rw [d3] at A3
 replace hy1 := hy1 hn2
 have hu := Tryz.underlying70
 have hsz := fun w => Tryz.sizeOf3 w
 have hzv := fun w => Tryz.zeroValue3 w
 generalize hn : l.length = n at *
 refine yE Tryz.func66 rfl Tryz.results66 Tryz.ntmps66 [] [300004] [.str s] w ?_
 repeat' (first | refine yX ?_ | (apply And.intro <;> intro _) | apply bothI | refine retB fun β => ?_ | intro βe | (refine callSls (T := Nat × Nat) (fun t => .any (.slice (some ⟨t.1, 0, none⟩) n t.2)) (fun t => [(some ⟨t.1, 0, none⟩, strV l)]) hw0 (by kernel_rfl) rfl (fun _ => rfl) (fun β w' hm => hS w') (fun p _ => ?_)) | refine yK (.lit true) (fun β w hm => A0 w) ?_ | refine yK (.lit true) (fun β w hm => A1 w) ?_ | refine yK (.int .i64 (va : Nat)) (fun β w hm => M0 w) ?_ | refine yK (.int .i64 (vb : Nat)) (fun β w hm => M1 w) ?_ | refine yO (x_len Tryz.underlying121) ?_ | refine yN (j := 0) Tryz.underlying121 Tryz.sizeOf9 ?_ | refine yN (j := 1) Tryz.underlying121 Tryz.sizeOf9 ?_ | refine yO (v := .str a) (x_loadF 1 (.str a) (fun w => Tryz.isAgg9 w) rfl (fun β => hx0)) ?_ | refine yO (v := .str b) (x_loadF 1 (.str b) (fun w => Tryz.isAgg9 w) rfl (fun β => hx1)) ?_ | exact trivial)
 all_goals first | (exfalso; omega) | skip
 refine stop_reserve 3 hw0 ?_
 refine yJ (T := {t : Option Addr × Nat × Option Addr × Nat // FrCap 10 ⟨false, N, 1, t.1, t.2.1, t.2.2.1, t.2.2.2⟩}) (fun t => ⟨[(2, .ptr 0 0), (4, .any (.slice (some ⟨p.1, 0, none⟩) n p.2)), (5, .ptr 2 0)], [(0, true, .cells 72 [.lit false, .any (.slice none 0 0), .any (.slice none 0 0)]), (1, false, .blob (SlF w.heap.size (some ⟨p.1, 0, none⟩) (strV l))), (2, true, .cells 72 [.bool false, .any (.slice t.1.1 (ExP.nd 10 N) t.1.2.1), .any (.slice t.1.2.2.1 (ExP.nd 10 1) t.1.2.2.2)]), (3, false, .blob (SlF w.heap.size t.1.1 (nv .i64 10 N))), (4, false, .blob (SlF w.heap.size t.1.2.2.1 (nv .i64 10 1)))], 5, 151⟩) [] [200004] [] [300009] (fun I2 hI2 => ?_) (fun t => ?_)
 ·repeat' (first | refine yX ?_ | (apply And.intro <;> intro _) | apply bothI | refine retB fun β => ?_ | intro βe | refine yK (.int .i64 (va : Nat)) (fun β w hm => M0 w) ?_ | refine yK (.int .i64 (vb : Nat)) (fun β w hm => M1 w) ?_ | (refine callFr .i64 10 ⟨false, N, 1⟩ hw0 (by kernel_rfl) rfl (fun β w' hm => hW w' hm.below) (fun a5 c5 a6 c6 hc5 => ?_)) | ((with_reducible show ∃ _ : SV, _); first | refine yN (j := 0) Tryz.underlying121 Tryz.sizeOf9 ?_ | refine yN (j := 1) Tryz.underlying121 Tryz.sizeOf9 ?_ | refine yO (v := .str a) (x_loadF 1 (.str a) (fun w => Tryz.isAgg9 w) rfl (fun β => hx0)) ?_ | refine yO (v := .str b) (x_loadF 1 (.str b) (fun w => Tryz.isAgg9 w) rfl (fun β => hx1)) ?_ | (refine ⟨.int .i64 (va : Nat), by kernel_rfl, trivial, fun β w hm => M0 w, ?_⟩) | (refine ⟨.int .i64 (vb : Nat), by kernel_rfl, trivial, fun β w hm => M1 w, ?_⟩)) | exact trivial)
  all_goals refine back_own 5 2 rfl rfl rfl (Nat.zero_le _) ?_
  all_goals first | refine back_copy (Φ := SlF w.heap.size a5 (nv .i64 10 (N))) 3 5 rfl rfl rfl (Nat.zero_le _) (by kernel_rfl) ?_ | refine back_copy (Φ := SlF w.heap.size a5 (nv .i64 10 (N))) 3 6 rfl rfl rfl (Nat.zero_le _) (by kernel_rfl) ?_ | refine back_copy (Φ := SlF w.heap.size a5 (nv .i64 10 (N))) 3 7 rfl rfl rfl (Nat.zero_le _) (by kernel_rfl) ?_ | refine back_copy (Φ := SlF w.heap.size a5 (nv .i64 10 (N))) 3 8 rfl rfl rfl (Nat.zero_le _) (by kernel_rfl) ?_ | refine back_copy (Φ := SlF w.heap.size a5 (nv .i64 10 (N))) 3 9 rfl rfl rfl (Nat.zero_le _) (by kernel_rfl) ?_ | refine back_copy (Φ := SlF w.heap.size a5 (nv .i64 10 (N))) 3 10 rfl rfl rfl (Nat.zero_le _) (by kernel_rfl) ?_ | refine back_copy (Φ := SlF w.heap.size a5 (nv .i64 10 (N))) 3 11 rfl rfl rfl (Nat.zero_le _) (by kernel_rfl) ?_
  all_goals first | refine back_copy (Φ := SlF w.heap.size a6 (nv .i64 10 (1))) 4 5 rfl rfl rfl (Nat.zero_le _) (by kernel_rfl) ?_ | refine back_copy (Φ := SlF w.heap.size a6 (nv .i64 10 (1))) 4 6 rfl rfl rfl (Nat.zero_le _) (by kernel_rfl) ?_ | refine back_copy (Φ := SlF w.heap.size a6 (nv .i64 10 (1))) 4 7 rfl rfl rfl (Nat.zero_le _) (by kernel_rfl) ?_ | refine back_copy (Φ := SlF w.heap.size a6 (nv .i64 10 (1))) 4 8 rfl rfl rfl (Nat.zero_le _) (by kernel_rfl) ?_ | refine back_copy (Φ := SlF w.heap.size a6 (nv .i64 10 (1))) 4 9 rfl rfl rfl (Nat.zero_le _) (by kernel_rfl) ?_ | refine back_copy (Φ := SlF w.heap.size a6 (nv .i64 10 (1))) 4 10 rfl rfl rfl (Nat.zero_le _) (by kernel_rfl) ?_ | refine back_copy (Φ := SlF w.heap.size a6 (nv .i64 10 (1))) 4 11 rfl rfl rfl (Nat.zero_le _) (by kernel_rfl) ?_
  all_goals exact hI2 _ ⟨(a5, c5, a6, c6), hc5⟩ (by dsimp only; ((with_reducible show wk _ _); repeat' (first | exact trivial | exact eqSV_refl _ | refine eqI ?_ | refine eqS ?_ | apply And.intro | exact yV | fail)); all_goals exact fun b x h => h)
 obtain ⟨⟨ta, tc, tb, te⟩, hct⟩ := t
 dsimp only at hct ⊢
 repeat' (first | refine yX ?_ | (apply And.intro <;> intro _) | apply bothI | refine retB fun β => ?_ | intro βe | (refine callSls (T := Nat × Nat) (fun t => .any (.slice (some ⟨t.1, 0, none⟩) l2.length t.2)) (fun t => [(some ⟨t.1, 0, none⟩, strV l2)]) hw0 (by kernel_rfl) rfl (fun _ => rfl) (fun β w' hm => hS2 w') (fun p2 _ => ?_)) | refine yK (.lit true) (fun β w hm => A2 w) ?_ | refine yK (.int .i64 (vx : Nat)) (fun β w hm => M2 w) ?_ | refine yK (.lit true) (fun β w hm => A3 w) ?_ | refine yO (x_len Tryz.underlying121) ?_ | refine yN (j := 0) Tryz.underlying121 Tryz.sizeOf9 ?_ | refine yN (j := 1) Tryz.underlying121 Tryz.sizeOf9 ?_ | refine yN (j := 2) Tryz.underlying121 Tryz.sizeOf9 ?_ | refine yO (v := .str c) (x_loadF 1 (.str c) (fun w => Tryz.isAgg9 w) rfl (fun β => hx2)) ?_ | refine yO (v := .str x) (x_loadF 5 (.str x) (fun w => Tryz.isAgg9 w) rfl (fun β => hy0)) ?_ | refine yO (v := .str q) (x_loadF 5 (.str q) (fun w => Tryz.isAgg9 w) rfl (fun β => hy1)) ?_ | exact trivial)
 all_goals first | (exfalso; omega) | skip
 refine stop_reserve 2 hw0 ?_
 refine yJ (T := {t : Option Addr × Nat × Option Addr × Nat // FrCap 10 ⟨false, N1, 1, t.1, t.2.1, t.2.2.1, t.2.2.2⟩}) (fun t => ⟨[(2, .ptr 0 0), (5, .ptr 2 0), (6, .any (.slice (some ⟨p2.1, 0, none⟩) l2.length p2.2))], [(0, true, .cells 72 [.lit false, .any (.slice none 0 0), .any (.slice none 0 0)]), (2, true, .cells 72 [.bool false, .any (.slice t.1.1 (ExP.nd 10 N1) t.1.2.1), .any (.slice t.1.2.2.1 (ExP.nd 10 1) t.1.2.2.2)]), (5, false, .blob (SlF w.heap.size (some ⟨p2.1, 0, none⟩) (strV l2))), (6, false, .blob (SlF w.heap.size t.1.1 (nv .i64 10 N1))), (7, false, .blob (SlF w.heap.size t.1.2.2.1 (nv .i64 10 1)))], 8, 151⟩) [] [200009] [] [300011] (fun I4 hI4 => ?_) (fun t => ?_)
 ·repeat' (first | refine yX ?_ | (apply And.intro <;> intro _) | apply bothI | refine retB fun β => ?_ | intro βe | refine yK (.int .i64 (vx : Nat)) (fun β w hm => M2 w) ?_ | (refine callFr .i64 10 ⟨false, vx, 1⟩ hw0 (by kernel_rfl) rfl (fun β w' hm => hWx w' hm.below) (fun xa xc xb xe hcx => ?_)) | (refine callFr .i64 10 ⟨false, N1, 1⟩ hw0 (by kernel_rfl) rfl (fun β w' hm => hAd ⟨false, N, 1, ta, tc, tb, te⟩ ⟨false, vx, 1, xa, xc, xb, xe⟩ w' hm.below (FrIn.of (ySl hm) (ySl hm) hct) (FrIn.of (ySl hm) (ySl hm) hcx) rfl rfl) (fun sa sc sb se hcs => ?_)) | ((with_reducible show ∃ _ : SV, _); first | refine yN (j := 0) Tryz.underlying121 Tryz.sizeOf9 ?_ | refine yO (v := .str x) (x_loadF 5 (.str x) (fun w => Tryz.isAgg9 w) rfl (fun β => hy0)) ?_ | (refine ⟨.int .i64 (vx : Nat), by kernel_rfl, trivial, fun β w hm => M2 w, ?_⟩)) | exact trivial)
  all_goals first | refine back_copy (Φ := SlF w.heap.size sa (nv .i64 10 (N1))) 6 8 rfl rfl rfl (Nat.zero_le _) (by kernel_rfl) ?_ | refine back_copy (Φ := SlF w.heap.size sa (nv .i64 10 (N1))) 6 9 rfl rfl rfl (Nat.zero_le _) (by kernel_rfl) ?_ | refine back_copy (Φ := SlF w.heap.size sa (nv .i64 10 (N1))) 6 10 rfl rfl rfl (Nat.zero_le _) (by kernel_rfl) ?_ | refine back_copy (Φ := SlF w.heap.size sa (nv .i64 10 (N1))) 6 11 rfl rfl rfl (Nat.zero_le _) (by kernel_rfl) ?_ | refine back_copy (Φ := SlF w.heap.size sa (nv .i64 10 (N1))) 6 12 rfl rfl rfl (Nat.zero_le _) (by kernel_rfl) ?_ | refine back_copy (Φ := SlF w.heap.size sa (nv .i64 10 (N1))) 6 13 rfl rfl rfl (Nat.zero_le _) (by kernel_rfl) ?_ | refine back_copy (Φ := SlF w.heap.size sa (nv .i64 10 (N1))) 6 14 rfl rfl rfl (Nat.zero_le _) (by kernel_rfl) ?_
  all_goals first | refine back_copy (Φ := SlF w.heap.size sb (nv .i64 10 (1))) 7 8 rfl rfl rfl (Nat.zero_le _) (by kernel_rfl) ?_ | refine back_copy (Φ := SlF w.heap.size sb (nv .i64 10 (1))) 7 9 rfl rfl rfl (Nat.zero_le _) (by kernel_rfl) ?_ | refine back_copy (Φ := SlF w.heap.size sb (nv .i64 10 (1))) 7 10 rfl rfl rfl (Nat.zero_le _) (by kernel_rfl) ?_ | refine back_copy (Φ := SlF w.heap.size sb (nv .i64 10 (1))) 7 11 rfl rfl rfl (Nat.zero_le _) (by kernel_rfl) ?_ | refine back_copy (Φ := SlF w.heap.size sb (nv .i64 10 (1))) 7 12 rfl rfl rfl (Nat.zero_le _) (by kernel_rfl) ?_ | refine back_copy (Φ := SlF w.heap.size sb (nv .i64 10 (1))) 7 13 rfl rfl rfl (Nat.zero_le _) (by kernel_rfl) ?_ | refine back_copy (Φ := SlF w.heap.size sb (nv .i64 10 (1))) 7 14 rfl rfl rfl (Nat.zero_le _) (by kernel_rfl) ?_
  all_goals exact hI4 _ ⟨(sa, sc, sb, se), hcs⟩ (by dsimp only; ((with_reducible show wk _ _); repeat' (first | exact trivial | exact eqSV_refl _ | refine eqI ?_ | refine eqS ?_ | apply And.intro | exact yV | fail)); all_goals exact fun b x h => h)
 obtain ⟨⟨sa, sc, sb, se⟩, hcs⟩ := t
 dsimp only at hcs ⊢
 repeat' (first | refine yX ?_ | (apply And.intro <;> intro _) | apply bothI | refine retB fun β => ?_ | intro βe | refine yO (x_len Tryz.underlying121) ?_ | exact trivial)
 all_goals first | (exfalso; omega) | skip
 all_goals
  refine stop_reserve 4 hw0 ?_
  refine yJ (T := {t : Option Addr × Nat × Option Addr × Nat // FrCap 10 ⟨false, N2, T, t.1, t.2.1, t.2.2.1, t.2.2.2⟩}) (fun t => ⟨[(2, .ptr 0 0), (5, .ptr 2 0)], [(0, true, .cells 72 [.lit false, .any (.slice none 0 0), .any (.slice none 0 0)]), (2, true, .cells 72 [.bool false, .any (.slice t.1.1 (ExP.nd 10 N2) t.1.2.1), .any (.slice t.1.2.2.1 (ExP.nd 10 T) t.1.2.2.2)]), (10, false, .blob (SlF w.heap.size t.1.1 (nv .i64 10 N2))), (11, false, .blob (SlF w.heap.size t.1.2.2.1 (nv .i64 10 T)))], 12, 151⟩) [] [200011] [] [200012] (fun I3 hI3 => ?_) (fun t => ?_)
  ·repeat' (first | refine yX ?_ | (apply And.intro <;> intro _) | apply bothI | refine retB fun β => ?_ | intro βe | (refine callNat .i64 10 vq hw0 (by kernel_rfl) rfl (fun β w' hm => hNq w') (fun a1 c1 q1 q2 q3 => ?_)) | (refine callNum .i64 10 T (fun a' c' => .agg [.bool false, .any (.slice a1 (ExP.nd 10 vq) c1), .any (.slice a' (ExP.nd 10 T) c')]) hw0 (by kernel_rfl) rfl (fun a' c' => ⟨trivial, rfl, rfl, trivial⟩) (fun β w' hm => hSC a1 c1 g1 w' (Nat.lt_of_lt_of_le hw0 hm.base_le) (by first | exact (hm.own 12 rfl).1 | exact (hm.own 13 rfl).1 | exact (hm.own 14 rfl).1)) (fun a2 c2 q4 q5 => ?_)) | (refine callFr .i64 10 ⟨false, N2, T⟩ hw0 (by kernel_rfl) rfl (fun β w' hm => hAq ⟨false, N1, 1, sa, sc, sb, se⟩ ⟨false, vq, T, a1, c1, a2, c2⟩ w' hm.below (FrIn.of (ySl hm) (ySl hm) hcs) (FrIn.of (ySl hm) (ySl hm) ⟨q1, q4, q2, q5⟩) rfl rfl) (fun a5 c5 a6 c6 hc5 => ?_)) | (refine opx_build1 (sz := 1) rfl rfl rfl (xs := [.int .i64 1]) (fun β => rfl) rfl (by omega) (by omega) hu hsz hzv (fun g1 => ?_)) | refine yN (j := 1) Tryz.underlying121 Tryz.sizeOf9 ?_ | refine yO (v := .str q) (x_loadF 5 (.str q) (fun w => Tryz.isAgg9 w) rfl (fun β => hy1)) ?_ | exact trivial)
   all_goals first | refine back_copy (Φ := SlF w.heap.size a5 (nv .i64 10 (N2))) 10 12 rfl rfl rfl (Nat.zero_le _) (by kernel_rfl) ?_ | refine back_copy (Φ := SlF w.heap.size a5 (nv .i64 10 (N2))) 10 13 rfl rfl rfl (Nat.zero_le _) (by kernel_rfl) ?_ | refine back_copy (Φ := SlF w.heap.size a5 (nv .i64 10 (N2))) 10 14 rfl rfl rfl (Nat.zero_le _) (by kernel_rfl) ?_ | refine back_copy (Φ := SlF w.heap.size a5 (nv .i64 10 (N2))) 10 15 rfl rfl rfl (Nat.zero_le _) (by kernel_rfl) ?_ | refine back_copy (Φ := SlF w.heap.size a5 (nv .i64 10 (N2))) 10 16 rfl rfl rfl (Nat.zero_le _) (by kernel_rfl) ?_ | refine back_copy (Φ := SlF w.heap.size a5 (nv .i64 10 (N2))) 10 17 rfl rfl rfl (Nat.zero_le _) (by kernel_rfl) ?_ | refine back_copy (Φ := SlF w.heap.size a5 (nv .i64 10 (N2))) 10 18 rfl rfl rfl (Nat.zero_le _) (by kernel_rfl) ?_
   all_goals first | refine back_copy (Φ := SlF w.heap.size a6 (nv .i64 10 (T))) 11 12 rfl rfl rfl (Nat.zero_le _) (by kernel_rfl) ?_ | refine back_copy (Φ := SlF w.heap.size a6 (nv .i64 10 (T))) 11 13 rfl rfl rfl (Nat.zero_le _) (by kernel_rfl) ?_ | refine back_copy (Φ := SlF w.heap.size a6 (nv .i64 10 (T))) 11 14 rfl rfl rfl (Nat.zero_le _) (by kernel_rfl) ?_ | refine back_copy (Φ := SlF w.heap.size a6 (nv .i64 10 (T))) 11 15 rfl rfl rfl (Nat.zero_le _) (by kernel_rfl) ?_ | refine back_copy (Φ := SlF w.heap.size a6 (nv .i64 10 (T))) 11 16 rfl rfl rfl (Nat.zero_le _) (by kernel_rfl) ?_ | refine back_copy (Φ := SlF w.heap.size a6 (nv .i64 10 (T))) 11 17 rfl rfl rfl (Nat.zero_le _) (by kernel_rfl) ?_ | refine back_copy (Φ := SlF w.heap.size a6 (nv .i64 10 (T))) 11 18 rfl rfl rfl (Nat.zero_le _) (by kernel_rfl) ?_
   all_goals exact hI3 _ ⟨(a5, c5, a6, c6), hc5⟩ (by dsimp only; ((with_reducible show wk _ _); repeat' (first | exact trivial | exact eqSV_refl _ | refine eqI ?_ | refine eqS ?_ | apply And.intro | exact yV | fail)); all_goals exact fun b x h => h)
  obtain ⟨⟨za, zc, zb, ze⟩, hcz⟩ := t
  dsimp only at hcz ⊢
  repeat' (first | refine yX ?_ | (apply And.intro <;> intro _) | apply bothI | refine retB fun β => ?_ | intro βe | (refine callFr .i64 10 ⟨false, 86400, 1⟩ hw0 (by kernel_rfl) rfl (fun β w' hm => hG w' hm.below) (fun a7 c7 a8 c8 hc7 => ?_)) | refine yK (.agg [.bool false, .any (.slice a8 (ExP.nd 10 1) c8), .any (.slice a7 (ExP.nd 10 86400) c7)]) (fun β w hm => rinv_any false a7 a8 _ _ _ _ w) ?_ | (refine callFr .i64 10 ⟨false, N2, Q⟩ hw0 (by kernel_rfl) rfl (fun β w' hm => hU ⟨false, N2, T, za, zc, zb, ze⟩ ⟨false, 1, 86400, a8, c8, a7, c7⟩ w' hm.below (FrIn.of (ySl hm) (ySl hm) hcz) (FrIn.of (ySl hm) (ySl hm) ⟨hc7.2, hc7.1, hc7.4, hc7.3⟩) rfl rfl) (fun ra rc rb re hcr => ?_)) | exact trivial)
  all_goals first | (exfalso; omega) | (refine ret fun β w' hm => ?_; exact ⟨⟨false, N2, Q, ra, rc, rb, re⟩, rfl, rfl, hcr, Ls2 (ySl hm) (yFr hm) (ySl hm) (yFr hm), hm.below⟩) | trace_state
end
end Go.Proofs.YtdkhkfdenlabaaaGreatDoor
