/- Values, the reference: small numbers; dates. Values, the reference: mixed numbers. Values, the reference: times: the walk. Values, the reference: a date and a time. Values, the reference: texts compared. Values, the program: texts and numbers compared. Values, the program: values of one kind compared. Values, the reference: values of one kind compared. Values: 25 percent is entered; the law of the calendar. Values: the law of errors and makers. -/
import Derived.Test.YtdkhkfdenlabaaaGreatDoorLGG
import Derived.Test.YtdkhkfdenlabaaaGreatDoorLGV
import Derived.Test.YtdkhkfdenlabaaaGreatDoorLGT
import Derived.Test.YtdkhkfdenlabaaaGreatDoorLGS
import Derived.Test.YtdkhkfdenlabaaaGreatDoorLGM
import Derived.Test.YtdkhkfdenlabaaaGreatDoorLGN
import Derived.Lib.ItoaLen
set_option linter.unusedSimpArgs false
set_option linter.unusedVariables false
set_option maxRecDepth 100000
set_option maxHeartbeats 64000000
namespace Go.Proofs.YtdkhkfdenlabaaaGreatDoor
open Go.RowKit
open Sym
attribute [local irreducible] Calls Sym.AggEq ExP.nd ExP.dig ExP.upd ExP.writeF ExP.writeE
theorem small9_any (s : List UInt8) (w : World) (hs : s.length ≤ 9) (ha : s.all ExP.digC = true) : QC 132 #[.string (bstr s)] w (.int .i64 (ExP.valS s : Nat)) := by
 have hb : ∀ n, n ≤ s.length → ExP.valS (s.take n) < 1000000000 := fun n hn => by
  have h1 := ExP.val_lt _ (all_take ha n)
  have h2 : (s.take n).length ≤ 9 := by simp; omega
  exact Nat.lt_of_lt_of_le h1 (Nat.pow_le_pow_right (by omega) h2)
 refine yE Tryz.func132 rfl Tryz.results132 Tryz.ntmps132 [] [] [.str s] w ?_
 repeat' (first | refine yX ?_ | (apply And.intro <;> intro _) | apply bothI | refine retB fun β => ?_ | intro βe | exact trivial)
 refine yZ (T := {n : Nat // n ≤ s.length}) (fun t => ⟨[(0, .str s), (3, .int .i64 (ExP.valS (s.take t.1) : Nat)), (6, .int .i64 (s.length : Nat)), (7, .int .i64 (t.1 : Nat))], [], 0, 20⟩) (fun t => s.length - t.1) ⟨0, Nat.zero_le _⟩ [] [] (fun t I hI => ?_) (by dsimp only; rw [List.take_zero]; ((with_reducible show wk _ _); repeat' (first | exact trivial | exact eqSV_refl _ | refine eqI ?_ | refine eqS ?_ | apply And.intro | exact yV | fail)))
 obtain ⟨n, hn⟩ := t
 dsimp only
 have h1 := hb n hn
 by_cases hlt : n < s.length
 ·have h2 := hb (n + 1) (by omega)
  rw [ExP.valF_take s n hlt] at h2
  have hd := ExP.digC_nat.1 (all_at ha hlt)
  repeat' (first | refine yX ?_ | (apply And.intro <;> intro _) | apply bothI | refine retB fun β => ?_ | intro βe | ((with_reducible show ∃ _, _); first | (refine ⟨n, rfl, by omega, ?_⟩)) | exact trivial)
  all_goals exact hI _ ⟨n + 1, by omega⟩ (by dsimp only; omega) (by dsimp only; rw [ExP.valF_take s n hlt]; ((with_reducible show wk _ _); repeat' (first | exact trivial | exact eqSV_refl _ | refine eqI ?_ | refine eqS ?_ | apply And.intro | exact yV | fail)))
 ·have e : s.take n = s := List.take_of_length_le (by omega)
  rw [e]
  repeat' (first | refine yX ?_ | (apply And.intro <;> intro _) | apply bothI | refine retB fun β => ?_ | intro βe | exact trivial)
  all_goals rfl
section
variable (s : List UInt8) (l : List (List UInt8)) (w : World) (hw0 : 0 < w.heap.size)
 (hS : ∀ w' : World, Calls Tryz.prog 126 #[.string (bstr s), .int .u8 45] w' (fun e w'' => BW w' w'' ∧ ∃ t : Nat × Nat, e = .returned (.slice (some ⟨t.1, 0, none⟩) (l).length t.2) ∧ ∀ q ∈ [((some ⟨t.1, 0, none⟩ : Option Addr), strV l)], SlAt q.1 q.2 w'' ∧ FreshX q.1 q.2 w'))
include hw0 hS
theorem rdate_len (h : l.length ≠ 3) : Calls Tryz.prog 65 #[.string (bstr s)] w (FrOutB .i64 10 ⟨false, 0, 0⟩ false w) := by
 generalize hn : l.length = n at *
 generalize strV l = xs at *
 refine yE Tryz.func65 rfl Tryz.results65 Tryz.ntmps65 [] [] [.str s] w ?_
 repeat' (first | refine yX ?_ | (apply And.intro <;> intro _) | apply bothI | refine retB fun β => ?_ | intro βe | (refine callSls (T := Nat × Nat) (fun t => .any (.slice (some ⟨t.1, 0, none⟩) n t.2)) (fun t => [(some ⟨t.1, 0, none⟩, xs)]) hw0 (by kernel_rfl) rfl (fun _ => rfl) (fun β w' hm => hS w') (fun p _ => ?_)) | refine yO (x_len Tryz.underlying121) ?_ | exact trivial)
 all_goals first | (exfalso; omega) | (refine ret fun β w' hm => ?_; exact ⟨⟨false, 0, 0, none, 0, none, 0⟩, by simp [FrV.val, ExP.nd_zero, SV.den, SV.dens], rfl, FrCap0, Ls0, hm.below⟩) | trace_state
variable (a b c : List UInt8) (hl : l = [a, b, c])
 (hA : ∀ g ∈ [a, b, c], ∀ w' : World, QC 127 #[.string (bstr g)] w' (.bool (VaP.adP g)))
include hl hA
theorem rdate_bad (h : ¬ (a.length = 4 ∧ b.length = 2 ∧ c.length = 2 ∧ VaP.adP a = true ∧ VaP.adP b = true ∧ VaP.adP c = true)) : Calls Tryz.prog 65 #[.string (bstr s)] w (FrOutB .i64 10 ⟨false, 0, 0⟩ false w) := by
 subst hl
 have hx0 : (strV [a, b, c])[0]? = some (.string (bstr a)) := rfl
 have hx1 : (strV [a, b, c])[1]? = some (.string (bstr b)) := rfl
 have hx2 : (strV [a, b, c])[2]? = some (.string (bstr c)) := rfl
 have A0 := hA a (by simp)
 have A1 := hA b (by simp)
 have A2 := hA c (by simp)
 clear hA
 generalize VaP.adP a = D0 at *
 generalize VaP.adP b = D1 at *
 generalize VaP.adP c = D2 at *
 generalize strV [a, b, c] = xs at *
 refine yE Tryz.func65 rfl Tryz.results65 Tryz.ntmps65 [] [300004] [.str s] w ?_
 repeat' (first | refine yX ?_ | (apply And.intro <;> intro _) | apply bothI | refine retB fun β => ?_ | intro βe | (refine callSls (T := Nat × Nat) (fun t => .any (.slice (some ⟨t.1, 0, none⟩) 3 t.2)) (fun t => [(some ⟨t.1, 0, none⟩, xs)]) hw0 (by kernel_rfl) rfl (fun _ => rfl) (fun β w' hm => hS w') (fun p _ => ?_)) | refine yK (.bool D0) (fun β w hm => A0 w) ?_ | refine yK (.bool D1) (fun β w hm => A1 w) ?_ | refine yK (.bool D2) (fun β w hm => A2 w) ?_ | ((with_reducible show ∃ _ : SV, _); first | refine yO (x_len Tryz.underlying121) ?_ | refine yN (j := 0) Tryz.underlying121 Tryz.sizeOf9 ?_ | refine yN (j := 1) Tryz.underlying121 Tryz.sizeOf9 ?_ | refine yN (j := 2) Tryz.underlying121 Tryz.sizeOf9 ?_ | refine yO (v := .str a) (x_loadF 1 (.str a) (fun w => Tryz.isAgg9 w) rfl (fun β => hx0)) ?_ | refine yO (v := .str b) (x_loadF 1 (.str b) (fun w => Tryz.isAgg9 w) rfl (fun β => hx1)) ?_ | refine yO (v := .str c) (x_loadF 1 (.str c) (fun w => Tryz.isAgg9 w) rfl (fun β => hx2)) ?_ | (refine ⟨.bool D0, by kernel_rfl, trivial, fun β w hm => A0 w, ?_⟩) | (refine ⟨.bool D1, by kernel_rfl, trivial, fun β w hm => A1 w, ?_⟩) | (refine ⟨.bool D2, by kernel_rfl, trivial, fun β w hm => A2 w, ?_⟩)) | exact trivial)
 all_goals first | (exfalso; omega) | (refine ret fun β w' hm => ?_; exact ⟨⟨false, 0, 0, none, 0, none, 0⟩, by simp [FrV.val, ExP.nd_zero, SV.den, SV.dens], rfl, FrCap0, Ls0, hm.below⟩) | (exfalso; clear hS A0 A1 A2; apply h; refine ⟨?_, ?_, ?_, ?_, ?_, ?_⟩ <;> first | omega | (simp_all; done)) | trace_state
variable (D : Int) (hB : -9223372036854775808 ≤ D ∧ D ≤ 9223372036854775807)
 (hm : ∀ g ∈ [a, b, c], ∀ w' : World, QC 132 #[.string (bstr g)] w' (.int .i64 (ExP.valS g : Nat)))
 (hD : ∀ w' : World, QC 30 #[.int .i64 (ExP.valS a : Nat), .int .i64 (ExP.valS b : Nat), .int .i64 (ExP.valS c : Nat)] w' (.int .i64 D))
include hB hm hD
theorem rdate_ok (h : a.length = 4 ∧ b.length = 2 ∧ c.length = 2 ∧ VaP.adP a = true ∧ VaP.adP b = true ∧ VaP.adP c = true) : Calls Tryz.prog 65 #[.string (bstr s)] w (FrOutB .i64 10 (ExP.wholeN D) (decide (0 < D)) w) := by
 subst hl
 have hx0 : (strV [a, b, c])[0]? = some (.string (bstr a)) := rfl
 have hx1 : (strV [a, b, c])[1]? = some (.string (bstr b)) := rfl
 have hx2 : (strV [a, b, c])[2]? = some (.string (bstr c)) := rfl
 have A0 := hA a (by simp)
 have A1 := hA b (by simp)
 have A2 := hA c (by simp)
 have M0 := hm a (by simp)
 have M1 := hm b (by simp)
 have M2 := hm c (by simp)
 clear hA hm
 obtain ⟨l1, l2, l3, d1, d2, d3⟩ := h
 rw [d1] at A0
 rw [d2] at A1
 rw [d3] at A2
 have W := fun (w' : World) (h : BW w w') => whole_any D w' (Nat.lt_of_lt_of_le hw0 h.size) hB.1 hB.2
 generalize ExP.valS a = va at *
 generalize ExP.valS b = vb at *
 generalize ExP.valS c = vc at *
 obtain ⟨wn, hwn⟩ : ∃ wn, ExP.wholeN D = wn := ⟨_, rfl⟩
 rw [hwn] at W ⊢
 obtain ⟨m0, n0, e0⟩ := wn
 generalize strV [a, b, c] = xs at *
 refine yE Tryz.func65 rfl Tryz.results65 Tryz.ntmps65 [] [300004] [.str s] w ?_
 repeat' (first | refine yX ?_ | (apply And.intro <;> intro _) | apply bothI | refine retB fun β => ?_ | intro βe | (refine callSls (T := Nat × Nat) (fun t => .any (.slice (some ⟨t.1, 0, none⟩) 3 t.2)) (fun t => [(some ⟨t.1, 0, none⟩, xs)]) hw0 (by kernel_rfl) rfl (fun _ => rfl) (fun β w' hm => hS w') (fun p _ => ?_)) | refine yK (.lit true) (fun β w hm => A0 w) ?_ | refine yK (.lit true) (fun β w hm => A1 w) ?_ | refine yK (.lit true) (fun β w hm => A2 w) ?_ | ((with_reducible show ∃ _ : SV, _); first | refine yO (x_len Tryz.underlying121) ?_ | refine yN (j := 0) Tryz.underlying121 Tryz.sizeOf9 ?_ | refine yN (j := 1) Tryz.underlying121 Tryz.sizeOf9 ?_ | refine yN (j := 2) Tryz.underlying121 Tryz.sizeOf9 ?_ | refine yO (v := .str a) (x_loadF 1 (.str a) (fun w => Tryz.isAgg9 w) rfl (fun β => hx0)) ?_ | refine yO (v := .str b) (x_loadF 1 (.str b) (fun w => Tryz.isAgg9 w) rfl (fun β => hx1)) ?_ | refine yO (v := .str c) (x_loadF 1 (.str c) (fun w => Tryz.isAgg9 w) rfl (fun β => hx2)) ?_ | (refine ⟨.lit true, by kernel_rfl, trivial, fun β w hm => A0 w, ?_⟩) | (refine ⟨.lit true, by kernel_rfl, trivial, fun β w hm => A1 w, ?_⟩) | (refine ⟨.lit true, by kernel_rfl, trivial, fun β w hm => A2 w, ?_⟩)) | exact trivial)
 all_goals first | (exfalso; omega) | skip
 refine yJ (T := Unit) (fun _ => ⟨[(2, .ptr 0 0), (5, .int .i64 D)], [(0, true, .cells 72 [.lit false, .any (.slice none 0 0), .any (.slice none 0 0)])], 2, 71⟩) [] [] [] [] (fun I hI => ?_) (fun _ => ?_)
 ·repeat' (first | refine yX ?_ | (apply And.intro <;> intro _) | apply bothI | refine retB fun β => ?_ | intro βe | refine yK (.int .i64 (va : Nat)) (fun β w hm => M0 w) ?_ | refine yK (.int .i64 (vb : Nat)) (fun β w hm => M1 w) ?_ | refine yK (.int .i64 (vc : Nat)) (fun β w hm => M2 w) ?_ | refine yK (.int .i64 D) (fun β w hm => hD w) ?_ | ((with_reducible show ∃ _ : SV, _); first | refine yN (j := 0) Tryz.underlying121 Tryz.sizeOf9 ?_ | refine yN (j := 1) Tryz.underlying121 Tryz.sizeOf9 ?_ | refine yN (j := 2) Tryz.underlying121 Tryz.sizeOf9 ?_ | refine yO (v := .str a) (x_loadF 1 (.str a) (fun w => Tryz.isAgg9 w) rfl (fun β => hx0)) ?_ | refine yO (v := .str b) (x_loadF 1 (.str b) (fun w => Tryz.isAgg9 w) rfl (fun β => hx1)) ?_ | refine yO (v := .str c) (x_loadF 1 (.str c) (fun w => Tryz.isAgg9 w) rfl (fun β => hx2)) ?_ | (refine ⟨.int .i64 (va : Nat), by kernel_rfl, trivial, fun β w hm => M0 w, ?_⟩) | (refine ⟨.int .i64 (vb : Nat), by kernel_rfl, trivial, fun β w hm => M1 w, ?_⟩) | (refine ⟨.int .i64 (vc : Nat), by kernel_rfl, trivial, fun β w hm => M2 w, ?_⟩) | (refine ⟨.int .i64 D, by kernel_rfl, trivial, fun β w hm => hD w, ?_⟩)) | exact trivial)
  all_goals first | exact hI _ () (by exact yW) | trace_state
 ·repeat' (first | refine yX ?_ | (apply And.intro <;> intro _) | apply bothI | refine retB fun β => ?_ | intro βe | (refine callFr .i64 10 ⟨m0, n0, e0⟩ hw0 (by kernel_rfl) rfl (fun β w' hm => W w' hm.below) (fun a1 c1 a2 c2 hc1 => ?_)) | exact trivial)
  all_goals first | (refine ret fun β w' hm => ?_; exact ⟨⟨m0, n0, e0, a1, c1, a2, c2⟩, rfl, rfl, hc1, Ls2 (ySl hm) (yFr hm) (ySl hm) (yFr hm), hm.below⟩) | trace_state
end
theorem VaP.ad_cnt (g : List UInt8) (n : Nat) (h0 : 0 < n) : VaP.cntP g n = true ↔ g.length = n ∧ VaP.adP g = true := by
 unfold VaP.cntP VaP.adP
 cases g with
 | nil => simp; omega
 | cons x g => simp [and_comm]
theorem redate_any (s : List UInt8) (w : World) (hw0 : 0 < w.heap.size) (hl : s.length ≤ 40000) : RReads 65 s (VaP.dateO s) w := by
 have hS := fun (w' : World) => rsplit_any 45 s w' (by omega)
 have hlen := split_len 45 s
 unfold VaP.dateO
 by_cases h3 : (VaP.splitC 45 s).length = 3
 ·match hsp : VaP.splitC 45 s, h3 with
  | [a, b, c], _ =>
    rw [hsp] at hS hlen
    have la := hlen a (by simp)
    have lb := hlen b (by simp)
    have lc := hlen c (by simp)
    have hv : VaP.dateV s = if VaP.cntP a 4 = true ∧ VaP.cntP b 2 = true ∧ VaP.cntP c 2 = true then VaP.dayV (ExP.valS a : Nat) (ExP.valS b : Nat) (ExP.valS c : Nat) else 0 := by
     unfold VaP.dateV
     rw [hsp]
    have hA : ∀ g ∈ [a, b, c], ∀ w' : World, QC 127 #[.string (bstr g)] w' (.bool (VaP.adP g)) := fun g hg w' => allDigits_any g w' (by
     have := hlen g hg
     omega)
    have c1 := VaP.ad_cnt a 4 (by omega)
    have c2 := VaP.ad_cnt b 2 (by omega)
    have c3 := VaP.ad_cnt c 2 (by omega)
    by_cases hc : a.length = 4 ∧ b.length = 2 ∧ c.length = 2 ∧ VaP.adP a = true ∧ VaP.adP b = true ∧ VaP.adP c = true
    ·rw [if_pos ⟨c1.2 ⟨hc.1, hc.2.2.2.1⟩, c2.2 ⟨hc.2.1, hc.2.2.2.2.1⟩, c3.2 ⟨hc.2.2.1, hc.2.2.2.2.2⟩⟩] at hv
     have hb := VaP.dayV_le (ExP.valS a : Nat) (ExP.valS b : Nat) (ExP.valS c : Nat)
     have hm : ∀ g ∈ [a, b, c], ∀ w' : World, QC 132 #[.string (bstr g)] w' (.int .i64 (ExP.valS g : Nat)) := fun g hg w' => by
      have had : VaP.adP g = true ∧ g.length ≤ 9 := by
       simp only [List.mem_cons, List.not_mem_nil, or_false] at hg
       rcases hg with rfl | rfl | rfl
       ·exact ⟨hc.2.2.2.1, by omega⟩
       ·exact ⟨hc.2.2.2.2.1, by omega⟩
       ·exact ⟨hc.2.2.2.2.2, by omega⟩
      have had2 : g.all ExP.digC = true := by
       have := had.1
       unfold VaP.adP at this
       simp only [Bool.and_eq_true] at this
       exact this.2
      exact small9_any g w' had.2 had2
     refine ⟨ExP.wholeN (VaP.dateV s), fun x hx => ?_, fun w' hbw => ?_⟩
     ·split at hx
      ·rename_i h0
       cases hx
       unfold ExP.wholeN
       rw [decide_eq_false (by omega)]
       congr 1
       omega
      ·cases hx
     ·have := rdate_ok s [a, b, c] w' (Nat.lt_of_lt_of_le hw0 hbw.size) hS a b c rfl hA (VaP.dateV s) (by rw [hv]; omega) hm (fun w2 => by rw [hv]; exact rday_any _ _ _ w2) hc
      by_cases h0 : 0 < VaP.dateV s
      ·rw [if_pos h0]; rw [decide_eq_true h0] at this; exact this
      ·rw [if_neg h0]; rw [decide_eq_false h0] at this; exact this
    ·rw [if_neg (fun h => hc ⟨(c1.1 h.1).1, (c2.1 h.2.1).1, (c3.1 h.2.2).1, (c1.1 h.1).2, (c2.1 h.2.1).2, (c3.1 h.2.2).2⟩)] at hv
     rw [hv, if_neg (by omega)]
     exact ⟨⟨false, 0, 0⟩, (fun x h => by cases h), fun w' hbw => rdate_bad s [a, b, c] w' (Nat.lt_of_lt_of_le hw0 hbw.size) hS a b c rfl hA hc⟩
 ·have hv : VaP.dateV s = 0 := by
   unfold VaP.dateV
   split
   ·rename_i h; rw [h] at h3; exact absurd rfl h3
   ·rfl
  rw [hv, if_neg (by omega)]
  exact ⟨⟨false, 0, 0⟩, (fun x h => by cases h), fun w' hbw => rdate_len s _ w' (Nat.lt_of_lt_of_le hw0 hbw.size) hS h3⟩
theorem remix_any (s : List UInt8) (w : World) (hw0 : 0 < w.heap.size) (hl : s.length ≤ 40000) : RReads 64 s (VaP.mixV s) w := by
 rw [VaP.mixV_eq]
 have hM := fun (w' : World) => has_any s 45 w' (by omega)
 have hm : (s.head? == some 45) = (ExP.cutM s).2 ∧ ((ExP.cutM s).2 = true → List.drop 1 s = (ExP.cutM s).1 ∧ 1 ≤ s.length) ∧ ((ExP.cutM s).2 = false → s = (ExP.cutM s).1) := by
  unfold ExP.cutM
  by_cases h : s.head? = some 45
  ·rw [if_pos h]
   refine ⟨by rw [h]; rfl, fun _ => ⟨by simp, ?_⟩, fun h => by cases h⟩
   cases s with
   | nil => cases h
   | cons c r => simp
  ·rw [if_neg h]
   exact ⟨by simpa using h, fun h => (by cases h), fun _ => rfl⟩
 obtain ⟨hm1, hm2, hm3⟩ := hm
 rw [hm1] at hM
 have htl := ExP.cutM_len s
 unfold VaP.mixR
 generalize (ExP.cutM s).2 = m at *
 generalize (ExP.cutM s).1 = t at *
 have hs1 : m = true → 1 ≤ s.length := fun h => (hm2 h).2
 have ht1 : m = true → List.drop 1 s = t := fun h => (hm2 h).1
 clear hm2 hm1
 have hS := fun (w' : World) => rsplit_any 32 t w' (by omega)
 have hlen := split_len 32 t
 by_cases h2 : (VaP.splitC 32 t).length = 2
 ·match hsp : VaP.splitC 32 t, h2 with
  | [wd, rr], _ =>
    rw [hsp] at hS hlen
    have lw := hlen wd (by simp)
    have lr := hlen rr (by simp)
    have hS2 := fun (w' : World) => rsplit_any 47 rr w' (by omega)
    have hlen2 := split_len 47 rr
    dsimp only
    by_cases h3 : (VaP.splitC 47 rr).length = 2
    ·match hsp2 : VaP.splitC 47 rr, h3 with
     | [a, b], _ =>
       rw [hsp2] at hS2 hlen2
       have la := hlen2 a (by simp)
       have lb := hlen2 b (by simp)
       dsimp only
       have hA : ∀ g ∈ [wd, a, b], ∀ w' : World, QC 127 #[.string (bstr g)] w' (.bool (VaP.adP g)) := fun g hg w' => allDigits_any g w' (by
        simp only [List.mem_cons, List.not_mem_nil, or_false] at hg
        rcases hg with rfl | rfl | rfl <;> omega)
       have nat : ∀ g, VaP.wh g = true → ∀ w' : World, Calls Tryz.prog 130 #[.string (bstr g)] w' (NatOut .i64 10 (ExP.valS g) w') := fun g hg w' => by
        obtain ⟨-, g1, g2⟩ := VaP.wh_parts hg
        exact natOf_any g w' (by omega) g1
       have nd1 : ExP.nd 10 1 ≤ 1000000 := by rw [ExP.nd_one (by omega)]; omega
       have ndg : ∀ g, VaP.wh g = true → ExP.nd 10 (ExP.valS g) ≤ 1000000 := fun g hg => by
        obtain ⟨-, g1, g2⟩ := VaP.wh_parts hg
        have := ExP.nd_text g1 g2
        omega
       obtain ⟨V, hV⟩ : ∃ V, VaP.mixG m wd a b = V := ⟨_, rfl⟩
       rw [hV]
       unfold VaP.mixG at hV
       refine ⟨if VaP.wh wd = true ∧ VaP.wh a = true ∧ VaP.wh b = true ∧ ExP.valS b ≠ 0 then ⟨m, ExP.valS wd * ExP.valS b + ExP.valS a, ExP.valS b⟩ else ⟨false, 0, 0⟩, fun x hx => ?_, fun w' hb => ?_⟩
       ·rw [hx] at hV
        split at hV
        ·rename_i h; rw [if_pos h]; cases hV; rfl
        ·cases hV
       ·refine rmix_main s t m _ w' (Nat.lt_of_lt_of_le hw0 hb.size) hs1 hM ht1 hm3 hS wd rr rfl _ hS2 a b rfl hA _ _ (fun h => ?_) (nat b) (fun h hz => ?_) (nat a) (nat wd) (ExP.valS wd * ExP.valS b + ExP.valS a) (ExP.valS b) (fun h hz => ?_) (fun h hz x y w2 hb2 hx hy ex ey => ?_)
        ·have hn : ¬ (VaP.wh wd = true ∧ VaP.wh a = true ∧ VaP.wh b = true ∧ ExP.valS b ≠ 0) := fun h' => h ⟨h'.1, h'.2.1, h'.2.2.1⟩
         rw [if_neg hn] at hV ⊢
         rw [← hV]; exact ⟨rfl, rfl⟩
        ·have hn : ¬ (VaP.wh wd = true ∧ VaP.wh a = true ∧ VaP.wh b = true ∧ ExP.valS b ≠ 0) := fun h' => h'.2.2.2 hz
         rw [if_neg hn] at hV ⊢
         rw [← hV]; exact ⟨rfl, rfl⟩
        ·have hy : VaP.wh wd = true ∧ VaP.wh a = true ∧ VaP.wh b = true ∧ ExP.valS b ≠ 0 := ⟨h.1, h.2.1, h.2.2, hz⟩
         rw [if_pos hy] at hV ⊢
         rw [← hV]; exact ⟨rfl, rfl⟩
        ·have := radd_any x y w2 (Nat.lt_of_lt_of_le (Nat.lt_of_lt_of_le hw0 hb.size) hb2.size) hx hy (by show ExP.nd 10 x.num.n ≤ _; rw [ex]; exact ndg wd h.1) (by show ExP.nd 10 x.num.d ≤ _; rw [ex]; exact nd1) (by show ExP.nd 10 y.num.n ≤ _; rw [ey]; exact ndg a h.2.1) (by show ExP.nd 10 y.num.d ≤ _; rw [ey]; exact ndg b h.2.2)
         rw [ex, ey] at this
         have e : ExP.sumN ⟨false, ExP.valS wd, 1⟩ ⟨false, ExP.valS a, ExP.valS b⟩ = ⟨false, ExP.valS wd * ExP.valS b + ExP.valS a, ExP.valS b⟩ := by
          unfold ExP.sumN
          rw [if_pos rfl]
          simp
         rw [e] at this
         exact this
    ·split
     ·rename_i h; rw [h] at h3; exact absurd rfl h3
     ·exact ⟨⟨false, 0, 0⟩, (fun x h => by cases h), fun w' hb => rmix_len2 s t m _ w' (Nat.lt_of_lt_of_le hw0 hb.size) hs1 hM ht1 hm3 hS wd rr rfl _ hS2 h3⟩
 ·split
  ·rename_i h; rw [h] at h2; exact absurd rfl h2
  ·exact ⟨⟨false, 0, 0⟩, (fun x h => by cases h), fun w' hb => rmix_len s t m _ w' (Nat.lt_of_lt_of_le hw0 hb.size) hs1 hM ht1 hm3 hS h2⟩
section
variable (s : List UInt8) (l : List (List UInt8)) (w : World) (hw0 : 0 < w.heap.size)
 (hS : ∀ w' : World, Calls Tryz.prog 126 #[.string (bstr s), .int .u8 58] w' (fun e w'' => BW w' w'' ∧ ∃ t : Nat × Nat, e = .returned (.slice (some ⟨t.1, 0, none⟩) (l).length t.2) ∧ ∀ q ∈ [((some ⟨t.1, 0, none⟩ : Option Addr), strV l)], SlAt q.1 q.2 w'' ∧ FreshX q.1 q.2 w'))
include hw0 hS
theorem rtime_len (h : l.length < 2 ∨ 3 < l.length) : Calls Tryz.prog 66 #[.string (bstr s)] w (FrOutB .i64 10 ⟨false, 0, 0⟩ false w) := by
 generalize hn : l.length = n at *
 generalize strV l = xs at *
 refine yE Tryz.func66 rfl Tryz.results66 Tryz.ntmps66 [] [300004] [.str s] w ?_
 repeat' (first | refine yX ?_ | (apply And.intro <;> intro _) | apply bothI | refine retB fun β => ?_ | intro βe | (refine callSls (T := Nat × Nat) (fun t => .any (.slice (some ⟨t.1, 0, none⟩) n t.2)) (fun t => [(some ⟨t.1, 0, none⟩, xs)]) hw0 (by kernel_rfl) rfl (fun _ => rfl) (fun β w' hm => hS w') (fun p _ => ?_)) | refine yO (x_len Tryz.underlying121) ?_ | exact trivial)
 all_goals first | (exfalso; omega) | (refine ret fun β w' hm => ?_; exact ⟨⟨false, 0, 0, none, 0, none, 0⟩, by simp [FrV.val, ExP.nd_zero, SV.den, SV.dens], rfl, FrCap0, Ls0, hm.below⟩) | trace_state
variable (a b : List UInt8) (hl : l.length = 2 ∨ l.length = 3) (hx0 : (strV l)[0]? = some (.string (bstr a))) (hx1 : (strV l)[1]? = some (.string (bstr b)))
 (A0 : ∀ w' : World, QC 127 #[.string (bstr a)] w' (.bool (VaP.adP a)))
 (A1 : ∀ w' : World, QC 127 #[.string (bstr b)] w' (.bool (VaP.adP b)))
 (M0 : VaP.adP a = true → a.length ≤ 2 → ∀ w' : World, QC 132 #[.string (bstr a)] w' (.int .i64 (ExP.valS a : Nat)))
 (M1 : VaP.adP b = true → b.length = 2 → ∀ w' : World, QC 132 #[.string (bstr b)] w' (.int .i64 (ExP.valS b : Nat)))
include hl hx0 hx1 A0 A1 M0 M1
theorem rtime_hm (h : ¬ (VaP.adP a = true ∧ a.length ≤ 2 ∧ VaP.adP b = true ∧ b.length = 2 ∧ ExP.valS a ≤ 23 ∧ ExP.valS b ≤ 59)) : Calls Tryz.prog 66 #[.string (bstr s)] w (FrOutB .i64 10 ⟨false, 0, 0⟩ false w) := by
 generalize VaP.adP a = D0 at *
 generalize VaP.adP b = D1 at *
 generalize ExP.valS a = va at *
 generalize ExP.valS b = vb at *
 generalize strV l = xs at *
 generalize hn : l.length = n at *
 refine yE Tryz.func66 rfl Tryz.results66 Tryz.ntmps66 [] [300004] [.str s] w ?_
 repeat' (first | refine yX ?_ | (apply And.intro <;> intro _) | apply bothI | refine retB fun β => ?_ | intro βe | (refine callSls (T := Nat × Nat) (fun t => .any (.slice (some ⟨t.1, 0, none⟩) n t.2)) (fun t => [(some ⟨t.1, 0, none⟩, xs)]) hw0 (by kernel_rfl) rfl (fun _ => rfl) (fun β w' hm => hS w') (fun p _ => ?_)) | refine yK (.bool D0) (fun β w hm => A0 w) ?_ | refine yK (.bool D1) (fun β w hm => A1 w) ?_ | refine yK (.int .i64 (va : Nat)) (fun β w hm => M0 (by simpa using (by assumption : (!D0) = false)) (by omega) w) ?_ | refine yK (.int .i64 (vb : Nat)) (fun β w hm => M1 (by simpa using (by assumption : (!D1) = false)) (by omega) w) ?_ | refine yO (x_len Tryz.underlying121) ?_ | refine yN (j := 0) Tryz.underlying121 Tryz.sizeOf9 ?_ | refine yN (j := 1) Tryz.underlying121 Tryz.sizeOf9 ?_ | refine yO (v := .str a) (x_loadF 1 (.str a) (fun w => Tryz.isAgg9 w) rfl (fun β => hx0)) ?_ | refine yO (v := .str b) (x_loadF 1 (.str b) (fun w => Tryz.isAgg9 w) rfl (fun β => hx1)) ?_ | exact trivial)
 all_goals first | (exfalso; omega) | (refine ret fun β w' hm => ?_; exact ⟨⟨false, 0, 0, none, 0, none, 0⟩, by simp [FrV.val, ExP.nd_zero, SV.den, SV.dens], rfl, FrCap0, Ls0, hm.below⟩) | (exfalso; clear hS A0 A1 M0 M1; apply h; refine ⟨?_, ?_, ?_, ?_, ?_, ?_⟩ <;> first | omega | (simp_all; done)) | trace_state
variable (va vb N : Nat) (d0 : VaP.adP a = true) (d1 : VaP.adP b = true) (la : a.length ≤ 2) (lb : b.length = 2) (hva : ExP.valS a = va) (hvb : ExP.valS b = vb) (b0 : va ≤ 23) (b1 : vb ≤ 59)
 (hW : ∀ w' : World, BW w w' → Calls Tryz.prog 78 #[.int .i64 (3600 * (va : Int) + 60 * (vb : Int))] w' (FrOut .i64 10 ⟨false, N, 1⟩ w'))
 (hG : ∀ w' : World, BW w w' → Calls Tryz.prog 78 #[.int .i64 86400] w' (FrOut .i64 10 ⟨false, 86400, 1⟩ w'))
include d0 d1 la lb hva hvb b0 b1 hW hG
theorem rtime_two (h2 : l.length = 2) (hU : ∀ (x y : FrV) (w' : World), BW w w' → FrIn .i64 10 x w' → FrIn .i64 10 y w' → x.num = ⟨false, N, 1⟩ → y.num = ⟨false, 1, 86400⟩ → Calls Tryz.prog 133 #[x.val 10, y.val 10] w' (FrOut .i64 10 ⟨false, N, 86400⟩ w')) : Calls Tryz.prog 66 #[.string (bstr s)] w (FrOutB .i64 10 ⟨false, N, 86400⟩ true w) := by
 have _u := hl
 rw [d0] at A0
 rw [d1] at A1
 replace M0 := M0 d0 la
 replace M1 := M1 d1 lb
 rw [hva] at M0
 rw [hvb] at M1
 generalize hn : l.length = n at *
 refine yE Tryz.func66 rfl Tryz.results66 Tryz.ntmps66 [] [300004] [.str s] w ?_
 repeat' (first | refine yX ?_ | (apply And.intro <;> intro _) | apply bothI | refine retB fun β => ?_ | intro βe | (refine callSls (T := Nat × Nat) (fun t => .any (.slice (some ⟨t.1, 0, none⟩) n t.2)) (fun t => [(some ⟨t.1, 0, none⟩, strV l)]) hw0 (by kernel_rfl) rfl (fun _ => rfl) (fun β w' hm => hS w') (fun p _ => ?_)) | refine yK (.lit true) (fun β w hm => A0 w) ?_ | refine yK (.lit true) (fun β w hm => A1 w) ?_ | refine yK (.int .i64 (va : Nat)) (fun β w hm => M0 w) ?_ | refine yK (.int .i64 (vb : Nat)) (fun β w hm => M1 w) ?_ | refine yO (x_len Tryz.underlying121) ?_ | refine yN (j := 0) Tryz.underlying121 Tryz.sizeOf9 ?_ | refine yN (j := 1) Tryz.underlying121 Tryz.sizeOf9 ?_ | refine yO (v := .str a) (x_loadF 1 (.str a) (fun w => Tryz.isAgg9 w) rfl (fun β => hx0)) ?_ | refine yO (v := .str b) (x_loadF 1 (.str b) (fun w => Tryz.isAgg9 w) rfl (fun β => hx1)) ?_ | exact trivial)
 all_goals first | (exfalso; omega) | skip
 refine stop_reserve 3 hw0 ?_
 refine yJ (T := {t : Option Addr × Nat × Option Addr × Nat // FrCap 10 ⟨false, N, 1, t.1, t.2.1, t.2.2.1, t.2.2.2⟩}) (fun t => ⟨[(2, .ptr 0 0), (4, .any (.slice (some ⟨p.1, 0, none⟩) n p.2)), (5, .ptr 2 0)], [(0, true, .cells 72 [.lit false, .any (.slice none 0 0), .any (.slice none 0 0)]), (1, false, .blob (SlF w.heap.size (some ⟨p.1, 0, none⟩) (strV l))), (2, true, .cells 72 [.bool false, .any (.slice t.1.1 (ExP.nd 10 N) t.1.2.1), .any (.slice t.1.2.2.1 (ExP.nd 10 1) t.1.2.2.2)]), (3, false, .blob (SlF w.heap.size t.1.1 (nv .i64 10 N))), (4, false, .blob (SlF w.heap.size t.1.2.2.1 (nv .i64 10 1)))], 5, 151⟩) [] [200004] [] [200012] (fun I2 hI2 => ?_) (fun t => ?_)
 ·repeat' (first | refine yX ?_ | (apply And.intro <;> intro _) | apply bothI | refine retB fun β => ?_ | intro βe | refine yK (.int .i64 (va : Nat)) (fun β w hm => M0 w) ?_ | refine yK (.int .i64 (vb : Nat)) (fun β w hm => M1 w) ?_ | (refine callFr .i64 10 ⟨false, N, 1⟩ hw0 (by kernel_rfl) rfl (fun β w' hm => hW w' hm.below) (fun a5 c5 a6 c6 hc5 => ?_)) | ((with_reducible show ∃ _ : SV, _); first | refine yN (j := 0) Tryz.underlying121 Tryz.sizeOf9 ?_ | refine yN (j := 1) Tryz.underlying121 Tryz.sizeOf9 ?_ | refine yO (v := .str a) (x_loadF 1 (.str a) (fun w => Tryz.isAgg9 w) rfl (fun β => hx0)) ?_ | refine yO (v := .str b) (x_loadF 1 (.str b) (fun w => Tryz.isAgg9 w) rfl (fun β => hx1)) ?_ | (refine ⟨.int .i64 (va : Nat), by kernel_rfl, trivial, fun β w hm => M0 w, ?_⟩) | (refine ⟨.int .i64 (vb : Nat), by kernel_rfl, trivial, fun β w hm => M1 w, ?_⟩)) | exact trivial)
  all_goals refine back_own 5 2 rfl rfl rfl (Nat.zero_le _) ?_
  all_goals first | refine back_copy (Φ := SlF w.heap.size a5 (nv .i64 10 (N))) 3 5 rfl rfl rfl (Nat.zero_le _) (by kernel_rfl) ?_ | refine back_copy (Φ := SlF w.heap.size a5 (nv .i64 10 (N))) 3 6 rfl rfl rfl (Nat.zero_le _) (by kernel_rfl) ?_ | refine back_copy (Φ := SlF w.heap.size a5 (nv .i64 10 (N))) 3 7 rfl rfl rfl (Nat.zero_le _) (by kernel_rfl) ?_ | refine back_copy (Φ := SlF w.heap.size a5 (nv .i64 10 (N))) 3 8 rfl rfl rfl (Nat.zero_le _) (by kernel_rfl) ?_ | refine back_copy (Φ := SlF w.heap.size a5 (nv .i64 10 (N))) 3 9 rfl rfl rfl (Nat.zero_le _) (by kernel_rfl) ?_ | refine back_copy (Φ := SlF w.heap.size a5 (nv .i64 10 (N))) 3 10 rfl rfl rfl (Nat.zero_le _) (by kernel_rfl) ?_ | refine back_copy (Φ := SlF w.heap.size a5 (nv .i64 10 (N))) 3 11 rfl rfl rfl (Nat.zero_le _) (by kernel_rfl) ?_
  all_goals first | refine back_copy (Φ := SlF w.heap.size a6 (nv .i64 10 (1))) 4 5 rfl rfl rfl (Nat.zero_le _) (by kernel_rfl) ?_ | refine back_copy (Φ := SlF w.heap.size a6 (nv .i64 10 (1))) 4 6 rfl rfl rfl (Nat.zero_le _) (by kernel_rfl) ?_ | refine back_copy (Φ := SlF w.heap.size a6 (nv .i64 10 (1))) 4 7 rfl rfl rfl (Nat.zero_le _) (by kernel_rfl) ?_ | refine back_copy (Φ := SlF w.heap.size a6 (nv .i64 10 (1))) 4 8 rfl rfl rfl (Nat.zero_le _) (by kernel_rfl) ?_ | refine back_copy (Φ := SlF w.heap.size a6 (nv .i64 10 (1))) 4 9 rfl rfl rfl (Nat.zero_le _) (by kernel_rfl) ?_ | refine back_copy (Φ := SlF w.heap.size a6 (nv .i64 10 (1))) 4 10 rfl rfl rfl (Nat.zero_le _) (by kernel_rfl) ?_ | refine back_copy (Φ := SlF w.heap.size a6 (nv .i64 10 (1))) 4 11 rfl rfl rfl (Nat.zero_le _) (by kernel_rfl) ?_
  all_goals exact hI2 _ ⟨(a5, c5, a6, c6), hc5⟩ (by dsimp only; ((with_reducible show wk _ _); repeat' (first | exact trivial | exact eqSV_refl _ | refine eqI ?_ | refine eqS ?_ | apply And.intro | exact yV | fail)); all_goals exact fun b x h => h)
 obtain ⟨⟨ta, tc, tb, te⟩, hct⟩ := t
 dsimp only at hct ⊢
 repeat' (first | refine yX ?_ | (apply And.intro <;> intro _) | apply bothI | refine retB fun β => ?_ | intro βe | (refine callFr .i64 10 ⟨false, 86400, 1⟩ hw0 (by kernel_rfl) rfl (fun β w' hm => hG w' hm.below) (fun a7 c7 a8 c8 hc7 => ?_)) | refine yK (.agg [.bool false, .any (.slice a8 (ExP.nd 10 1) c8), .any (.slice a7 (ExP.nd 10 86400) c7)]) (fun β w hm => rinv_any false a7 a8 _ _ _ _ w) ?_ | (refine callFr .i64 10 ⟨false, N, 86400⟩ hw0 (by kernel_rfl) rfl (fun β w' hm => hU ⟨false, N, 1, ta, tc, tb, te⟩ ⟨false, 1, 86400, a8, c8, a7, c7⟩ w' hm.below (FrIn.of (ySl hm) (ySl hm) hct) (FrIn.of (ySl hm) (ySl hm) ⟨hc7.2, hc7.1, hc7.4, hc7.3⟩) rfl rfl) (fun ra rc rb re hcr => ?_)) | refine yO (x_len Tryz.underlying121) ?_ | exact trivial)
 all_goals first | (exfalso; omega) | (refine ret fun β w' hm => ?_; exact ⟨⟨false, N, 86400, ra, rc, rb, re⟩, rfl, rfl, hcr, Ls2 (ySl hm) (yFr hm) (ySl hm) (yFr hm), hm.below⟩) | trace_state
variable (c x : List UInt8) (l2 : List (List UInt8)) (h3 : l.length = 3) (hx2 : (strV l)[2]? = some (.string (bstr c)))
 (hS2 : ∀ w' : World, Calls Tryz.prog 126 #[.string (bstr c), .int .u8 46] w' (fun e w'' => BW w' w'' ∧ ∃ t : Nat × Nat, e = .returned (.slice (some ⟨t.1, 0, none⟩) (l2).length t.2) ∧ ∀ q ∈ [((some ⟨t.1, 0, none⟩ : Option Addr), strV l2)], SlAt q.1 q.2 w'' ∧ FreshX q.1 q.2 w'))
 (hl2 : 1 ≤ l2.length) (hy0 : (strV l2)[0]? = some (.string (bstr x)))
 (A2 : ∀ w' : World, QC 127 #[.string (bstr x)] w' (.bool (VaP.adP x)))
 (M2 : VaP.adP x = true → x.length = 2 → ∀ w' : World, QC 132 #[.string (bstr x)] w' (.int .i64 (ExP.valS x : Nat)))
 (q : List UInt8) (hy1 : l2.length = 2 → (strV l2)[1]? = some (.string (bstr q)))
 (A3 : ∀ w' : World, QC 127 #[.string (bstr q)] w' (.bool (VaP.adP q)))
include h3 hx2 hS2 hl2 hy0 A2 M2 hy1 A3
theorem rtime_sec (h : ¬ (l2.length ≤ 2 ∧ x.length = 2 ∧ VaP.adP x = true ∧ ExP.valS x ≤ 59 ∧ (l2.length = 2 → VaP.adP q = true ∧ q.length ≤ 9))) : Calls Tryz.prog 66 #[.string (bstr s)] w (FrOutB .i64 10 ⟨false, 0, 0⟩ false w) := by
 have _u := And.intro hl hG
 rw [d0] at A0
 rw [d1] at A1
 replace M0 := M0 d0 la
 replace M1 := M1 d1 lb
 rw [hva] at M0
 rw [hvb] at M1
 generalize hn : l.length = n at *
 refine yE Tryz.func66 rfl Tryz.results66 Tryz.ntmps66 [] [300004] [.str s] w ?_
 repeat' (first | refine yX ?_ | (apply And.intro <;> intro _) | apply bothI | refine retB fun β => ?_ | intro βe | (refine callSls (T := Nat × Nat) (fun t => .any (.slice (some ⟨t.1, 0, none⟩) n t.2)) (fun t => [(some ⟨t.1, 0, none⟩, strV l)]) hw0 (by kernel_rfl) rfl (fun _ => rfl) (fun β w' hm => hS w') (fun p _ => ?_)) | refine yK (.lit true) (fun β w hm => A0 w) ?_ | refine yK (.lit true) (fun β w hm => A1 w) ?_ | refine yK (.int .i64 (va : Nat)) (fun β w hm => M0 w) ?_ | refine yK (.int .i64 (vb : Nat)) (fun β w hm => M1 w) ?_ | refine yO (x_len Tryz.underlying121) ?_ | refine yN (j := 0) Tryz.underlying121 Tryz.sizeOf9 ?_ | refine yN (j := 1) Tryz.underlying121 Tryz.sizeOf9 ?_ | refine yO (v := .str a) (x_loadF 1 (.str a) (fun w => Tryz.isAgg9 w) rfl (fun β => hx0)) ?_ | refine yO (v := .str b) (x_loadF 1 (.str b) (fun w => Tryz.isAgg9 w) rfl (fun β => hx1)) ?_ | exact trivial)
 all_goals first | (exfalso; omega) | skip
 refine stop_reserve 3 hw0 ?_
 refine yJ (T := {t : Option Addr × Nat × Option Addr × Nat // FrCap 10 ⟨false, N, 1, t.1, t.2.1, t.2.2.1, t.2.2.2⟩}) (fun t => ⟨[(2, .ptr 0 0), (4, .any (.slice (some ⟨p.1, 0, none⟩) n p.2)), (5, .ptr 2 0)], [(0, true, .cells 72 [.lit false, .any (.slice none 0 0), .any (.slice none 0 0)]), (1, false, .blob (SlF w.heap.size (some ⟨p.1, 0, none⟩) (strV l))), (2, true, .cells 72 [.bool false, .any (.slice t.1.1 (ExP.nd 10 N) t.1.2.1), .any (.slice t.1.2.2.1 (ExP.nd 10 1) t.1.2.2.2)]), (3, false, .blob (SlF w.heap.size t.1.1 (nv .i64 10 N))), (4, false, .blob (SlF w.heap.size t.1.2.2.1 (nv .i64 10 1)))], 5, 151⟩) [] [200004] [] [] (fun I2 hI2 => ?_) (fun t => ?_)
 ·repeat' (first | refine yX ?_ | (apply And.intro <;> intro _) | apply bothI | refine retB fun β => ?_ | intro βe | refine yK (.int .i64 (va : Nat)) (fun β w hm => M0 w) ?_ | refine yK (.int .i64 (vb : Nat)) (fun β w hm => M1 w) ?_ | (refine callFr .i64 10 ⟨false, N, 1⟩ hw0 (by kernel_rfl) rfl (fun β w' hm => hW w' hm.below) (fun a5 c5 a6 c6 hc5 => ?_)) | ((with_reducible show ∃ _ : SV, _); first | refine yN (j := 0) Tryz.underlying121 Tryz.sizeOf9 ?_ | refine yN (j := 1) Tryz.underlying121 Tryz.sizeOf9 ?_ | refine yO (v := .str a) (x_loadF 1 (.str a) (fun w => Tryz.isAgg9 w) rfl (fun β => hx0)) ?_ | refine yO (v := .str b) (x_loadF 1 (.str b) (fun w => Tryz.isAgg9 w) rfl (fun β => hx1)) ?_ | (refine ⟨.int .i64 (va : Nat), by kernel_rfl, trivial, fun β w hm => M0 w, ?_⟩) | (refine ⟨.int .i64 (vb : Nat), by kernel_rfl, trivial, fun β w hm => M1 w, ?_⟩)) | exact trivial)
  all_goals refine back_own 5 2 rfl rfl rfl (Nat.zero_le _) ?_
  all_goals first | refine back_copy (Φ := SlF w.heap.size a5 (nv .i64 10 (N))) 3 5 rfl rfl rfl (Nat.zero_le _) (by kernel_rfl) ?_ | refine back_copy (Φ := SlF w.heap.size a5 (nv .i64 10 (N))) 3 6 rfl rfl rfl (Nat.zero_le _) (by kernel_rfl) ?_ | refine back_copy (Φ := SlF w.heap.size a5 (nv .i64 10 (N))) 3 7 rfl rfl rfl (Nat.zero_le _) (by kernel_rfl) ?_ | refine back_copy (Φ := SlF w.heap.size a5 (nv .i64 10 (N))) 3 8 rfl rfl rfl (Nat.zero_le _) (by kernel_rfl) ?_ | refine back_copy (Φ := SlF w.heap.size a5 (nv .i64 10 (N))) 3 9 rfl rfl rfl (Nat.zero_le _) (by kernel_rfl) ?_ | refine back_copy (Φ := SlF w.heap.size a5 (nv .i64 10 (N))) 3 10 rfl rfl rfl (Nat.zero_le _) (by kernel_rfl) ?_ | refine back_copy (Φ := SlF w.heap.size a5 (nv .i64 10 (N))) 3 11 rfl rfl rfl (Nat.zero_le _) (by kernel_rfl) ?_
  all_goals first | refine back_copy (Φ := SlF w.heap.size a6 (nv .i64 10 (1))) 4 5 rfl rfl rfl (Nat.zero_le _) (by kernel_rfl) ?_ | refine back_copy (Φ := SlF w.heap.size a6 (nv .i64 10 (1))) 4 6 rfl rfl rfl (Nat.zero_le _) (by kernel_rfl) ?_ | refine back_copy (Φ := SlF w.heap.size a6 (nv .i64 10 (1))) 4 7 rfl rfl rfl (Nat.zero_le _) (by kernel_rfl) ?_ | refine back_copy (Φ := SlF w.heap.size a6 (nv .i64 10 (1))) 4 8 rfl rfl rfl (Nat.zero_le _) (by kernel_rfl) ?_ | refine back_copy (Φ := SlF w.heap.size a6 (nv .i64 10 (1))) 4 9 rfl rfl rfl (Nat.zero_le _) (by kernel_rfl) ?_ | refine back_copy (Φ := SlF w.heap.size a6 (nv .i64 10 (1))) 4 10 rfl rfl rfl (Nat.zero_le _) (by kernel_rfl) ?_ | refine back_copy (Φ := SlF w.heap.size a6 (nv .i64 10 (1))) 4 11 rfl rfl rfl (Nat.zero_le _) (by kernel_rfl) ?_
  all_goals exact hI2 _ ⟨(a5, c5, a6, c6), hc5⟩ (by dsimp only; ((with_reducible show wk _ _); repeat' (first | exact trivial | exact eqSV_refl _ | refine eqI ?_ | refine eqS ?_ | apply And.intro | exact yV | fail)); all_goals exact fun b x h => h)
 obtain ⟨⟨ta, tc, tb, te⟩, hct⟩ := t
 dsimp only at hct ⊢
 generalize VaP.adP x = D2 at *
 generalize VaP.adP q = D3 at *
 generalize ExP.valS x = vx at *
 by_cases hn2 : l2.length = 2
 ·replace hy1 := hy1 hn2
  repeat' (first | refine yX ?_ | (apply And.intro <;> intro _) | apply bothI | refine retB fun β => ?_ | intro βe | (refine callSls (T := Nat × Nat) (fun t => .any (.slice (some ⟨t.1, 0, none⟩) l2.length t.2)) (fun t => [(some ⟨t.1, 0, none⟩, strV l2)]) hw0 (by kernel_rfl) rfl (fun _ => rfl) (fun β w' hm => hS2 w') (fun p2 _ => ?_)) | refine yK (.bool D2) (fun β w hm => A2 w) ?_ | refine yK (.int .i64 (vx : Nat)) (fun β w hm => M2 (by simpa using (by assumption : (!D2) = false)) (by omega) w) ?_ | refine yK (.bool D3) (fun β w hm => A3 w) ?_ | refine yO (x_len Tryz.underlying121) ?_ | refine yN (j := 0) Tryz.underlying121 Tryz.sizeOf9 ?_ | refine yN (j := 1) Tryz.underlying121 Tryz.sizeOf9 ?_ | refine yN (j := 2) Tryz.underlying121 Tryz.sizeOf9 ?_ | refine yO (v := .str c) (x_loadF 1 (.str c) (fun w => Tryz.isAgg9 w) rfl (fun β => hx2)) ?_ | refine yO (v := .str x) (x_loadF 5 (.str x) (fun w => Tryz.isAgg9 w) rfl (fun β => hy0)) ?_ | refine yO (v := .str q) (x_loadF 5 (.str q) (fun w => Tryz.isAgg9 w) rfl (fun β => hy1)) ?_ | exact trivial)
  all_goals first | (exfalso; omega) | (refine ret fun β w' hm => ?_; exact ⟨⟨false, 0, 0, none, 0, none, 0⟩, by simp [FrV.val, ExP.nd_zero, SV.den, SV.dens], rfl, FrCap0, Ls0, hm.below⟩) | (exfalso; clear hS hS2 A0 A1 A2 A3 M0 M1 M2; apply h; refine ⟨?_, ?_, ?_, ?_, fun _ => ⟨?_, ?_⟩⟩ <;> first | omega | (simp_all; done)) | trace_state
 ·repeat' (first | refine yX ?_ | (apply And.intro <;> intro _) | apply bothI | refine retB fun β => ?_ | intro βe | (refine callSls (T := Nat × Nat) (fun t => .any (.slice (some ⟨t.1, 0, none⟩) l2.length t.2)) (fun t => [(some ⟨t.1, 0, none⟩, strV l2)]) hw0 (by kernel_rfl) rfl (fun _ => rfl) (fun β w' hm => hS2 w') (fun p2 _ => ?_)) | refine yK (.bool D2) (fun β w hm => A2 w) ?_ | refine yK (.int .i64 (vx : Nat)) (fun β w hm => M2 (by simpa using (by assumption : (!D2) = false)) (by omega) w) ?_ | refine yO (x_len Tryz.underlying121) ?_ | refine yN (j := 0) Tryz.underlying121 Tryz.sizeOf9 ?_ | refine yN (j := 1) Tryz.underlying121 Tryz.sizeOf9 ?_ | refine yN (j := 2) Tryz.underlying121 Tryz.sizeOf9 ?_ | refine yO (v := .str c) (x_loadF 1 (.str c) (fun w => Tryz.isAgg9 w) rfl (fun β => hx2)) ?_ | refine yO (v := .str x) (x_loadF 5 (.str x) (fun w => Tryz.isAgg9 w) rfl (fun β => hy0)) ?_ | exact trivial)
  all_goals first | (exfalso; omega) | (refine ret fun β w' hm => ?_; exact ⟨⟨false, 0, 0, none, 0, none, 0⟩, by simp [FrV.val, ExP.nd_zero, SV.den, SV.dens], rfl, FrCap0, Ls0, hm.below⟩) | (exfalso; clear hS hS2 A0 A1 A2 A3 M0 M1 M2; apply h; refine ⟨?_, ?_, ?_, ?_, fun _ => ⟨?_, ?_⟩⟩ <;> first | omega | (simp_all; done)) | trace_state
end
section
variable (s : List UInt8) (p : Nat) (w : World) (hw0 : 0 < w.heap.size) (hl : s.length ≤ 100000) (hp : p ≤ s.length) (h1 : ∀ i, i < p → ¬ ((s.getD i 0).toNat : Int) = 32)
include hw0 hl hp h1
theorem rmom_none (h : p = s.length) : Calls Tryz.prog 67 #[.string (bstr s)] w (FrOutB .i64 10 ⟨false, 0, 0⟩ false w) := by
 have _u := And.intro hw0 hp
 refine yE Tryz.func67 rfl Tryz.results67 Tryz.ntmps67 [] [] [.str s] w ?_
 repeat' (first | refine yX ?_ | (apply And.intro <;> intro _) | apply bothI | refine retB fun β => ?_ | intro βe | exact trivial)
 refine yZ (T := {i : Nat // i ≤ p}) (fun t => ⟨[(0, .str s), (2, .ptr 0 0), (10, .int .i64 (s.length : Nat)), (11, .int .i64 (t.1 : Nat))], [(0, true, .cells 72 [.lit false, .any (.slice none 0 0), .any (.slice none 0 0)])], 1, 45⟩) (fun t => p - t.1) ⟨0, Nat.zero_le _⟩ [] [] (fun t I hI => ?_)
 obtain ⟨i, hi⟩ := t
 dsimp only at hI ⊢
 have hq := (s.getD i 0).toNat_lt
 by_cases hlt : i < p
 ·have hc := h1 i hlt
  repeat' (first | refine yX ?_ | (apply And.intro <;> intro _) | apply bothI | refine retB fun β => ?_ | intro βe | ((with_reducible show ∃ _, _); first | (refine ⟨i, rfl, by omega, ?_⟩)) | exact trivial)
  all_goals first | (exfalso; omega) | (exfalso; exact hc (by assumption)) | (refine hI _ ⟨i + 1, by omega⟩ (by dsimp only; omega) yW; done) | trace_state
 ·repeat' (first | refine yX ?_ | (apply And.intro <;> intro _) | apply bothI | refine retB fun β => ?_ | intro βe | ((with_reducible show ∃ _, _); first | (refine ⟨i, rfl, by omega, ?_⟩)) | exact trivial)
  all_goals first | (exfalso; omega) | (refine ret fun β w' hm => ?_; exact ⟨⟨false, 0, 0, none, 0, none, 0⟩, by simp [FrV.val, ExP.nd_zero, SV.den, SV.dens], rfl, FrCap0, Ls0, hm.below⟩) | trace_state
variable (hps : p < s.length) (h2 : ((s.getD p 0).toNat : Int) = 32) (N1 N2 : ExP.Num) (o1 o2 : Bool)
 (hD : ∀ w' : World, BW w w' → Calls Tryz.prog 65 #[.string (bstr (List.take p s))] w' (FrOutB .i64 10 N1 o1 w'))
 (hT : ∀ w' : World, BW w w' → Calls Tryz.prog 66 #[.string (bstr (List.drop (p + 1) s))] w' (FrOutB .i64 10 N2 o2 w'))
include hps h2 hD hT
theorem rmom_some (P : ExP.Num) (hA : o1 = true → o2 = true → ∀ (x y : FrV) (w' : World), BW w w' → FrIn .i64 10 x w' → FrIn .i64 10 y w' → x.num = N1 → y.num = N2 → Calls Tryz.prog 131 #[x.val 10, y.val 10] w' (FrOut .i64 10 P w')) (hZ : ¬ (o1 = true ∧ o2 = true) → P = ⟨false, 0, 0⟩) : Calls Tryz.prog 67 #[.string (bstr s)] w (FrOutB .i64 10 P (o1 && o2) w) := by
 obtain ⟨m1, n1, d1⟩ := N1
 obtain ⟨m2, n2, d2⟩ := N2
 refine yE Tryz.func67 rfl Tryz.results67 Tryz.ntmps67 [] [] [.str s] w ?_
 repeat' (first | refine yX ?_ | (apply And.intro <;> intro _) | apply bothI | refine retB fun β => ?_ | intro βe | exact trivial)
 refine yZ (T := {i : Nat // i ≤ p}) (fun t => ⟨[(0, .str s), (2, .ptr 0 0), (10, .int .i64 (s.length : Nat)), (11, .int .i64 (t.1 : Nat))], [(0, true, .cells 72 [.lit false, .any (.slice none 0 0), .any (.slice none 0 0)])], 1, 45⟩) (fun t => p - t.1) ⟨0, Nat.zero_le _⟩ [] [] (fun t I hI => ?_)
 obtain ⟨i, hi⟩ := t
 dsimp only at hI ⊢
 have hq := (s.getD i 0).toNat_lt
 by_cases hlt : i < p
 ·have hc := h1 i hlt
  clear hD hT hA
  repeat' (first | refine yX ?_ | (apply And.intro <;> intro _) | apply bothI | refine retB fun β => ?_ | intro βe | ((with_reducible show ∃ _, _); first | (refine ⟨i, rfl, by omega, ?_⟩)) | exact trivial)
  all_goals first | (exfalso; omega) | (exfalso; exact hc (by assumption)) | (refine hI _ ⟨i + 1, by omega⟩ (by dsimp only; omega) yW; done) | trace_state
 ·obtain rfl : i = p := by omega
  clear hI h1
  cases o1 with
  | false =>
    rw [hZ (fun h => by cases h.1)]
    cases o2 with
    | false =>
      repeat' (first | refine yX ?_ | (apply And.intro <;> intro _) | apply bothI | refine retB fun β => ?_ | intro βe | (refine callFrB .i64 10 ⟨m1, n1, d1⟩ false hw0 (by kernel_rfl) rfl (fun β w' hm => hD w' hm.below) (fun a1 c1 a2 c2 hc1 => ?_)) | (refine callFrB .i64 10 ⟨m2, n2, d2⟩ false hw0 (by kernel_rfl) rfl (fun β w' hm => hT w' hm.below) (fun a3 c3 a4 c4 hc2 => ?_)) | ((with_reducible show ∃ _, _); first | (refine ⟨i, rfl, by omega, ?_⟩) | (refine ⟨i + 1, by omega, by omega, ?_⟩)) | exact trivial)
      all_goals first | (exfalso; omega) | (refine ret fun β w' hm => ?_; exact ⟨⟨false, 0, 0, none, 0, none, 0⟩, by simp [FrV.val, ExP.nd_zero, SV.den, SV.dens], rfl, FrCap0, Ls0, hm.below⟩) | trace_state
    | true =>
      repeat' (first | refine yX ?_ | (apply And.intro <;> intro _) | apply bothI | refine retB fun β => ?_ | intro βe | (refine callFrB .i64 10 ⟨m1, n1, d1⟩ false hw0 (by kernel_rfl) rfl (fun β w' hm => hD w' hm.below) (fun a1 c1 a2 c2 hc1 => ?_)) | (refine callFrB .i64 10 ⟨m2, n2, d2⟩ true hw0 (by kernel_rfl) rfl (fun β w' hm => hT w' hm.below) (fun a3 c3 a4 c4 hc2 => ?_)) | ((with_reducible show ∃ _, _); first | (refine ⟨i, rfl, by omega, ?_⟩) | (refine ⟨i + 1, by omega, by omega, ?_⟩)) | exact trivial)
      all_goals first | (exfalso; omega) | (refine ret fun β w' hm => ?_; exact ⟨⟨false, 0, 0, none, 0, none, 0⟩, by simp [FrV.val, ExP.nd_zero, SV.den, SV.dens], rfl, FrCap0, Ls0, hm.below⟩) | trace_state
  | true =>
    cases o2 with
    | false =>
      rw [hZ (fun h => by cases h.2)]
      repeat' (first | refine yX ?_ | (apply And.intro <;> intro _) | apply bothI | refine retB fun β => ?_ | intro βe | (refine callFrB .i64 10 ⟨m1, n1, d1⟩ true hw0 (by kernel_rfl) rfl (fun β w' hm => hD w' hm.below) (fun a1 c1 a2 c2 hc1 => ?_)) | (refine callFrB .i64 10 ⟨m2, n2, d2⟩ false hw0 (by kernel_rfl) rfl (fun β w' hm => hT w' hm.below) (fun a3 c3 a4 c4 hc2 => ?_)) | ((with_reducible show ∃ _, _); first | (refine ⟨i, rfl, by omega, ?_⟩) | (refine ⟨i + 1, by omega, by omega, ?_⟩)) | exact trivial)
      all_goals first | (exfalso; omega) | (refine ret fun β w' hm => ?_; exact ⟨⟨false, 0, 0, none, 0, none, 0⟩, by simp [FrV.val, ExP.nd_zero, SV.den, SV.dens], rfl, FrCap0, Ls0, hm.below⟩) | trace_state
    | true =>
      replace hA := hA rfl rfl
      obtain ⟨m3, n3, d3⟩ := P
      repeat' (first | refine yX ?_ | (apply And.intro <;> intro _) | apply bothI | refine retB fun β => ?_ | intro βe | (refine callFrB .i64 10 ⟨m1, n1, d1⟩ true hw0 (by kernel_rfl) rfl (fun β w' hm => hD w' hm.below) (fun a1 c1 a2 c2 hc1 => ?_)) | (refine callFrB .i64 10 ⟨m2, n2, d2⟩ true hw0 (by kernel_rfl) rfl (fun β w' hm => hT w' hm.below) (fun a3 c3 a4 c4 hc2 => ?_)) | (refine callFr .i64 10 ⟨m3, n3, d3⟩ hw0 (by kernel_rfl) rfl (fun β w' hm => hA ⟨m1, n1, d1, a1, c1, a2, c2⟩ ⟨m2, n2, d2, a3, c3, a4, c4⟩ w' hm.below (FrIn.of (ySl hm) (ySl hm) hc1) (FrIn.of (ySl hm) (ySl hm) hc2) rfl rfl) (fun a5 c5 a6 c6 hc3 => ?_)) | ((with_reducible show ∃ _, _); first | (refine ⟨i, rfl, by omega, ?_⟩) | (refine ⟨i + 1, by omega, by omega, ?_⟩)) | exact trivial)
      all_goals first | (exfalso; omega) | (refine ret fun β w' hm => ?_; exact ⟨⟨m3, n3, d3, a5, c5, a6, c6⟩, rfl, rfl, hc3, Ls2 (ySl hm) (yFr hm) (ySl hm) (yFr hm), hm.below⟩) | trace_state
end
end Go.Proofs.YtdkhkfdenlabaaaGreatDoor
namespace Go.Proofs.YtdkhkfdenlabaaaGreatDoor
open Go.RowKit
open Sym
attribute [local irreducible] Calls Sym.AggEq ExP.nd ExP.dig ExP.upd ExP.writeF ExP.writeE
namespace Sym
end Sym
end Go.Proofs.YtdkhkfdenlabaaaGreatDoor
namespace Go.Proofs.YtdkhkfdenlabaaaGreatDoor
open Go.RowKit
open Sym
attribute [local irreducible] Calls Sym.AggEq ExP.nd ExP.dig ExP.upd ExP.writeF ExP.writeE
theorem VaP.lowC_pick {c : UInt8} {v : Int} (h : ((65 : Int) ≤ c.toNat ∧ (c.toNat : Int) ≤ 90 ∧ v = (c.toNat : Int) + 32) ∨ (¬ ((65 : Int) ≤ c.toNat ∧ (c.toNat : Int) ≤ 90) ∧ v = (c.toNat : Int))) : [Value.int .u8 v] = bvals [VaP.lowC c] := by
 have hc := VaP.lowC_nat c
 rcases h with ⟨h1, h2, rfl⟩ | ⟨h1, rfl⟩
 ·rw [if_pos (by omega)] at hc
  simp [bvals, hc]
 ·rw [if_neg (by omega)] at hc
  simp [bvals, hc]
theorem VaP.low_take {s : List UInt8} {n : Nat} (h : n < s.length) : VaP.low (s.take n) ++ [VaP.lowC (s.getD n 0)] = VaP.low (s.take (n + 1)) := by
 rw [take_next0 s n h]; simp [VaP.low]
theorem rlowV_any (s : List UInt8) (w : World) (hs : s.length ≤ 1000000) : QC 62 #[.string (bstr s)] w (.string (bstr (VaP.low s))) := by
 refine yE Tryz.func62 rfl Tryz.results62 Tryz.ntmps62 [] [] [.str s] w ?_
 repeat' (first | refine yX ?_ | (apply And.intro <;> intro _) | apply bothI | refine retB fun β => ?_ | intro βe | exact trivial)
 refine yZ (T := {r : Nat × List UInt8 // r.1 ≤ s.length ∧ r.2 = VaP.low (s.take r.1)}) (fun t => ⟨[(0, .str s), (3, .str t.1.2), (7, .int .i64 (s.length : Nat)), (8, .int .i64 (t.1.1 : Nat))], [], 0, 29⟩) (fun t => s.length - t.1.1) ⟨(0, []), Nat.zero_le _, rfl⟩ [] [] (fun t I hI => ?_)
 obtain ⟨⟨n, out⟩, hn, hr⟩ := t
 dsimp only at hn hr ⊢
 have hl : out.length ≤ 1000000 := by rw [hr, VaP.low_len]; simp; omega
 have h1 := (s.getD n 0).toNat_lt
 repeat' (first | refine yX ?_ | (apply And.intro <;> intro _) | apply bothI | refine retB fun β => ?_ | intro βe | (refine opx_one rfl rfl Tryz.underlying113 (fun w => Tryz.sizeOf5 w) (fun w => Tryz.zeroValue5 w) rfl (fun g => ?_)) | refine yO (x_bytesStr 0 [VaP.lowC (s.getD n 0)] Tryz.underlying113 Tryz.underlying5 Tryz.underlying9 rfl (VaP.lowC_pick (by omega))) ?_ | ((with_reducible show ∃ _, _); first | (refine ⟨n, rfl, by omega, ?_⟩)) | exact trivial)
 ·refine hI _ ⟨(n + 1, out ++ [VaP.lowC (s.getD n 0)]), by dsimp only; omega, by dsimp only; rw [← VaP.low_take (by omega), hr]⟩ (by dsimp only; omega) yW
 ·refine hI _ ⟨(n + 1, out ++ [VaP.lowC (s.getD n 0)]), by dsimp only; omega, by dsimp only; rw [← VaP.low_take (by omega), hr]⟩ (by dsimp only; omega) yW
 ·refine hI _ ⟨(n + 1, out ++ [VaP.lowC (s.getD n 0)]), by dsimp only; omega, by dsimp only; rw [← VaP.low_take (by omega), hr]⟩ (by dsimp only; omega) yW
 ·rw [hr, List.take_of_length_le (by omega)]; rfl
end Go.Proofs.YtdkhkfdenlabaaaGreatDoor
namespace Go.Proofs.YtdkhkfdenlabaaaGreatDoor
open Go.RowKit
open Sym
theorem ExP.write_25 : ExP.writeE ⟨false, 25, 1⟩ = 0 ∧ ExP.writeE ⟨false, 25, 100⟩ = 0 ∧ ExP.writeF ⟨false, 25, 100⟩ = ([49], [52]) := by
 have h25 : ExP.nd 10 25 ≤ 300 := Nat.le_trans (ExP.nd_le (n := 2) (by omega) (by decide)) (by omega)
 have h100 : ExP.nd 10 100 ≤ 300 := Nat.le_trans (ExP.nd_le (n := 3) (by omega) (by decide)) (by omega)
 have h1 : ExP.nd 10 1 ≤ 300 := by rw [ExP.nd_one (by omega)]; omega
 have a := (ExP.write_ok (x := ⟨false, 25, 1⟩) rfl Nat.one_pos h25 h1).1
 have b := (ExP.write_ok (x := ⟨false, 25, 100⟩) rfl (by decide) h25 h100).1
 refine ⟨a, b, ?_⟩
 have hn : ¬ (⟨false, 25, 100⟩ : ExP.Num).n = 0 := by decide
 have ho : ¬ ExP.overP ⟨false, 25, 100⟩ := fun h => by
  unfold ExP.writeE at b
  rw [if_neg hn, if_pos h] at b; cases b
 unfold ExP.writeF
 rw [if_neg hn, if_neg ho]
 have e1 : ExP.redN ⟨false, 25, 100⟩ = 1 := by decide
 have e2 : ExP.redD ⟨false, 25, 100⟩ = 4 := by decide
 rw [e1, e2, Lib.decDigits_one (by omega), Lib.decDigits_one (by omega)]
 rfl
theorem VaP.num_25 : VaP.numV [50, 53, 37] = some ⟨false, 25, 100⟩ := by
 have h1 : VaP.numV [50, 53, 37] = VaP.numG [50, 53] true := by kernel_rfl
 have h2 : ExP.parE [50, 53] = 0 := by decide +kernel
 have h3 : ExP.decN [50, 53] = ⟨false, 25, 1⟩ := by rfl
 have h4 : ExP.scaleN ⟨false, 25, 1⟩ (-2) = ⟨false, 25, 100⟩ := by rfl
 obtain ⟨a, b, -⟩ := ExP.write_25
 rw [h1]
 unfold VaP.numG
 rw [h2, h3, h4, a, b]
 simp
theorem VaP.txt_25 : VaP.txtE [50, 53, 37] = 0 := by decide +kernel
section
attribute [local irreducible] Calls Sym.AggEq ExP.nd ExP.dig ExP.upd ExP.writeF ExP.writeE VaP.ftext
theorem enter_25 (w : World) (hw : XV w) : Calls Tryz.prog 11 #[.string (bstr [50, 53, 37])] w (IsV (VaP.numF ([49], [52])) w) := by
 obtain ⟨F, hF, hN⟩ := number_any [50, 53, 37] w hw (by decide) (by decide)
 have e := hF _ VaP.num_25
 rw [ExP.write_25.2.2] at e
 subst e
 rw [VaP.num_25] at hN
 have hE : ExP.readE (([49], [52]) : ExP.Fr) = 0 := by decide +kernel
 refine enter_num [50, 53, 37] [50, 53, 37] [49] [52] w hw (by decide) VaP.txt_25 (by decide) (by decide) (fun w' h => vlower_small _ w' (hw.below h).pos (by decide) (by decide)) (by decide) (by decide) ?_ hN (fun w' h => ?_)
 ·intro i h1 h2
  rcases i with _ | _ | _ | _ | _ | _ | _ | _ | _ | i
  all_goals first | (exfalso; omega) | (unfold VaP.ftext; decide)
 ·have := vnumber_any ([49], [52]) w' (hw.below h) (by decide) (by decide)
  rwa [if_pos hE] at this
theorem values_any (w : World) (hw : XV w) : QC 9 #[] w (.bool true) := by
 have N := fun (w' : World) (h : BW w w') => enter_25 w' (hw.below h)
 have S := fun (w' : World) => same_num ([49], [52]) w'
 refine yE Tryz.func9 rfl Tryz.results9 Tryz.ntmps9 [] [] [] w ?_
 repeat' (first | refine yX ?_ | (apply And.intro <;> intro _) | apply bothI | refine retB fun β => ?_ | intro βe | refine yK (.agg [.int .i64 1, .str [49], .str [52], .str [], .lit false, .int .i64 0, .int .i64 0, .int .i64 0, .any (.slice none 0 0)]) (fun β w hm => N w hm.below) ?_ | refine yK (.lit true) (fun β w hm => S w) ?_ | exact trivial)
 all_goals first | rfl | trace_state
end
end Go.Proofs.YtdkhkfdenlabaaaGreatDoor
namespace Go.Proofs.YtdkhkfdenlabaaaGreatDoor
open Go.RowKit
open Sym
attribute [local irreducible] Calls Sym.AggEq ExP.nd ExP.dig ExP.upd ExP.writeF ExP.writeE
theorem rsame_self (x : VaP.VT) (w : World) (hf : x.Fit) (h : x.items = []) : QC 10 #[vtV x none 0, vtV x none 0] w (.bool true) := by
 have := rsame_any x x none none 0 0 w (VIn.flat h hf) (VIn.flat h hf)
 rwa [VaP.same_true.2 rfl] at this
theorem VaP.fit_num {f : ExP.Fr} (h1 : f.1.length ≤ 9223372036854775807) (h2 : f.2.length ≤ 9223372036854775807) : (VaP.numF f).Fit := ⟨h1, h2, by simp [VaP.numF], by simp [VaP.numF]⟩
theorem VaP.fit_fault (c : Int) : (VaP.faultV c).Fit := ⟨by simp [VaP.faultV], by simp [VaP.faultV], by simp [VaP.faultV], by simp [VaP.faultV]⟩
theorem VaP.fit_text {s : List UInt8} (h : s.length ≤ 9223372036854775807) : (VaP.textV s).Fit := by
 unfold VaP.textV
 split
 ·exact ⟨by simp [VaP.rawT], by simp [VaP.rawT], h, by simp [VaP.rawT]⟩
 ·exact VaP.fit_fault 2
theorem VaP.items_text (s : List UInt8) : (VaP.textV s).items = [] := by
 unfold VaP.textV
 split <;> rfl
theorem VaP.fit_bool (b : Bool) : (VaP.boolV b).Fit := ⟨by simp [VaP.boolV], by simp [VaP.boolV], by simp [VaP.boolV], by simp [VaP.boolV]⟩
section
variable (t o : VaP.VT) (a b : Option Addr) (cap cap' : Nat) (n : Int) (w : World) (hw : XV w ∧ XR w) (ht : VIn w t a cap) (ho : VIn w o b cap') (h0 : -9223372036854775808 ≤ n) (h1 : n ≤ 9223372036854775807)
include hw ht ho h0 h1
end
end Go.Proofs.YtdkhkfdenlabaaaGreatDoor
