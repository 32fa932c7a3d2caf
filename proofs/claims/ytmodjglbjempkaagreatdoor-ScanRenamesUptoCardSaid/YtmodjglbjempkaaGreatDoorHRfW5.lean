/- References: the library's functions, and the walk of sheet. -/
import Derived.Test.YtmodjglbjempkaaGreatDoorHWa
import Derived.Test.YtmodjglbjempkaaGreatDoorHShelf
set_option linter.unusedSimpArgs false
set_option linter.unusedVariables false
namespace Go.Proofs.YtmodjglbjempkaaGreatDoor
open Go.RowKit
namespace RfP
theorem cutAt_index (c : UInt8) : ∀ s : Str, match cutAt c s with
    | none => Lib.indexByte s c = -1
    | some p => Lib.indexByte s c = (p.1.length : Int) ∧ s = p.1 ++ c :: p.2
  | [] => rfl
  | d :: r => by
    have ih := cutAt_index c r
    unfold cutAt
    by_cases h : d = c
    · subst h; rw [if_pos rfl]; simp [Lib.indexByte]
    · rw [if_neg h]
      have hb : (d == c) = false := beq_eq_false_iff_ne.2 h
      cases e : cutAt c r with
      | none =>
        rw [e] at ih
        simp only [Option.map_none]
        simp [Lib.indexByte, hb, show Lib.indexByte r c = -1 from ih]
      | some p =>
        rw [e] at ih
        obtain ⟨h1, h2⟩ := ih
        simp only [Option.map_some]
        have hne : (Lib.indexByte r c == -1) = false := by rw [h1]; simp
        refine ⟨?_, by rw [h2]; rfl⟩
        simp only [Lib.indexByte, hb, hne]
        rw [h1]; simp
theorem quoted_step (b : Str) (c : UInt8) (r : Str) (h : c ≠ 39) : quoted b (c :: r) = quoted (b ++ [c]) r := by
  cases r with
  | nil => simp [quoted, h]
  | cons d r => simp [quoted, h]
theorem quoted_two (b r : Str) : quoted b (39 :: 39 :: r) = quoted (b ++ [39]) r := by simp [quoted]
theorem quoted_end (b r : Str) (h : r.head? ≠ some 39) : quoted b (39 :: r) = some (b, r) := by
  cases r with
  | nil => simp [quoted]
  | cons d r => simp [quoted]; intro e; subst e; simp at h
theorem quoted_nil (b : Str) : quoted b [] = none := by simp [quoted]
theorem noPrefix (c d : UInt8) (r : Str) (h : ¬d = c) : Lib.hasPrefix (d :: r) [c] = false := by
  unfold Lib.hasPrefix
  simp [List.isPrefixOf]; intro e; exact h e.symm
theorem cutC_prefix (c : UInt8) (s : Str) : Lib.trimPrefix s [c] = (cutC c s).1 ∧ Lib.hasPrefix s [c] = (cutC c s).2 := by
  cases s with
  | nil => exact ⟨rfl, rfl⟩
  | cons d r =>
    by_cases h : d = c
    · subst h; simp [Lib.trimPrefix, Lib.hasPrefix, cutC]
    · have e : cutC c (d :: r) = (d :: r, false) := by simp [cutC, h]
      rw [e]
      unfold Lib.trimPrefix
      rw [noPrefix c d r h]; simp
theorem headHas (c : UInt8) (s : Str) : Lib.hasPrefix s [c] = (s.head? == some c) := by
  cases s with
  | nil => rfl
  | cons d r =>
    unfold Lib.hasPrefix
    by_cases h : d = c
    · subst h; simp
    · have h' : ¬ c = d := fun e => h e.symm
      simp [List.isPrefixOf, beq_eq_false_iff_ne.2 h, beq_eq_false_iff_ne.2 h']
end RfP
theorem cutPrefix_any (s : List UInt8) (c : UInt8) (w : World) : Calls Tryz.prog 122 #[.string (bstr s), .string (bstr [c])] w fun e w' => e = .returned (.tuple #[.string (bstr (RfP.cutC c s).1), .bool (RfP.cutC c s).2]) ∧ w = w' := by
  refine (Tryz.strings_CutPrefix (bstr s) (bstr [c]) w).mono ?_
  rintro e w' ⟨h, rfl⟩
  refine ⟨?_, rfl⟩
  rw [h, show (bstr s).data.toList = s from rfl, show (bstr [c]).data.toList = [c] from rfl, (RfP.cutC_prefix c s).1, (RfP.cutC_prefix c s).2]; rfl
theorem hasPrefix_any (s : List UInt8) (c : UInt8) (w : World) : Calls Tryz.prog 35 #[.string (bstr s), .string (bstr [c])] w fun e w' => e = .returned (.bool (s.head? == some c)) ∧ w = w' := by
  refine (Tryz.strings_HasPrefix (bstr s) (bstr [c]) w).mono ?_
  rintro e w' ⟨h, rfl⟩
  refine ⟨?_, rfl⟩
  rw [h, show (bstr s).data.toList = s from rfl, show (bstr [c]).data.toList = [c] from rfl, RfP.headHas]
theorem index1_any (s : List UInt8) (c : UInt8) (w : World) : Calls Tryz.prog 142 #[.string (bstr s), .string (bstr [c])] w fun e w' => e = .returned (.int .i64 (Lib.indexByte s c)) ∧ w = w' := by
  refine (Tryz.stringslite_Index_one (bstr s) c w).mono ?_
  rintro e w' ⟨h, rfl⟩
  exact ⟨by rw [h]; rfl, rfl⟩
set_option maxRecDepth 100000 in
theorem scut_any (s : List UInt8) (c : UInt8) (w : World) (hs : s.length ≤ 1000000000) : Calls Tryz.prog 124 #[.string (bstr s), .string (bstr [c])] w fun e w' => e = .returned (.tuple #[.string (bstr (RfP.cutR c s).1), .string (bstr (RfP.cutR c s).2.1), .bool (RfP.cutR c s).2.2]) ∧ ∃ n, w' = w.drewN n := by
  have hsz := bstr_size s
  have hi := RfP.cutAt_index c s
  have H := Bx.mk (show RfP.cutR c s = match RfP.cutAt c s with | none => (s, [], false) | some p => (p.1, p.2, true) from rfl)
  have hc1 : (bstr [c]).size = 1 := rfl
  generalize hC : bstr [c] = C at *
  have HC := Bx.mk hC; clear hC
  cases e : RfP.cutAt c s with
  | none =>
    rw [e] at hi H
    dsimp only at hi H
    go_enter Tryz.func124, Tryz.ntmps124
    go_wp2_with (first | (go_at_call 142; rw [← HC.out]; refine (index1_any _ _ _).mono ?_; rw [hi]; rintro e w' ⟨rfl, rfl⟩))
    go_ret3
    exact ⟨by rw [H.out]; rfl, 0, rfl⟩
  | some p =>
    rw [e] at hi H
    dsimp only at hi H
    obtain ⟨hi1, hi2⟩ := hi
    have hl : p.1.length + 1 ≤ s.length := by rw [hi2]; simp
    have h1 := fun wx => slice_h (P := Tryz.prog) Tryz.underlying9 s (p.1.length : Int) p.1.length rfl (by omega) wx
    have h2 := fun wx => slice_l (P := Tryz.prog) Tryz.underlying9 s ((p.1.length : Int) + 1) (p.1.length + 1) (by omega) hl wx
    rw [show s.take p.1.length = p.1 by rw [hi2, List.take_left]] at h1
    rw [show s.drop (p.1.length + 1) = p.2 by rw [hi2, ← List.drop_drop, List.drop_left]; rfl] at h2
    have HI := Bx.mk hi1; clear hi1 hi2
    go_enter Tryz.func124, Tryz.ntmps124
    go_wp2_with (first | (go_at_call 142; rw [← HC.out]; refine (index1_any _ _ _).mono ?_; rw [HI.out, HC.out]; rintro e w' ⟨rfl, rfl⟩))
    go_quiet (fail)
    go_wp2
    go_ret3
    exact ⟨by rw [H.out]; rfl, nq, rfl⟩
theorem below_drewN {B : Nat} {a w : World} (h : Below B a w) (n : Nat) : Below B a (w.drewN n) := ⟨h.os, h.tape, h.output, h.size, h.block⟩
set_option maxRecDepth 100000 in
theorem cut_any (s : List UInt8) (c : UInt8) (w : World) (hs : s.length ≤ 1000000000) : Calls Tryz.prog 89 #[.string (bstr s), .string (bstr [c])] w fun e w' => e = .returned (.tuple #[.string (bstr (RfP.cutR c s).1), .string (bstr (RfP.cutR c s).2.1), .bool (RfP.cutR c s).2.2]) ∧ Below w.heap.size w w' := by
  go_enter Tryz.func89, Tryz.ntmps89
  go_wp2_with (first | (go_at_call 124; refine (scut_any s c _ hs).mono ?_; rintro e w' ⟨rfl, n, rfl⟩))
  go_ret3
  exact ⟨rfl, below_drewN (Below.refl _ _) n⟩
theorem builder_new (w : World) : Lib.IsBuilderF 85 5 w.heap.size w.heap.size [] (w.alloc (.cells #[.pointer none, .slice none 0 0] 85)) :=
  .inl ⟨Nat.le_refl _, .slice none 0 0, heap_alloc_new _ _, ⟨rfl, .inl ⟨rfl, rfl⟩⟩, by simp [Value.ownBlock]⟩
theorem ret_ssb {a a' b b' : ByteArray} {c c' : Bool} (h1 : a = a') (h2 : b = b') (h3 : c = c') : Ending.returned (.tuple #[.string a, .string b, .bool c]) = .returned (.tuple #[.string a', .string b', .bool c']) := by rw [h1, h2, h3]
theorem pos_emp (b : List UInt8) : decide (0 < b.length) = !b.isEmpty := by cases b <;> simp
set_option maxRecDepth 100000 in
set_option maxHeartbeats 2000000 in
theorem sheet_any (s : List UInt8) (w : World) (hs : s.length ≤ 1000000) (hr : s ≠ RfP.refTxt) : Calls Tryz.prog 88 #[.string (bstr s)] w fun e w' => e = .returned (.tuple #[.string (bstr (RfP.titleP s).1), .string (bstr (RfP.titleP s).2.1), .bool (RfP.titleP s).2.2]) ∧ Below w.heap.size w w' := by
  have hsz := bstr_size s
  have hrf : ((bstr s).toList == [35, 82, 69, 70, 33]) = false := by rw [bstr_list]; exact beq_eq_false_iff_ne.2 hr
  have H := Bx.mk (show RfP.titleP s = if s.head? = some 39 then (match RfP.quoted [] s.tail with | none => ([], [], false) | some (b, r) => (b, (RfP.cutC 33 r).1, (RfP.cutC 33 r).2 && !b.isEmpty)) else match RfP.cutAt 33 s with | none => ([], s, true) | some (a, b) => (a, b, RfP.plain a) from rfl)
  by_cases hh : s.head? = some 39
  · have hb : (s.head? == some 39) = true := by rw [hh]; rfl
    rw [if_pos hh] at H
    have HH := Bx.mk hh; clear hh
    have hpos : 1 ≤ s.length := by
      have := HH.out
      cases s with
      | nil => simp at this
      | cons _ _ => simp
    go_enter Tryz.func88, Tryz.ntmps88
    go_wp2_with (first | (go_at_call 35; refine (hasPrefix_any _ _ _).mono ?_; rw [hb]; rintro e w' ⟨rfl, rfl⟩))
    have HB0 := Bx.mk (builder_new w)
    have HW0 : Bx (Below w.heap.size w (w.alloc (.cells #[.pointer none, .slice none 0 0] 85))) := ⟨(Below.refl _ _).alloc (Nat.le_refl _) _⟩
    go_loopw [9] (fun iv wr => ∃ (k : Nat) (b : List UInt8), 1 ≤ k ∧ k ≤ s.length ∧ iv = .int .i64 (k : Int) ∧ b.length ≤ k ∧ RfP.quoted [] s.tail = RfP.quoted b (s.drop k) ∧ Lib.IsBuilderF 85 5 w.heap.size w.heap.size (Lib.byteCells b) wr ∧ Below w.heap.size w wr) (fun iv _ => s.length - (intOf iv).toNat)
    case atStart => exact ⟨1, [], by omega, hpos, rfl, by simp, by cases s <;> rfl, HB0.out, HW0.out⟩
    case round =>
      clear HB0 HW0
      obtain ⟨k, b, hk1, hk, rfl, hbl, hq, hbu, hbel⟩ := hrel
      have HQ := Bx.mk hq; clear hq
      have HBU := Bx.mk hbu; clear hbu
      have HB := Bx.mk hbel; clear hbel
      have hcl : (Lib.byteCells b).length = b.length := Lib.byteCells_length b
      by_cases hlt : k < s.length
      · have HD := Bx.mk (show s.drop k = s.getD k 0 :: s.drop (k + 1) by rw [List.drop_eq_getElem_cons hlt, List.getD_eq_getElem?_getD, List.getElem?_eq_getElem hlt]; rfl)
        have hat := bstr_at s k (by rw [hsz]; exact hlt)
        generalize s.getD k 0 = c at *
        by_cases hc : c = 39
        · have hcn : ((c.toNat : Int) != 39) = false := by rw [hc]; rfl
          have HC := Bx.mk hc; clear hc
          by_cases h2 : k + 1 < s.length
          · have HD2 := Bx.mk (show s.drop (k + 1) = s.getD (k + 1) 0 :: s.drop (k + 2) by rw [List.drop_eq_getElem_cons h2, List.getD_eq_getElem?_getD, List.getElem?_eq_getElem h2]; rfl)
            have hat2 := bstr_at s (k + 1) (by rw [hsz]; exact h2)
            generalize s.getD (k + 1) 0 = d at *
            by_cases hd : d = 39
            · have hdn : ((d.toNat : Int) == 39) = true := by rw [hd]; rfl
              have HDD := Bx.mk hd; clear hd
              have HQ2 := Bx.mk (show RfP.quoted [] s.tail = RfP.quoted (b ++ [39]) (s.drop (k + 2)) by rw [HQ.out, HD.out, HD2.out, HC.out, HDD.out, RfP.quoted_two])
              go_wp2_with (first | (go_at_call 62; refine (Tryz.Builder_WriteByte_k w.heap.size w.heap.size _ 39 _ HBU.out (by rw [hcl]; omega) HB.out.size).mono ?_; rintro e w1 ⟨rfl, hb1, hb2, _⟩))
              go_roundw
              case rel =>
                refine ⟨k + 2, b ++ [39], by omega, by omega, by go_num, by simp; omega, HQ2.out, ?_, HB.out.trans hb2⟩
                rw [Lib.byteCells_append]; exact .inr hb1
              case measure => simp [intOf] <;> omega
            · have hdn : ((d.toNat : Int) == 39) = false := by
                rw [beq_eq_false_iff_ne]; intro e; exact hd (UInt8.toNat_inj.1 (by rw [show (39 : UInt8).toNat = 39 from rfl]; omega))
              have HE := Bx.mk (show RfP.titleP s = (b, (RfP.cutC 33 (s.drop (k + 1))).1, (RfP.cutC 33 (s.drop (k + 1))).2 && !b.isEmpty) by rw [H.out, HQ.out, HD.out, HC.out, RfP.quoted_end b _ (by rw [HD2.out]; simpa using hd)])
              have hsl := fun wx => slice_l (P := Tryz.prog) Tryz.underlying9 s ((k : Int) + 1) (k + 1) (by omega) (by omega) wx
              clear HQ HD H
              generalize s.drop (k + 1) = r at *
              go_wp2_with (first | (go_at_call 122; refine (cutPrefix_any _ _ _).mono ?_; rintro e w' ⟨rfl, rfl⟩) | (go_at_call 66; refine (Tryz.Builder_String_any_k w.heap.size w.heap.size b _ HBU.out HB.out.size).mono ?_; rintro e w1 ⟨rfl, hb1, hb2, _⟩) | (go_at_call 123; refine (Tryz.Builder_Len_f w.heap.size w.heap.size _ _ hb1).mono ?_; rintro e w2 ⟨rfl, rfl⟩))
              all_goals (first
                | (have hf : (RfP.cutC 33 r).2 = true := by assumption
                   have HF := Bx.mk hf
                   go_ret3
                   exact ⟨ret_ssb (by rw [HE.out]; rfl) (by rw [HE.out]) (by rw [HE.out, pos_emp, HF.out]; rfl), HB.out.trans hb2⟩)
                | (have hf : (RfP.cutC 33 r).2 = false := by simpa using (show ¬ (RfP.cutC 33 r).2 = true by assumption)
                   have HF := Bx.mk hf
                   go_ret3
                   exact ⟨ret_ssb (by rw [HE.out]; rfl) (by rw [HE.out]) (by rw [HE.out, HF.out]; rfl), HB.out.trans hb2⟩))
          · have hk1' : k + 1 = s.length := by omega
            have hdec : decide ((k : Int) + 1 < (s.length : Int)) = false := by simp; omega
            have HE := Bx.mk (show RfP.titleP s = (b, (RfP.cutC 33 (s.drop (k + 1))).1, (RfP.cutC 33 (s.drop (k + 1))).2 && !b.isEmpty) by rw [H.out, HQ.out, HD.out, HC.out, RfP.quoted_end b _ (by rw [List.drop_eq_nil_of_le (by omega)]; simp)])
            have hsl := fun wx => slice_l (P := Tryz.prog) Tryz.underlying9 s ((k : Int) + 1) (k + 1) (by omega) (by omega) wx
            clear HQ HD H
            generalize s.drop (k + 1) = r at *
            go_wp2_with (first | (go_at_call 122; refine (cutPrefix_any _ _ _).mono ?_; rintro e w' ⟨rfl, rfl⟩) | (go_at_call 66; refine (Tryz.Builder_String_any_k w.heap.size w.heap.size b _ HBU.out HB.out.size).mono ?_; rintro e w1 ⟨rfl, hb1, hb2, _⟩) | (go_at_call 123; refine (Tryz.Builder_Len_f w.heap.size w.heap.size _ _ hb1).mono ?_; rintro e w2 ⟨rfl, rfl⟩))
            all_goals (first
              | (have hf : (RfP.cutC 33 r).2 = true := by assumption
                 have HF := Bx.mk hf
                 go_ret3
                 exact ⟨ret_ssb (by rw [HE.out]; rfl) (by rw [HE.out]) (by rw [HE.out, pos_emp, HF.out]; rfl), HB.out.trans hb2⟩)
              | (have hf : (RfP.cutC 33 r).2 = false := by simpa using (show ¬ (RfP.cutC 33 r).2 = true by assumption)
                 have HF := Bx.mk hf
                 go_ret3
                 exact ⟨ret_ssb (by rw [HE.out]; rfl) (by rw [HE.out]) (by rw [HE.out, HF.out]; rfl), HB.out.trans hb2⟩))
        · have hcn : ((c.toNat : Int) != 39) = true := by
            rw [bne_iff_ne]; intro e; exact hc (UInt8.toNat_inj.1 (by rw [show (39 : UInt8).toNat = 39 from rfl]; omega))
          have HS := Bx.mk (RfP.quoted_step b c (s.drop (k + 1)) hc)
          clear hc
          go_wp2_with (first | (go_at_call 62; refine (Tryz.Builder_WriteByte_k w.heap.size w.heap.size _ (c.toNat : Int) _ HBU.out (by rw [hcl]; omega) HB.out.size).mono ?_; rintro e w1 ⟨rfl, hb1, hb2, _⟩))
          go_roundw
          case rel =>
            refine ⟨k + 1, b ++ [c], by omega, by omega, by go_num, by simp; omega, by rw [HQ.out, HD.out, HS.out], ?_, HB.out.trans hb2⟩
            rw [Lib.byteCells_append]; exact .inr hb1
          case measure => simp [intOf] <;> omega
      · obtain rfl : k = s.length := by omega
        rw [List.drop_length, RfP.quoted_nil] at HQ
        rw [HQ.out] at H
        go_wp2
        go_ret3
        exact ⟨by rw [H.out]; rfl, HB.out⟩
  · have hb : (s.head? == some 39) = false := by rw [beq_eq_false_iff_ne]; exact hh
    rw [if_neg hh] at H
    clear hh
    cases e : RfP.cutAt 33 s with
    | none =>
      have e2 : RfP.cutR 33 s = (s, [], false) := by unfold RfP.cutR; rw [e]
      rw [e] at H
      have HE := Bx.mk e2; clear e2 e
      go_enter Tryz.func88, Tryz.ntmps88
      go_wp2_with (first | (go_at_call 35; refine (hasPrefix_any _ _ _).mono ?_; rw [hb]; rintro e w' ⟨rfl, rfl⟩) | (go_at_call 89; refine (cut_any _ _ _ (by omega)).mono ?_; rw [HE.out]; dsimp only; rintro e w' ⟨rfl, hb1⟩))
      go_ret3
      exact ⟨by rw [H.out]; rfl, hb1⟩
    | some p =>
      have e2 : RfP.cutR 33 s = (p.1, p.2, true) := by unfold RfP.cutR; rw [e]
      rw [e] at H
      have hpl : p.1.length ≤ 1000000000 := by
        have := RfP.cutAt_index 33 s
        rw [e] at this
        have h := congrArg List.length this.2
        simp at h; omega
      have HE := Bx.mk e2; clear e2 e
      go_enter Tryz.func88, Tryz.ntmps88
      go_wp2_with (first | (go_at_call 35; refine (hasPrefix_any _ _ _).mono ?_; rw [hb]; rintro e w' ⟨rfl, rfl⟩) | (go_at_call 89; refine (cut_any _ _ _ (by omega)).mono ?_; rw [HE.out]; dsimp only; rintro e w' ⟨rfl, hb1⟩) | (go_at_call 119; refine (Plain_any _ _ (by omega)).mono ?_; rintro e w' ⟨rfl, rfl⟩))
      go_ret3
      exact ⟨by rw [H.out]; rfl, hb1⟩
end Go.Proofs.YtmodjglbjempkaaGreatDoor
