/- References: the walk of Parse, where the text is divided. -/
import Derived.Test.YtmodjglbjempkaaGreatDoorHRfW12
set_option linter.unusedSimpArgs false
set_option linter.unusedVariables false
namespace Go.Proofs.YtmodjglbjempkaaGreatDoor
open Go.RowKit
set_option maxRecDepth 100000 in
set_option maxHeartbeats 2000000 in
theorem Parse_rest (s : List UInt8) (w : World) (h500 : s.length ≤ 500) (hr : s ≠ RfP.refTxt) : Calls Tryz.prog 39 #[.string (bstr s)] w (RefPost w (RfP.parseP s)) := by
  have hsz := bstr_size s
  have hrf : ((bstr s).toList == [35, 82, 69, 70, 33]) = false := by rw [bstr_list]; exact beq_eq_false_iff_ne.2 hr
  have H := Bx.mk (show RfP.parseP s = if RfP.synP (RfP.titleP s).2.2 (RfP.cutR 58 (RfP.titleP s).2.1).2.2 (RfP.place (RfP.cutR 58 (RfP.titleP s).2.1).1) (bif (RfP.cutR 58 (RfP.titleP s).2.1).2.2 then RfP.place (RfP.cutR 58 (RfP.titleP s).2.1).2.1 else ((RfP.place (RfP.cutR 58 (RfP.titleP s).2.1).1).1, true)) = true then RfP.readP (RfP.titleP s).1 (RfP.cutR 58 (RfP.titleP s).2.1).2.2 (RfP.place (RfP.cutR 58 (RfP.titleP s).2.1).1).1 (bif (RfP.cutR 58 (RfP.titleP s).2.1).2.2 then RfP.place (RfP.cutR 58 (RfP.titleP s).2.1).2.1 else ((RfP.place (RfP.cutR 58 (RfP.titleP s).2.1).1).1, true)).1 else (RfP.zeroR, 10) by
    unfold RfP.parseP; rw [if_neg (by omega), if_neg hr])
  have hs := Bx.mk (fun w => sheet_any s w (by omega) hr)
  clear hr
  have hl1 := RfP.titleP_len s
  generalize RfP.titleP s = t at *
  obtain ⟨t1, t2, t3⟩ := t
  dsimp only at *
  have hl2 := RfP.cutR_len 58 t2
  have hc := Bx.mk (fun w => cut_any t2 58 w (by omega))
  generalize RfP.cutR 58 t2 = u at *
  obtain ⟨u1, u2, two⟩ := u
  dsimp only at *
  have hp1 := Bx.mk (fun w => place_any u1 w (by omega))
  have hp2 := Bx.mk (fun w => place_any u2 w (by omega))
  have hg1 := Bx.mk (RfP.place_good u1)
  have HNE := Bx.mk (fun h => (RfP.place_parts u1 h).2)
  have hg2 := Bx.mk (RfP.place_good u2)
  generalize RfP.place u1 = a at *
  generalize RfP.place u2 = b at *
  obtain ⟨⟨aL, aD, aac, aar⟩, fine⟩ := a
  unfold corC at hp1
  dsimp only at *
  clear hl1 hl2
  go_enter Tryz.func39, Tryz.ntmps39
  go_upto_if 44 with (first
    | (go_at_call 88; refine (hs.out _).mono ?_; rintro e w1 ⟨rfl, hb1⟩)
    | (go_at_call 89; refine (hc.out _).mono ?_; rintro e w2 ⟨rfl, hb2⟩)
    | (go_at_call 90; refine (hp1.out _).mono ?_; rintro e w3 ⟨rfl, hb3⟩))
  have e1 : w.heap.size < w1.heap.size := by have := hb1.size; simp at this; omega
  have e3 : w1.heap.size ≤ w3.heap.size := by have := hb2.size; have := hb3.size; omega
  obtain ⟨W, hW⟩ : ∃ W, (w3.alloc (.cells #[Value.string (bstr aL), Value.string (bstr aD), Value.bool aac, Value.bool aar] 101)).alloc (.cells #[Value.string (bstr aL), Value.string (bstr aD), Value.bool aac, Value.bool aar] 101) = W := ⟨_, rfl⟩
  have HRz : Bx (Row W w.heap.size 35 (refC RfP.zeroR)) := ⟨by
    rw [← hW]
    exact (((((Row.new w 35 _).below hb1 (by simp)).below hb2 (by omega)).below hb3 (by have := hb2.size; omega)).alloc _).alloc _⟩
  have HR10 : Bx (Row W w3.heap.size 101 (corC ⟨aL, aD, aac, aar⟩)) := ⟨by rw [← hW]; exact (Row.new _ _ _).alloc _⟩
  have HR12 : Bx (Row W (w3.heap.size + 1) 101 (corC ⟨aL, aD, aac, aar⟩)) := ⟨by
    have := Row.new (w3.alloc (.cells #[Value.string (bstr aL), Value.string (bstr aD), Value.bool aac, Value.bool aar] 101)) 101 #[Value.string (bstr aL), Value.string (bstr aD), Value.bool aac, Value.bool aar]
    rw [← hW, show corC ⟨aL, aD, aac, aar⟩ = #[Value.string (bstr aL), Value.string (bstr aD), Value.bool aac, Value.bool aar] from rfl]; simpa using this⟩
  have HB : Bx (Below w.heap.size w W) := ⟨by
    rw [← hW]
    exact ((((((Below.refl _ _).alloc (Nat.le_refl _) _).trans (hb1.mono (by simp))).trans (hb2.mono (by omega))).trans (hb3.mono (by have := hb2.size; omega))).alloc (by omega) _).alloc (by simp; omega) _⟩
  have hpl : w.heap.size < w3.heap.size := by omega
  rw [hW]
  clear hW hb1 hb2 hb3 e1 e3 hs hc hp1
  obtain ⟨p, hp⟩ : ∃ p, w3.heap.size = p := ⟨_, rfl⟩
  rw [hp] at HR10 HR12 hpl
  rw [hp]
  clear hp
  go_cut [13] (fun v wx => v = .bool (bif two then b else (⟨aL, aD, aac, aar⟩, true)).2 ∧ Row wx w.heap.size 35 (refC RfP.zeroR) ∧ Row wx p 101 (corC ⟨aL, aD, aac, aar⟩) ∧ Row wx (p + 1) 101 (corC (bif two then b else (⟨aL, aD, aac, aar⟩, true)).1) ∧ Below w.heap.size w wx)
  case first =>
    cases two with
    | false =>
      go_wp2
      go_meet
      exact ⟨rfl, HRz.out, HR10.out, HR12.out, HB.out⟩
    | true =>
      obtain ⟨⟨bL, bD, bac, bar⟩, good⟩ := b
      unfold corC at hp2
      dsimp only at *
      have hl10 := HR10.out.lt
      have hl12 := HR12.out.lt
      go_wp2_with fail
      refine (hp2.out _).mono ?_
      rintro e w4 ⟨rfl, hb4⟩
      dsimp only
      have HR12' : Bx (Row w4 (p + 1) 101 #[Value.string (bstr aL), Value.string (bstr aD), Value.bool aac, Value.bool aar]) := ⟨HR12.out.below hb4 hl12⟩
      have hc12 := fun o => HR12'.out.cell o
      have hf12 := HR12'.out.frozen
      go_wp2
      go_meet
      exact ⟨rfl, ((((HRz.out.below hb4 (by omega)).other (by dsimp only; omega) _).other (by dsimp only; omega) _).other (by dsimp only; omega) _).other (by dsimp only; omega) _,
        ((((HR10.out.below hb4 hl10).other (by dsimp only; omega) _).other (by dsimp only; omega) _).other (by dsimp only; omega) _).other (by dsimp only; omega) _,
        (((HR12'.out.set 0 _).set 1 _).set 2 _).set 3 _, ((((HB.out.trans (hb4.mono HB.out.size)).setCell (by dsimp only; omega) _).setCell (by dsimp only; omega) _).setCell (by dsimp only; omega) _).setCell (by dsimp only; omega) _⟩
  case rest =>
    clear HRz HR10 HR12 HB
    have hg3 : (bif two then b else (⟨aL, aD, aac, aar⟩, true)).2 = true → fine = true → RfP.Good (bif two then b else (⟨aL, aD, aac, aar⟩, true)).1 := by
      cases two
      · intro _ h; exact hg1.out h
      · intro h _; exact hg2.out h
    generalize (bif two then b else ((⟨aL, aD, aac, aar⟩ : RfP.Cor), true)) = c at *
    obtain ⟨⟨cL, cD, cac, car⟩, good⟩ := c
    unfold corC at hcut
    dsimp only at *
    obtain ⟨rfl, hrz, hr10, hr12, hb⟩ := hcut
    have HG3 := Bx.mk hg3; clear hg3 hg2 hp2
    have HRz := Bx.mk hrz; clear hrz
    have HR10 := Bx.mk hr10; clear hr10
    have HR12 := Bx.mk hr12; clear hr12
    have HB := Bx.mk hb; clear hb
    apply_assumption
    obtain ⟨wy, hwy⟩ : ∃ wy : World, wc = wy := ⟨_, rfl⟩
    subst hwy
    have hc10 := fun o => HR10.out.cell o
    have hc12 := fun o => HR12.out.cell o
    have haLe := bstr_emp aL
    have haDe := bstr_emp aD
    have hcLe := bstr_emp cL
    have hcDe := bstr_emp cD
    go_upto_region 11 with fail
    go_cut [14] (fun v wx => v = .bool (!aL.isEmpty && !aD.isEmpty) ∧ wx = wc)
    case first =>
      go_wp2
      all_goals
        go_meet
        refine ⟨?_, rfl⟩
        simp [*]
    case rest =>
      obtain ⟨rfl, rfl⟩ := hcut
      apply_assumption
      obtain ⟨wz, hwz⟩ : ∃ wz : World, wc = wz := ⟨_, rfl⟩
      subst hwz
      have HS := Bx.mk (show RfP.synP t3 two (⟨aL, aD, aac, aar⟩, fine) (⟨cL, cD, cac, car⟩, good) = (t3 && (fine && (good && ((aL.isEmpty == cL.isEmpty) && ((aD.isEmpty == cD.isEmpty) && (two || (!aL.isEmpty && !aD.isEmpty))))))) from rfl)
      have HS2 := Bx.mk (show RfP.synP t3 two (⟨aL, aD, aac, aar⟩, fine) (⟨cL, cD, cac, car⟩, good) = true → fine = true ∧ good = true by
        rw [HS.out]; intro h; simp only [Bool.and_eq_true] at h; exact ⟨h.2.1, h.2.2.1⟩)
      generalize RfP.synP t3 two (⟨aL, aD, aac, aar⟩, fine) (⟨cL, cD, cac, car⟩, good) = syn at *
      obtain ⟨whole, hwhole⟩ : ∃ x : Bool, (!aL.isEmpty && !aD.isEmpty) = x := ⟨_, rfl⟩
      rw [hwhole] at HS ⊢
      have HW := Bx.mk hwhole; clear hwhole
      go_upto_region 12 with fail
      go_cut [93] (fun v wx => v = .bool (!syn) ∧ wx = wc)
      case first =>
        clear HW H HG3 HS2
        generalize aL.isEmpty = x1 at *
        generalize aD.isEmpty = x2 at *
        generalize cL.isEmpty = x3 at *
        generalize cD.isEmpty = x4 at *
        go_wp2
        all_goals
          have HS1 := HS.out
          clear HS haLe haDe hcLe hcDe hc10 hc12
          try simp only [Bool.not_eq_true, Bool.not_eq_true'] at *
          subst_vars
          go_meet
          refine ⟨?_, rfl⟩
          simp_all
      case rest =>
        obtain ⟨rfl, rfl⟩ := hcut
        apply_assumption
        obtain ⟨wy, hwy⟩ : ∃ wy : World, wc = wy := ⟨_, rfl⟩
        subst hwy
        have hcz : ∀ o, wc.cell? ⟨w.heap.size, o, none⟩ = #[Value.string (bstr []), .int .i64 0, .int .i64 0, .int .i64 0, .int .i64 0, .int .i64 0, .bool false, .bool false, .bool false, .bool false][o]? := fun o => HRz.out.cell o
        have hfz := HRz.out.frozen
        go_cut [3] (fun v wx => v = .int .i64 0 ∧ wx = wc ∧ syn = true)
        case first =>
          cases syn with
          | false =>
            have HX := Bx.mk (show RfP.parseP s = (RfP.zeroR, 10) by rw [H.out, if_neg (by simp)])
            clear HS HS2 hg1 HG3 HR10 HR12
            go_wp2
            exact bodyPost_ret (v := .tuple #[.agg #[Value.string { data := #[] }, .int .i64 0, .int .i64 0, .int .i64 0, .int .i64 0, .int .i64 0, .bool false, .bool false, .bool false, .bool false], .int .i64 10]) (by simp [results, Tryz.results39, go_sem, hcz, hfz]) rfl ⟨by rw [HX.out]; rfl, Below.setAllB (Nat.le_refl _) [Value.string { data := #[] }, .int .i64 0, .int .i64 0, .int .i64 0, .int .i64 0, .int .i64 0, .bool false, .bool false, .bool false, .bool false] 0 wc HB.out⟩
          | true =>
            go_wp2
            go_meet
            exact ⟨rfl, rfl, trivial⟩
        case rest =>
          obtain ⟨rfl, rfl, rfl⟩ := hcut
          obtain ⟨hf1, hf2⟩ := HS2.out rfl
          have hga := hg1.out hf1
          have hgc := HG3.out hf2 hf1
          have hne := HNE.out hf1
          have HX := Bx.mk (show RfP.parseP s = RfP.readP t1 two ⟨aL, aD, aac, aar⟩ ⟨cL, cD, cac, car⟩ by rw [H.out, if_pos rfl])
          clear H HS HS2 hg1 HG3 HNE hcz hfz
          apply_assumption
          exact Parse_tail t1 two whole aL aD aac aar cL cD cac car w wc p (RfP.parseP s) hpl HRz HR10 HR12 HB hga hgc hne HW.out HX
end Go.Proofs.YtmodjglbjempkaaGreatDoor
