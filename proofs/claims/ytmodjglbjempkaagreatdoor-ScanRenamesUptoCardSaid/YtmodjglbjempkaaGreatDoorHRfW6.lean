/- References: the walk of place. -/
import Derived.Test.YtmodjglbjempkaaGreatDoorHRfW5
import Derived.RegionTactic
import Derived.ChangeAlike
import Derived.BigRegion
set_option linter.unusedSimpArgs false
set_option linter.unusedVariables false
namespace Go.Proofs.YtmodjglbjempkaaGreatDoor
open Go.RowKit
theorem tw_take (p : UInt8 → Bool) : ∀ (s : List UInt8) (k : Nat), (∀ c ∈ s.take k, p c = true) → (∀ c r, s.drop k = c :: r → p c = false) → s.takeWhile p = s.take k ∧ s.dropWhile p = s.drop k
  | [], k, _, _ => by simp
  | c :: r, 0, _, h => by
    have := h c r rfl
    simp [List.takeWhile_cons, List.dropWhile_cons, this]
  | c :: r, k + 1, h1, h2 => by
    have hc := h1 c (by simp)
    obtain ⟨e1, e2⟩ := tw_take p r k (fun d hd => h1 d (by simp [hd])) (fun d q hq => h2 d q (by simpa using hq))
    simp [List.takeWhile_cons, List.dropWhile_cons, hc, e1, e2]
def corC (c : RfP.Cor) : Array Value := #[.string (bstr c.L), .string (bstr c.D), .bool c.ac, .bool c.ar]
theorem drop_cons (s : List UInt8) (k : Nat) (h : k < s.length) : s.drop k = s.getD k 0 :: s.drop (k + 1) := by
  rw [List.drop_eq_getElem_cons h, List.getD_eq_getElem?_getD, List.getElem?_eq_getElem h]; rfl
set_option maxRecDepth 100000 in
set_option maxHeartbeats 4000000 in
theorem place_any (s : List UInt8) (w : World) (hs : s.length ≤ 1000000) : Calls Tryz.prog 90 #[.string (bstr s)] w fun e w' => e = .returned (.tuple #[.agg (corC (RfP.place s).1), .bool (RfP.place s).2]) ∧ Below w.heap.size w w' := by
  have hlen1 : (RfP.cutC 36 s).1.length ≤ 1000000 := by
    cases s with
    | nil => simp [RfP.cutC]
    | cons d r => unfold RfP.cutC; dsimp only; split <;> simp at hs ⊢ <;> omega
  obtain ⟨s1, hs1⟩ : ∃ s1, (RfP.cutC 36 s).1 = s1 := ⟨_, rfl⟩
  obtain ⟨d1, hd1⟩ : ∃ d1, (RfP.cutC 36 s).2 = d1 := ⟨_, rfl⟩
  rw [hs1] at hlen1
  have HS1 := Bx.mk hs1; clear hs1
  have HD1 := Bx.mk hd1; clear hd1
  have hsz1 := bstr_size s1
  go_enter Tryz.func90, Tryz.ntmps90
  go_upto_block 0 with (first | (go_at_call 122; refine (cutPrefix_any _ _ _).mono ?_; rw [HS1.out, HD1.out]; rintro e w' ⟨rfl, rfl⟩))
  have HR2 : Bx (Row ((w.alloc (Obj.cells #[Value.string { data := #[] }, Value.string { data := #[] }, Value.bool false, Value.bool false] 101)).alloc (Obj.cells #[Value.string { data := #[] }, Value.string { data := #[] }, Value.bool d1, Value.bool false] 101)) w.heap.size 101 (corC ⟨[], [], false, false⟩)) := ⟨(Row.new _ _ _).alloc _⟩
  have HR4 : Bx (Row ((w.alloc (Obj.cells #[Value.string { data := #[] }, Value.string { data := #[] }, Value.bool false, Value.bool false] 101)).alloc (Obj.cells #[Value.string { data := #[] }, Value.string { data := #[] }, Value.bool d1, Value.bool false] 101)) (w.heap.size + 1) 101 (corC ⟨s1.take 0, [], d1, false⟩)) := ⟨by
    have := Row.new (w.alloc (Obj.cells #[Value.string { data := #[] }, Value.string { data := #[] }, Value.bool false, Value.bool false] 101)) 101 #[Value.string { data := #[] }, Value.string { data := #[] }, Value.bool d1, Value.bool false]
    rw [show corC ⟨s1.take 0, [], d1, false⟩ = #[Value.string { data := #[] }, Value.string { data := #[] }, Value.bool d1, Value.bool false] from by cases s1 <;> rfl]
    simpa using this⟩
  have HB : Bx (Below w.heap.size w ((w.alloc (Obj.cells #[Value.string { data := #[] }, Value.string { data := #[] }, Value.bool false, Value.bool false] 101)).alloc (Obj.cells #[Value.string { data := #[] }, Value.string { data := #[] }, Value.bool d1, Value.bool false] 101))) := ⟨((Below.refl _ _).alloc (Nat.le_refl _) _).alloc (by simp) _⟩
  go_cut [0] (fun sv wx => ∃ k : Nat, k ≤ s1.length ∧ sv = .string (bstr (s1.drop k)) ∧ (∀ c ∈ s1.take k, RfP.isLetter c = true) ∧ (∀ c r, s1.drop k = c :: r → RfP.isLetter c = false) ∧ Row wx w.heap.size 101 (corC ⟨[], [], false, false⟩) ∧ Row wx (w.heap.size + 1) 101 (corC ⟨s1.take k, [], d1, false⟩) ∧ Below w.heap.size w wx)
  case first =>
    go_wp2_with fail
    go_loopw [0] (fun sv wr => ∃ k : Nat, k ≤ s1.length ∧ sv = .string (bstr (s1.drop k)) ∧ (∀ c ∈ s1.take k, RfP.isLetter c = true) ∧ Row wr w.heap.size 101 (corC ⟨[], [], false, false⟩) ∧ Row wr (w.heap.size + 1) 101 (corC ⟨s1.take k, [], d1, false⟩) ∧ Below w.heap.size w wr) (fun sv _ => match sv with | .string x => x.size | _ => 0)
    case atStart => exact ⟨0, by omega, rfl, by simp, HR2.out, HR4.out, HB.out⟩
    case round =>
      clear HR2 HR4 HB
      obtain ⟨k, hk, rfl, hal, hr2, hr4, hb⟩ := hrel
      have HAL := Bx.mk hal; clear hal
      have HR2 := Bx.mk hr2; clear hr2
      have HR4 := Bx.mk hr4; clear hr4
      have HB := Bx.mk hb; clear hb
      by_cases hlt : k < s1.length
      · have HD := Bx.mk (drop_cons s1 k hlt)
        have HT := Bx.mk (take_next0 s1 k hlt)
        have hlX : (bstr (s1.drop k)).size = s1.length - k := by rw [bstr_size, List.length_drop]
        have hlT : (bstr (s1.take k)).size ≤ k := by rw [bstr_size, List.length_take]; omega
        have he : (!(bstr (s1.drop k)).toList.isEmpty) = true := by rw [bstr_emp, HD.out]; rfl
        have hpos : (0 : Nat) < (bstr (s1.drop k)).size := by omega
        have hat := bstr_at (s1.drop k) 0 hpos
        rw [show (s1.drop k).getD 0 0 = s1.getD k 0 by rw [HD.out]; rfl] at hat
        have hsl := fun wx => slice_l (P := Tryz.prog) Tryz.underlying9 (s1.drop k) 1 1 rfl (by rw [List.length_drop]; omega) wx
        have hsh := fun wx => slice_h (P := Tryz.prog) Tryz.underlying9 (s1.drop k) 1 1 rfl (by rw [List.length_drop]; omega) wx
        rw [List.drop_drop] at hsl
        rw [show (s1.drop k).take 1 = [s1.getD k 0] by rw [HD.out]; rfl] at hsh
        have hadd := bstr_app (s1.take k) [s1.getD k 0]
        rw [← HT.out] at hadd
        have hl1 : (bstr [s1.getD k 0]).size = 1 := rfl
        have hc0 : wr.cell? ⟨w.heap.size + 1, 0, none⟩ = some (.string (bstr (s1.take k))) := HR4.out.cell 0
        have hf0 := HR4.out.frozen 0
        generalize s1.getD k 0 = c at *
        by_cases hL : RfP.isLetter c = true
        · generalize hXX : bstr (s1.drop k) = X at *
          generalize hTT : bstr (s1.take k) = T at *
          clear hXX hTT
          go_wp2_with (first | (go_at_call 125; refine (letter_any _ _).mono ?_; rintro e w' ⟨rfl, rfl⟩))
          go_region
          go_roundw
          case rel =>
            iterate 16 apply Exists.intro
            refine ⟨⟨k + 1, by omega, rfl, fun d hd => ?_, (HR2.out.other (a := ⟨w.heap.size + 1, 0, none⟩) (by simp) _).drew, (HR4.out.set 0 _).drew.same (by rfl), (HB.out.setCell (by simp) _).drew⟩, rfl⟩
            rw [HT.out] at hd
            rcases List.mem_append.1 hd with h | h
            · exact HAL.out d h
            · obtain rfl : d = c := by simpa using h
              exact hL
          case measure => show (bstr (s1.drop (k + 1))).size < X.size; rw [bstr_size, List.length_drop]; omega
        · have hL' : RfP.isLetter c = false := by simpa using hL
          clear hL
          go_wp2_with (first | (go_at_call 125; refine (letter_any _ _).mono ?_; rintro e w' ⟨rfl, rfl⟩))
          go_meet
          exact ⟨k, hk, rfl, HAL.out, fun d r hr => by rw [HD.out] at hr; injection hr with h1 h2; rw [← h1]; exact hL', HR2.out, HR4.out, HB.out⟩
      · obtain rfl : k = s1.length := by omega
        have he : (!(bstr []).toList.isEmpty) = false := by rw [bstr_emp]; rfl
        go_wp2
        go_meet
        exact ⟨s1.length, Nat.le_refl _, by rw [List.drop_length], HAL.out, (fun d r hr => by rw [List.drop_length] at hr; cases hr), HR2.out, HR4.out, HB.out⟩
  case rest =>
    clear HR2 HR4 HB
    obtain ⟨k, hk, rfl, hal, hst, hr2, hr4, hb⟩ := hcut
    obtain ⟨htw, hdw⟩ := tw_take RfP.isLetter s1 k hal hst
    clear hal hst
    have hLl : (s1.take k).length ≤ 1000000 := by rw [List.length_take]; omega
    have hdl : (s1.drop k).length ≤ 1000000 := by rw [List.length_drop]; omega
    rw [← htw] at hr4 hLl
    rw [← hdw] at hdl ⊢
    obtain ⟨L, hL⟩ : ∃ L, s1.takeWhile RfP.isLetter = L := ⟨_, rfl⟩
    obtain ⟨s2, hs2⟩ : ∃ s2, s1.dropWhile RfP.isLetter = s2 := ⟨_, rfl⟩
    rw [hL] at hr4 hLl
    rw [hs2] at hdl ⊢
    have HP := Bx.mk (show RfP.placeC s = (⟨L, (bif L.isEmpty then (s2, false) else RfP.cutC 36 s2).1.takeWhile RfP.isDigit, bif L.isEmpty then false else d1, bif L.isEmpty then d1 else (bif L.isEmpty then (s2, false) else RfP.cutC 36 s2).2⟩, (bif L.isEmpty then (s2, false) else RfP.cutC 36 s2).1.dropWhile RfP.isDigit) by
      unfold RfP.placeC; dsimp only; rw [HS1.out, HD1.out, hL, hs2])
    clear htw hdw hL hs2
    have HR2 := Bx.mk hr2; clear hr2
    have HR4 := Bx.mk hr4; clear hr4
    have HB := Bx.mk hb; clear hb
    apply_assumption
    have hLe := bstr_emp L
    have c0 := HR4.out.cell 0
    have c2 := HR4.out.cell 2
    have c3 := HR4.out.cell 3
    have f4 := HR4.out.frozen
    rw [show (corC ⟨L, [], d1, false⟩)[0]? = some (.string (bstr L)) from rfl] at c0
    rw [show (corC ⟨L, [], d1, false⟩)[2]? = some (.bool d1) from rfl] at c2
    rw [show (corC ⟨L, [], d1, false⟩)[3]? = some (.bool false) from rfl] at c3
    go_upto_if 29 with fail
    go_cut [0] (fun sv wx => sv = .string (bstr (bif L.isEmpty then (s2, false) else RfP.cutC 36 s2).1) ∧ Row wx w.heap.size 101 (corC ⟨[], [], false, false⟩) ∧ Row wx (w.heap.size + 1) 101 (corC ⟨L, [], bif L.isEmpty then false else d1, bif L.isEmpty then d1 else (bif L.isEmpty then (s2, false) else RfP.cutC 36 s2).2⟩) ∧ Below w.heap.size w wx)
    case first =>
      go_wp2_with (first | (go_at_call 122; refine (cutPrefix_any _ _ _).mono ?_; rintro e w' ⟨rfl, rfl⟩))
      · have hL : L.isEmpty = true := by assumption
        have HL := Bx.mk hL
        go_meet
        exact ⟨by rw [HL.out]; rfl, (HR2.out.other (by simp) _).other (by simp) _, (by
          have h := (HR4.out.set 3 (.bool d1)).set 2 (.bool false)
          rw [HL.out]; exact h), (HB.out.setCell (by simp) _).setCell (by simp) _⟩
      · have hL : L.isEmpty = false := by assumption
        have HL := Bx.mk hL
        go_meet
        exact ⟨by rw [HL.out]; rfl, HR2.out.other (by simp) _, (by
          have h := HR4.out.set 3 (.bool (RfP.cutC 36 s2).2)
          rw [HL.out]; exact h), HB.out.setCell (by simp) _⟩
      · have hL : L.isEmpty = false := by assumption
        have HL := Bx.mk hL
        have h0 : (!(bstr s2).toList.isEmpty) = false := by assumption
        have H0 := Bx.mk (show s2 = [] by rw [bstr_emp] at h0; simpa using h0)
        go_meet
        exact ⟨by rw [HL.out, H0.out]; rfl, HR2.out, (by
          have h := HR4.out
          rw [HL.out, H0.out]; exact h), HB.out⟩
    case rest =>
      clear c0 c2 c3 f4 HR2 HR4 HB
      obtain ⟨rfl, hr2, hr4, hb⟩ := hcut
      have hl3 : (bif L.isEmpty then (s2, false) else RfP.cutC 36 s2).1.length ≤ 1000000 := by
        cases L.isEmpty
        · cases s2 with
          | nil => simp [RfP.cutC]
          | cons d r => simp only [cond_false]; unfold RfP.cutC; dsimp only; split <;> simp at hdl ⊢ <;> omega
        · exact hdl
      obtain ⟨s3, hs3⟩ : ∃ s3, (bif L.isEmpty then (s2, false) else RfP.cutC 36 s2).1 = s3 := ⟨_, rfl⟩
      obtain ⟨ar, har⟩ : ∃ ar, (bif L.isEmpty then d1 else (bif L.isEmpty then (s2, false) else RfP.cutC 36 s2).2) = ar := ⟨_, rfl⟩
      obtain ⟨ac, hac⟩ : ∃ ac, (bif L.isEmpty then false else d1) = ac := ⟨_, rfl⟩
      have hp := HP.out
      rw [hs3, har, hac] at hp
      rw [har, hac] at hr4
      rw [hs3] at hl3 ⊢
      clear HP hs3 har hac
      have HP := Bx.mk hp; clear hp
      have HR2 := Bx.mk hr2; clear hr2
      have HR4 := Bx.mk hr4; clear hr4
      have HB := Bx.mk hb; clear hb
      apply_assumption
      go_upto_block 2 with fail
      go_cut [0] (fun sv wx => ∃ k : Nat, k ≤ s3.length ∧ sv = .string (bstr (s3.drop k)) ∧ (∀ c ∈ s3.take k, RfP.isDigit c = true) ∧ (∀ c r, s3.drop k = c :: r → RfP.isDigit c = false) ∧ Row wx w.heap.size 101 (corC ⟨[], [], false, false⟩) ∧ Row wx (w.heap.size + 1) 101 (corC ⟨L, s3.take k, ac, ar⟩) ∧ Below w.heap.size w wx)
      case first =>
        go_wp2_with fail
        go_loopw [0] (fun sv wr => ∃ k : Nat, k ≤ s3.length ∧ sv = .string (bstr (s3.drop k)) ∧ (∀ c ∈ s3.take k, RfP.isDigit c = true) ∧ Row wr w.heap.size 101 (corC ⟨[], [], false, false⟩) ∧ Row wr (w.heap.size + 1) 101 (corC ⟨L, s3.take k, ac, ar⟩) ∧ Below w.heap.size w wr) (fun sv _ => match sv with | .string x => x.size | _ => 0)
        case atStart => exact ⟨0, by omega, rfl, by simp, HR2.out, HR4.out, HB.out⟩
        case round =>
          clear HR2 HR4 HB
          obtain ⟨k, hk, rfl, hal, hr2, hr4, hb⟩ := hrel
          have HAL := Bx.mk hal; clear hal
          have HR2 := Bx.mk hr2; clear hr2
          have HR4 := Bx.mk hr4; clear hr4
          have HB := Bx.mk hb; clear hb
          by_cases hlt : k < s3.length
          · have HD := Bx.mk (drop_cons s3 k hlt)
            have HT := Bx.mk (take_next0 s3 k hlt)
            have hlX : (bstr (s3.drop k)).size = s3.length - k := by rw [bstr_size, List.length_drop]
            have hlT : (bstr (s3.take k)).size ≤ k := by rw [bstr_size, List.length_take]; omega
            have he : (!(bstr (s3.drop k)).toList.isEmpty) = true := by rw [bstr_emp, HD.out]; rfl
            have hpos : (0 : Nat) < (bstr (s3.drop k)).size := by omega
            have hat := bstr_at (s3.drop k) 0 hpos
            rw [show (s3.drop k).getD 0 0 = s3.getD k 0 by rw [HD.out]; rfl] at hat
            have hsl := fun wx => slice_l (P := Tryz.prog) Tryz.underlying9 (s3.drop k) 1 1 rfl (by rw [List.length_drop]; omega) wx
            have hsh := fun wx => slice_h (P := Tryz.prog) Tryz.underlying9 (s3.drop k) 1 1 rfl (by rw [List.length_drop]; omega) wx
            rw [List.drop_drop] at hsl
            rw [show (s3.drop k).take 1 = [s3.getD k 0] by rw [HD.out]; rfl] at hsh
            have hadd := bstr_app (s3.take k) [s3.getD k 0]
            rw [← HT.out] at hadd
            have hl1 : (bstr [s3.getD k 0]).size = 1 := rfl
            have hc0 : wr.cell? ⟨w.heap.size + 1, 1, none⟩ = some (.string (bstr (s3.take k))) := HR4.out.cell 1
            have hf0 := HR4.out.frozen 1
            generalize s3.getD k 0 = c at *
            by_cases hL : RfP.isDigit c = true
            · generalize hXX : bstr (s3.drop k) = X at *
              generalize hTT : bstr (s3.take k) = T at *
              clear hXX hTT
              go_wp2_with (first | (go_at_call 126; refine (digit_any _ _).mono ?_; rintro e w' ⟨rfl, rfl⟩))
              go_region
              go_roundw
              case rel =>
                iterate 16 apply Exists.intro
                refine ⟨⟨k + 1, by omega, rfl, fun d hd => ?_, (HR2.out.other (a := ⟨w.heap.size + 1, 1, none⟩) (by simp) _).drew, (HR4.out.set 1 _).drew.same (by rfl), (HB.out.setCell (by simp) _).drew⟩, rfl⟩
                rw [HT.out] at hd
                rcases List.mem_append.1 hd with h | h
                · exact HAL.out d h
                · obtain rfl : d = c := by simpa using h
                  exact hL
              case measure => show (bstr (s3.drop (k + 1))).size < X.size; rw [bstr_size, List.length_drop]; omega
            · have hL' : RfP.isDigit c = false := by simpa using hL
              clear hL
              go_wp2_with (first | (go_at_call 126; refine (digit_any _ _).mono ?_; rintro e w' ⟨rfl, rfl⟩))
              go_meet
              exact ⟨k, hk, rfl, HAL.out, fun d r hr => by rw [HD.out] at hr; injection hr with h1 h2; rw [← h1]; exact hL', HR2.out, HR4.out, HB.out⟩
          · obtain rfl : k = s3.length := by omega
            have he : (!(bstr []).toList.isEmpty) = false := by rw [bstr_emp]; rfl
            go_wp2
            go_meet
            exact ⟨s3.length, Nat.le_refl _, by rw [List.drop_length], HAL.out, (fun d r hr => by rw [List.drop_length] at hr; cases hr), HR2.out, HR4.out, HB.out⟩
      case rest =>
        clear HR2 HR4 HB
        obtain ⟨k, hk, rfl, hal, hst, hr2, hr4, hb⟩ := hcut
        obtain ⟨htw, hdw⟩ := tw_take RfP.isDigit s3 k hal hst
        clear hal hst
        have hDl : (s3.take k).length ≤ 1000000 := by rw [List.length_take]; omega
        rw [← htw] at hr4 hDl
        rw [← hdw]
        have hp := HP.out
        clear HP
        obtain ⟨D, hD⟩ : ∃ D, s3.takeWhile RfP.isDigit = D := ⟨_, rfl⟩
        obtain ⟨s4, hs4⟩ : ∃ s4, s3.dropWhile RfP.isDigit = s4 := ⟨_, rfl⟩
        rw [hD] at hr4 hDl hp
        rw [hs4] at hp ⊢
        clear htw hdw hD hs4
        have HG := Bx.mk (show RfP.place s = (⟨L, D, ac, ar⟩, s4.isEmpty && (!decide (7 < L.length) && (!decide (10 < D.length) && (!(D.head? == some 48) && (!(D.isEmpty) || (!(L.isEmpty) && !ar)))))) by unfold RfP.place RfP.goodC; rw [hp])
        clear hp
        have HR2 := Bx.mk hr2; clear hr2
        have HR4 := Bx.mk hr4; clear hr4
        have HB := Bx.mk hb; clear hb
        apply_assumption
        have c0 := HR4.out.cell 0
        have c1 := HR4.out.cell 1
        have c2 := HR4.out.cell 2
        have c3 := HR4.out.cell 3
        have f4 := HR4.out.frozen
        have d0 := HR2.out.cell 0
        have d1 := HR2.out.cell 1
        have d2 := HR2.out.cell 2
        have d3 := HR2.out.cell 3
        have f2 := HR2.out.frozen
        rw [show (corC ⟨L, D, ac, ar⟩)[0]? = some (.string (bstr L)) from rfl] at c0
        rw [show (corC ⟨L, D, ac, ar⟩)[1]? = some (.string (bstr D)) from rfl] at c1
        rw [show (corC ⟨L, D, ac, ar⟩)[2]? = some (.bool ac) from rfl] at c2
        rw [show (corC ⟨L, D, ac, ar⟩)[3]? = some (.bool ar) from rfl] at c3
        rw [show (corC ⟨[], [], false, false⟩)[0]? = some (.string (bstr [])) from rfl] at d0
        rw [show (corC ⟨[], [], false, false⟩)[1]? = some (.string (bstr [])) from rfl] at d1
        rw [show (corC ⟨[], [], false, false⟩)[2]? = some (.bool false) from rfl] at d2
        rw [show (corC ⟨[], [], false, false⟩)[3]? = some (.bool false) from rfl] at d3
        have hLz := bstr_size L
        have hDz := bstr_size D
        obtain ⟨G, hG⟩ : ∃ G, (!decide (7 < L.length) && (!decide (10 < D.length) && (!(D.head? == some 48) && (!(D.isEmpty) || (!(L.isEmpty) && !ar))))) = G := ⟨_, rfl⟩
        rw [hG] at HG
        have HGE := Bx.mk hG; clear hG
        obtain ⟨wy, hwy⟩ : ∃ wy : World, wc = wy := ⟨_, rfl⟩
        subst hwy
        go_upto_region 11 with fail
        go_cut [5] (fun v wx => v = .bool G ∧ wx = wc)
        case first =>
          go_wp2_with (first | (go_at_call 35; refine (hasPrefix_any _ _ _).mono ?_; rintro e w' ⟨rfl, rfl⟩))
          all_goals
            go_meet
            refine ⟨?_, rfl⟩
            rw [← HGE.out]
            first
              | (have q1 : (7 : Int) < (L.length : Int) := by assumption
                 have e1 : 7 < L.length := by omega
                 clear HGE
                 simp [e1]; done)
              | (have q1 : (L.length : Int) ≤ 7 := by assumption
                 have q2 : (10 : Int) < (D.length : Int) := by assumption
                 have e1 : ¬ 7 < L.length := by omega
                 have e2 : 10 < D.length := by omega
                 clear HGE
                 simp [e1, e2]; done)
              | (have q1 : (L.length : Int) ≤ 7 := by assumption
                 have q2 : (D.length : Int) ≤ 10 := by assumption
                 have e1 : ¬ 7 < L.length := by omega
                 have e2 : ¬ 10 < D.length := by omega
                 clear HGE
                 rw [decide_eq_false e1, decide_eq_false e2]
                 simp only [bstr_list] at *
                 simp [*]; done)
        case rest =>
          obtain ⟨rfl, rfl⟩ := hcut
          go_wp2
          · have h4 : (bstr s4).toList = [] := by assumption
            have H4 := Bx.mk (show s4 = [] by rw [bstr_list] at h4; exact h4)
            exact bodyPost_ret (v := .tuple #[.agg #[.string (bstr L), .string (bstr D), .bool ac, .bool ar], .bool G]) (by simp [results, Tryz.results90, go_sem, *]) rfl ⟨by rw [HG.out, H4.out]; rfl, (((HB.out.setCell (Nat.le_refl _) _).setCell (Nat.le_refl _) _).setCell (Nat.le_refl _) _).setCell (Nat.le_refl _) _⟩
          · have h4 : ¬ (bstr s4).toList = [] := by assumption
            have H4 := Bx.mk (show s4.isEmpty = false by rw [bstr_list] at h4; simpa using h4)
            exact bodyPost_ret (v := .tuple #[.agg #[.string (bstr L), .string (bstr D), .bool ac, .bool ar], .bool false]) (by simp [results, Tryz.results90, go_sem, *]) rfl ⟨by rw [HG.out, H4.out]; rfl, (((HB.out.setCell (Nat.le_refl _) _).setCell (Nat.le_refl _) _).setCell (Nat.le_refl _) _).setCell (Nat.le_refl _) _⟩
end Go.Proofs.YtmodjglbjempkaaGreatDoor
