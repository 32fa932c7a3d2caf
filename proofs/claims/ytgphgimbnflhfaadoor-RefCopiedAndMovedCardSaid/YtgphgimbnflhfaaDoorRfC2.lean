/- References: the walk of Copied. -/
import Derived.Test.YtgphgimbnflhfaaDoorRfC1
set_option linter.unusedSimpArgs false
set_option linter.unusedVariables false
namespace Go.Proofs.YtgphgimbnflhfaaDoor
open Go.RowKit
namespace RfP
def copiedX (x : Ref) (d r : Int) : Ref × Int := if checkP x ≠ 0 then (zeroR, checkP x) else if (farP d || farP r) = true then (zeroR, 2) else (copyP x d r, 0)
end RfP
set_option maxRecDepth 100000 in
set_option maxHeartbeats 8000000 in
theorem Copied_any (x : RfP.Ref) (d rt : Int) (w : World) : Calls Tryd.prog 19 #[.agg (refC x), .int .i64 d, .int .i64 rt] w (RefPost w (RfP.copiedX x d rt)) := by
  have HX := Bx.mk (show RfP.copiedX x d rt = if RfP.checkP x ≠ 0 then (RfP.zeroR, RfP.checkP x) else if (RfP.farP d || RfP.farP rt) = true then (RfP.zeroR, 2) else (RfP.copyP x d rt, 0) from rfl)
  have hk := fun w => Check_any x w
  have HOK := Bx.mk (RfP.check_ok x)
  have HFD := Bx.mk (show RfP.farP d = decide (d < -1073741824 ∨ 1073741824 < d) from rfl)
  have HFR := Bx.mk (show RfP.farP rt = decide (rt < -1073741824 ∨ 1073741824 < rt) from rfl)
  have hm := fun w => meaning_any (RfP.addP x d rt) w
  have ho := fun w => ordered_any (RfP.meaningP (RfP.addP x d rt)) w
  have hf := fun w => fitting_any (RfP.orderedP (RfP.meaningP (RfP.addP x d rt))) w
  rw [show RfP.fittingP (RfP.orderedP (RfP.meaningP (RfP.addP x d rt))) = RfP.copyP x d rt from rfl] at hf
  generalize RfP.copyP x d rt = y at *
  generalize RfP.orderedP (RfP.meaningP (RfP.addP x d rt)) = u at *
  generalize RfP.meaningP (RfP.addP x d rt) = v at *
  obtain ⟨sh, k, r, c, r2, c2, ar, ac, ar2, ac2⟩ := x
  unfold RfP.addP at hm
  dsimp only at hm
  obtain ⟨n1, hn1⟩ : ∃ n, RfP.mv r d ar = n := ⟨_, rfl⟩
  obtain ⟨n2, hn2⟩ : ∃ n, RfP.mv r2 d ar2 = n := ⟨_, rfl⟩
  obtain ⟨n3, hn3⟩ : ∃ n, RfP.mv c rt ac = n := ⟨_, rfl⟩
  obtain ⟨n4, hn4⟩ : ∃ n, RfP.mv c2 rt ac2 = n := ⟨_, rfl⟩
  rw [hn1, hn2, hn3, hn4] at hm
  have HN1 := Bx.mk hn1.symm; have HN2 := Bx.mk hn2.symm; have HN3 := Bx.mk hn3.symm; have HN4 := Bx.mk hn4.symm
  clear hn1 hn2 hn3 hn4
  generalize RfP.checkP ⟨sh, k, r, c, r2, c2, ar, ac, ar2, ac2⟩ = E at *
  obtain ⟨v0, v1, v2, v3, v4, v5, v6, v7, v8, v9⟩ := v
  obtain ⟨u0, u1, u2, u3, u4, u5, u6, u7, u8, u9⟩ := u
  obtain ⟨y0, y1, y2, y3, y4, y5, y6, y7, y8, y9⟩ := y
  unfold refC at hk hm ho hf
  unfold refC
  dsimp only at *
  have HK := Bx.mk hk; have HM := Bx.mk hm; have HO := Bx.mk ho; have HF := Bx.mk hf
  clear hk hm ho hf
  have HP := Bx.mk ((Row.new w 35 #[Value.string (bstr sh), .int .i64 k, .int .i64 r, .int .i64 c, .int .i64 r2, .int .i64 c2, .bool ar, .bool ac, .bool ar2, .bool ac2]).alloc (.cells #[Value.string { data := #[] }, .int .i64 0, .int .i64 0, .int .i64 0, .int .i64 0, .int .i64 0, .bool false, .bool false, .bool false, .bool false] 35))
  have HZ : Bx (Row ((w.alloc (.cells #[Value.string (bstr sh), .int .i64 k, .int .i64 r, .int .i64 c, .int .i64 r2, .int .i64 c2, .bool ar, .bool ac, .bool ar2, .bool ac2] 35)).alloc (.cells #[Value.string { data := #[] }, .int .i64 0, .int .i64 0, .int .i64 0, .int .i64 0, .int .i64 0, .bool false, .bool false, .bool false, .bool false] 35)) (w.heap.size + 1) 35 #[Value.string (bstr []), .int .i64 0, .int .i64 0, .int .i64 0, .int .i64 0, .int .i64 0, .bool false, .bool false, .bool false, .bool false]) := ⟨by
    have := Row.new (w.alloc (.cells #[Value.string (bstr sh), .int .i64 k, .int .i64 r, .int .i64 c, .int .i64 r2, .int .i64 c2, .bool ar, .bool ac, .bool ar2, .bool ac2] 35)) 35 #[Value.string (bstr []), .int .i64 0, .int .i64 0, .int .i64 0, .int .i64 0, .int .i64 0, .bool false, .bool false, .bool false, .bool false]
    rw [show (w.alloc (.cells #[Value.string (bstr sh), .int .i64 k, .int .i64 r, .int .i64 c, .int .i64 r2, .int .i64 c2, .bool ar, .bool ac, .bool ar2, .bool ac2] 35)).heap.size = w.heap.size + 1 by simp] at this
    exact this⟩
  have HB := Bx.mk (below2 w (.cells #[Value.string (bstr sh), .int .i64 k, .int .i64 r, .int .i64 c, .int .i64 r2, .int .i64 c2, .bool ar, .bool ac, .bool ar2, .bool ac2] 35) (.cells #[Value.string { data := #[] }, .int .i64 0, .int .i64 0, .int .i64 0, .int .i64 0, .int .i64 0, .bool false, .bool false, .bool false, .bool false] 35))
  go_enter Tryd.func19, Tryd.ntmps19
  by_cases hE : E = 0
  · subst hE
    rw [if_neg (by simp)] at HX
    obtain ⟨hk, hform, hin, hord⟩ := HOK.out rfl
    clear HOK hk hform hord
    have hin2 : (0 ≤ r ∧ r < 1073741824) ∧ (0 ≤ c ∧ c < 1073741824) ∧ (0 ≤ r2 ∧ r2 < 1073741824) ∧ (0 ≤ c2 ∧ c2 < 1073741824) := by
      unfold RfP.insideP RfP.permP at hin; simpa using hin
    clear hin
    obtain ⟨⟨r_0, r_1⟩, ⟨c_0, c_1⟩, ⟨r2_0, r2_1⟩, c2_0, c2_1⟩ := hin2
    go_upto_region 4 with (first | (go_at_call 30; refine (HK.out _).mono ?_; rintro e w1 ⟨rfl, hb1⟩; have HP1 := Bx.mk (HP.out.below hb1 (by simp; omega)); have HZ1 := Bx.mk (HZ.out.below hb1 (by simp)); have pc1 := fun o => HP1.out.cell o; have pf1 := HP1.out.frozen; have zc1 := fun o => HZ1.out.cell o; have zf1 := HZ1.out.frozen))
    have HB1 := Bx.mk (below_next HB.out hb1)
    clear HP HZ HB hb1
    have lw1 := HP1.out.lt
    have lz1 := HZ1.out.lt
    cases hfd : RfP.farP d with
    | true =>
      rw [hfd] at HX
      go_wp2_with (first | (go_at_call 46; refine (far_any _ _).mono ?_; rintro e w2 ⟨rfl, rfl⟩))
      exact bodyPost_ret (v := .tuple #[.agg #[Value.string { data := #[] }, .int .i64 0, .int .i64 0, .int .i64 0, .int .i64 0, .int .i64 0, .bool false, .bool false, .bool false, .bool false], .int .i64 2]) (by simp [results, Tryd.results19, go_sem, zc1, zf1]) rfl ⟨by rw [HX.out]; rfl, Below.setAllB (by omega) [Value.string { data := #[] }, .int .i64 0, .int .i64 0, .int .i64 0, .int .i64 0, .int .i64 0, .bool false, .bool false, .bool false, .bool false] 0 _ HB1.out⟩
    | false =>
      cases hfr : RfP.farP rt with
      | true =>
        rw [hfd, hfr] at HX
        go_wp2_with (first | (go_at_call 46; refine (far_any _ _).mono ?_; rintro e w2 ⟨rfl, rfl⟩))
        exact bodyPost_ret (v := .tuple #[.agg #[Value.string { data := #[] }, .int .i64 0, .int .i64 0, .int .i64 0, .int .i64 0, .int .i64 0, .bool false, .bool false, .bool false, .bool false], .int .i64 2]) (by simp [results, Tryd.results19, go_sem, zc1, zf1]) rfl ⟨by rw [HX.out]; rfl, Below.setAllB (by omega) [Value.string { data := #[] }, .int .i64 0, .int .i64 0, .int .i64 0, .int .i64 0, .int .i64 0, .bool false, .bool false, .bool false, .bool false] 0 _ HB1.out⟩
      | false =>
        rw [hfd, hfr, if_neg (by simp)] at HX
        rw [hfd] at HFD
        rw [hfr] at HFR
        have hdb : -1073741824 ≤ d ∧ d ≤ 1073741824 := by have := HFD.out; simp at this; omega
        have hrb : -1073741824 ≤ rt ∧ rt ≤ 1073741824 := by have := HFR.out; simp at this; omega
        obtain ⟨hd1, hd2⟩ := hdb
        obtain ⟨hr1, hr2⟩ := hrb
        clear HFD HFR
        go_wp2_with (first | (go_at_call 46; refine (far_any _ _).mono ?_; rintro e w2 ⟨rfl, rfl⟩))
        clear hfd hfr
        have HS0 := Bx.mk (Row.new w1 73 #[Value.pointer (some ⟨w.heap.size, 2, none⟩), .bool ar, .int .i64 d, .pointer (some ⟨w.heap.size, 4, none⟩), .bool ar2, .int .i64 d, .pointer (some ⟨w.heap.size, 3, none⟩), .bool ac, .int .i64 rt, .pointer (some ⟨w.heap.size, 5, none⟩), .bool ac2, .int .i64 rt])
        have HP0 := Bx.mk (HP1.out.alloc (.cells #[Value.pointer (some ⟨w.heap.size, 2, none⟩), .bool ar, .int .i64 d, .pointer (some ⟨w.heap.size, 4, none⟩), .bool ar2, .int .i64 d, .pointer (some ⟨w.heap.size, 3, none⟩), .bool ac, .int .i64 rt, .pointer (some ⟨w.heap.size, 5, none⟩), .bool ac2, .int .i64 rt] 73))
        have HZ0 := Bx.mk (HZ1.out.alloc (.cells #[Value.pointer (some ⟨w.heap.size, 2, none⟩), .bool ar, .int .i64 d, .pointer (some ⟨w.heap.size, 4, none⟩), .bool ar2, .int .i64 d, .pointer (some ⟨w.heap.size, 3, none⟩), .bool ac, .int .i64 rt, .pointer (some ⟨w.heap.size, 5, none⟩), .bool ac2, .int .i64 rt] 73))
        have HB0 := Bx.mk (HB1.out.alloc (by omega) (.cells #[Value.pointer (some ⟨w.heap.size, 2, none⟩), .bool ar, .int .i64 d, .pointer (some ⟨w.heap.size, 4, none⟩), .bool ar2, .int .i64 d, .pointer (some ⟨w.heap.size, 3, none⟩), .bool ac, .int .i64 rt, .pointer (some ⟨w.heap.size, 5, none⟩), .bool ac2, .int .i64 rt] 73))
        go_loopw [46] (fun i wr => ∃ j : Nat, j ≤ 4 ∧ i = .int .i64 (j : Int) ∧ Row wr w.heap.size 35 (#[Value.string (bstr sh), .int .i64 k, .int .i64 (if 1 ≤ j then n1 else r), .int .i64 (if 3 ≤ j then n3 else c), .int .i64 (if 2 ≤ j then n2 else r2), .int .i64 (if 4 ≤ j then n4 else c2), .bool ar, .bool ac, .bool ar2, .bool ac2]) ∧ Row wr w1.heap.size 73 #[Value.pointer (some ⟨w.heap.size, 2, none⟩), .bool ar, .int .i64 d, .pointer (some ⟨w.heap.size, 4, none⟩), .bool ar2, .int .i64 d, .pointer (some ⟨w.heap.size, 3, none⟩), .bool ac, .int .i64 rt, .pointer (some ⟨w.heap.size, 5, none⟩), .bool ac2, .int .i64 rt] ∧ Row wr (w.heap.size + 1) 35 #[Value.string (bstr []), .int .i64 0, .int .i64 0, .int .i64 0, .int .i64 0, .int .i64 0, .bool false, .bool false, .bool false, .bool false] ∧ Below w.heap.size w wr) (fun i _ => 4 - (intOf i).toNat)
        case atStart => exact ⟨0, by omega, rfl, HP0.out, HS0.out, HZ0.out, HB0.out⟩
        case round =>
          clear HS0 HP0 HZ0 HB0 HP1 HZ1 HB1 pc1 pf1 zc1 zf1
          obtain ⟨j, hj, rfl, hp, hs, hz, hb⟩ := hrel
          have HS := Bx.mk hs; clear hs
          have HZ := Bx.mk hz; clear hz
          have HB := Bx.mk hb; clear hb
          have sc := fun o => HS.out.cell o
          have ls := HS.out.lt
          have hj5 : j = 0 ∨ j = 1 ∨ j = 2 ∨ j = 3 ∨ j = 4 := by omega
          clear hj
          rcases hj5 with rfl | rfl | rfl | rfl | rfl
          · have hP : Row wr w.heap.size 35 #[Value.string (bstr sh), .int .i64 k, .int .i64 r, .int .i64 c, .int .i64 r2, .int .i64 c2, .bool ar, .bool ac, .bool ar2, .bool ac2] := hp
            have HPP := Bx.mk hP; clear hP hp
            have pc := fun o => HPP.out.cell o
            have pf := HPP.out.frozen
            have lp := HPP.out.lt
            cases ar with
            | true =>
              have hn : Bx (n1 = r) := ⟨HN1.out⟩
              go_wp2
              go_roundw
              case rel => exact ⟨1, by omega, by go_num, by show Row _ _ _ #[Value.string (bstr sh), .int .i64 k, .int .i64 n1, .int .i64 c, .int .i64 r2, .int .i64 c2, .bool true, .bool ac, .bool ar2, .bool ac2]; rw [hn.out]; exact HPP.out.alloc _, HS.out.alloc _, HZ.out.alloc _, HB.out.alloc (by omega) _⟩
              case measure => simp [intOf]
            | false =>
              have hn : Bx (n1 = r + d) := ⟨HN1.out⟩
              go_wp2_with fail
              go_region
              go_wp2
              go_roundw
              case rel => exact ⟨1, by omega, by go_num, by show Row _ _ _ #[Value.string (bstr sh), .int .i64 k, .int .i64 n1, .int .i64 c, .int .i64 r2, .int .i64 c2, .bool false, .bool ac, .bool ar2, .bool ac2]; rw [hn.out]; exact ((HPP.out.set 2 _).alloc _).drew, ((HS.out.other (by dsimp only; omega) _).alloc _).drew, ((HZ.out.other (by dsimp only; omega) _).alloc _).drew, ((HB.out.setCell (by dsimp only; omega) _).alloc (by simp [World.setCell]; omega) _).drew⟩
              case measure => simp [intOf]
          · have hP : Row wr w.heap.size 35 #[Value.string (bstr sh), .int .i64 k, .int .i64 n1, .int .i64 c, .int .i64 r2, .int .i64 c2, .bool ar, .bool ac, .bool ar2, .bool ac2] := hp
            have HPP := Bx.mk hP; clear hP hp
            have pc := fun o => HPP.out.cell o
            have pf := HPP.out.frozen
            have lp := HPP.out.lt
            cases ar2 with
            | true =>
              have hn : Bx (n2 = r2) := ⟨HN2.out⟩
              go_wp2
              go_roundw
              case rel => exact ⟨2, by omega, by go_num, by show Row _ _ _ #[Value.string (bstr sh), .int .i64 k, .int .i64 n1, .int .i64 c, .int .i64 n2, .int .i64 c2, .bool ar, .bool ac, .bool true, .bool ac2]; rw [hn.out]; exact HPP.out.alloc _, HS.out.alloc _, HZ.out.alloc _, HB.out.alloc (by omega) _⟩
              case measure => simp [intOf]
            | false =>
              have hn : Bx (n2 = r2 + d) := ⟨HN2.out⟩
              go_wp2_with fail
              go_region
              go_wp2
              go_roundw
              case rel => exact ⟨2, by omega, by go_num, by show Row _ _ _ #[Value.string (bstr sh), .int .i64 k, .int .i64 n1, .int .i64 c, .int .i64 n2, .int .i64 c2, .bool ar, .bool ac, .bool false, .bool ac2]; rw [hn.out]; exact ((HPP.out.set 4 _).alloc _).drew, ((HS.out.other (by dsimp only; omega) _).alloc _).drew, ((HZ.out.other (by dsimp only; omega) _).alloc _).drew, ((HB.out.setCell (by dsimp only; omega) _).alloc (by simp [World.setCell]; omega) _).drew⟩
              case measure => simp [intOf]
          · have hP : Row wr w.heap.size 35 #[Value.string (bstr sh), .int .i64 k, .int .i64 n1, .int .i64 c, .int .i64 n2, .int .i64 c2, .bool ar, .bool ac, .bool ar2, .bool ac2] := hp
            have HPP := Bx.mk hP; clear hP hp
            have pc := fun o => HPP.out.cell o
            have pf := HPP.out.frozen
            have lp := HPP.out.lt
            cases ac with
            | true =>
              have hn : Bx (n3 = c) := ⟨HN3.out⟩
              go_wp2
              go_roundw
              case rel => exact ⟨3, by omega, by go_num, by show Row _ _ _ #[Value.string (bstr sh), .int .i64 k, .int .i64 n1, .int .i64 n3, .int .i64 n2, .int .i64 c2, .bool ar, .bool true, .bool ar2, .bool ac2]; rw [hn.out]; exact HPP.out.alloc _, HS.out.alloc _, HZ.out.alloc _, HB.out.alloc (by omega) _⟩
              case measure => simp [intOf]
            | false =>
              have hn : Bx (n3 = c + rt) := ⟨HN3.out⟩
              go_wp2_with fail
              go_region
              go_wp2
              go_roundw
              case rel => exact ⟨3, by omega, by go_num, by show Row _ _ _ #[Value.string (bstr sh), .int .i64 k, .int .i64 n1, .int .i64 n3, .int .i64 n2, .int .i64 c2, .bool ar, .bool false, .bool ar2, .bool ac2]; rw [hn.out]; exact ((HPP.out.set 3 _).alloc _).drew, ((HS.out.other (by dsimp only; omega) _).alloc _).drew, ((HZ.out.other (by dsimp only; omega) _).alloc _).drew, ((HB.out.setCell (by dsimp only; omega) _).alloc (by simp [World.setCell]; omega) _).drew⟩
              case measure => simp [intOf]
          · have hP : Row wr w.heap.size 35 #[Value.string (bstr sh), .int .i64 k, .int .i64 n1, .int .i64 n3, .int .i64 n2, .int .i64 c2, .bool ar, .bool ac, .bool ar2, .bool ac2] := hp
            have HPP := Bx.mk hP; clear hP hp
            have pc := fun o => HPP.out.cell o
            have pf := HPP.out.frozen
            have lp := HPP.out.lt
            cases ac2 with
            | true =>
              have hn : Bx (n4 = c2) := ⟨HN4.out⟩
              go_wp2
              go_roundw
              case rel => exact ⟨4, by omega, by go_num, by show Row _ _ _ #[Value.string (bstr sh), .int .i64 k, .int .i64 n1, .int .i64 n3, .int .i64 n2, .int .i64 n4, .bool ar, .bool ac, .bool ar2, .bool true]; rw [hn.out]; exact HPP.out.alloc _, HS.out.alloc _, HZ.out.alloc _, HB.out.alloc (by omega) _⟩
              case measure => simp [intOf]
            | false =>
              have hn : Bx (n4 = c2 + rt) := ⟨HN4.out⟩
              go_wp2_with fail
              go_region
              go_wp2
              go_roundw
              case rel => exact ⟨4, by omega, by go_num, by show Row _ _ _ #[Value.string (bstr sh), .int .i64 k, .int .i64 n1, .int .i64 n3, .int .i64 n2, .int .i64 n4, .bool ar, .bool ac, .bool ar2, .bool false]; rw [hn.out]; exact ((HPP.out.set 5 _).alloc _).drew, ((HS.out.other (by dsimp only; omega) _).alloc _).drew, ((HZ.out.other (by dsimp only; omega) _).alloc _).drew, ((HB.out.setCell (by dsimp only; omega) _).alloc (by simp [World.setCell]; omega) _).drew⟩
              case measure => simp [intOf]
          · have hP : Row wr w.heap.size 35 #[Value.string (bstr sh), .int .i64 k, .int .i64 n1, .int .i64 n3, .int .i64 n2, .int .i64 n4, .bool ar, .bool ac, .bool ar2, .bool ac2] := hp
            have HPP := Bx.mk hP; clear hP hp
            have pc := fun o => HPP.out.cell o
            go_wp2_with (first | (go_at_call 48; refine (HM.out _).mono ?_; rintro e w3 ⟨rfl, hb3⟩) | (go_at_call 43; refine (HO.out _).mono ?_; rintro e w4 ⟨rfl, hb4⟩) | (go_at_call 47; refine (HF.out _).mono ?_; rintro e w5 ⟨rfl, hb5⟩; have HB5 := Bx.mk (below_next (below_next (below_next HB.out hb3) hb4) hb5); have HZ5 := Bx.mk (((HZ.out.below hb3 HZ.out.lt).below hb4 (Nat.lt_of_lt_of_le HZ.out.lt hb3.size)).below hb5 (Nat.lt_of_lt_of_le (Nat.lt_of_lt_of_le HZ.out.lt hb3.size) hb4.size)); have zc5 := fun o => HZ5.out.cell o; have zf5 := HZ5.out.frozen))
            exact bodyPost_ret (v := .tuple #[.agg #[Value.string (bstr y0), .int .i64 y1, .int .i64 y2, .int .i64 y3, .int .i64 y4, .int .i64 y5, .bool y6, .bool y7, .bool y8, .bool y9], .int .i64 0]) (by simp [results, Tryd.results19, go_sem, zc5, zf5]) rfl ⟨by rw [HX.out]; rfl, Below.setAllB (by omega) [Value.string (bstr y0), .int .i64 y1, .int .i64 y2, .int .i64 y3, .int .i64 y4, .int .i64 y5, .bool y6, .bool y7, .bool y8, .bool y9] 0 w5 HB5.out⟩
  · have hE' : (E != 0) = true := by simpa using hE
    rw [if_pos hE] at HX
    clear hE HOK HFD HFR
    go_wp2_with (first | (go_at_call 30; refine (HK.out _).mono ?_; rintro e w1 ⟨rfl, hb1⟩; have HP1 := Bx.mk (HP.out.below hb1 (by simp; omega)); have HZ1 := Bx.mk (HZ.out.below hb1 (by simp)); have pc1 := fun o => HP1.out.cell o; have pf1 := HP1.out.frozen; have zc1 := fun o => HZ1.out.cell o; have zf1 := HZ1.out.frozen))
    exact bodyPost_ret (v := .tuple #[.agg #[Value.string { data := #[] }, .int .i64 0, .int .i64 0, .int .i64 0, .int .i64 0, .int .i64 0, .bool false, .bool false, .bool false, .bool false], .int .i64 E]) (by simp [results, Tryd.results19, go_sem, zc1, zf1]) rfl ⟨by rw [HX.out]; rfl, Below.setAllB (by omega) [Value.string { data := #[] }, .int .i64 0, .int .i64 0, .int .i64 0, .int .i64 0, .int .i64 0, .bool false, .bool false, .bool false, .bool false] 0 _ (below_next HB.out hb1)⟩

end Go.Proofs.YtgphgimbnflhfaaDoor
