/- References: the walks of the reference's Letters and Column. -/
import Derived.Test.YtgphgimbnflhfaaDoorRfW3
set_option linter.unusedSimpArgs false
set_option linter.unusedVariables false
namespace Go.Proofs.YtgphgimbnflhfaaDoor
open Go.RowKit
theorem u8info : (Tryd.prog.info? 5).map (fun i => (i.zero, i.size, i.bytes)) = some (some (.int .u8 0), 1, 1) := by kernel_rfl
theorem made1 (n : Nat) (z : Value) : (madeCells #[z] n).toList = List.replicate n z := by
  apply List.ext_getElem
  · simp [madeCells]
  · intro i h1 h2
    simp [madeCells, Nat.mod_one]
theorem Row.of_full {w : World} {base g n : Nat} {e : TypeId} {xs : List Value} (h : w.ownsRow base e 1 (.slice (some ⟨g, 0, none⟩) n n) n xs) : Row w g e xs.toArray := by
  rcases h.2 with ⟨h1, _⟩ | ⟨g', cap, cur, h1, _, hg, _, _, hs, ht⟩
  · cases h1
  · injection h1 with h1 h2 h3
    injection h1 with h1
    injection h1 with h1
    subst h1; subst h3
    have : cur = xs.toArray := by
      rw [← ht, List.take_of_length_le (by simp [hs])]
    rw [← this]; exact hg
/-- the reference's letters: k of them written, from the right -/
def ltrRow (n k c : Nat) : Array Value := (List.replicate (n - k) (Value.int .u8 0) ++ bvals (RfP.dig26 k c)).toArray
theorem ltrRow_zero (n c : Nat) : ltrRow n 0 c = (List.replicate n (Value.int .u8 0)).toArray := by unfold ltrRow; simp [RfP.dig26, bvals]
theorem ltrRow_end (n c : Nat) : ltrRow n n c = (bvals (RfP.dig26 n c)).toArray := by unfold ltrRow; simp
theorem ltrRow_set (n k c : Nat) (hk : k < n) : (ltrRow n k c).setIfInBounds (n - 1 - k) (.int .u8 ((65 + c / 26 ^ k % 26 : Nat) : Int)) = ltrRow n (k + 1) c := by
  have hm : c / 26 ^ k % 26 < 26 := Nat.mod_lt _ (by omega)
  unfold ltrRow
  rw [RfP.dig26_cons]
  obtain ⟨d, hd⟩ : ∃ d, n - k = d + 1 := ⟨n - k - 1, by omega⟩
  rw [hd, show n - 1 - k = d by omega, show n - (k + 1) = d by omega, List.replicate_succ', List.append_assoc]
  apply Array.toList_inj.1
  simp only [Array.toList_setIfInBounds]
  rw [List.set_append_right _ _ (by simp)]
  simp [bvals]
  omega
theorem ltrRow_get (n k c : Nat) (hk : k < n) : (ltrRow n k c)[n - 1 - k]? = some (.int .u8 0) := by
  unfold ltrRow
  obtain ⟨d, hd⟩ : ∃ d, n - k = d + 1 := ⟨n - k - 1, by omega⟩
  rw [hd, show n - 1 - k = d by omega]
  simp [List.getElem?_append, List.getElem?_replicate]
set_option maxRecDepth 100000 in
set_option maxHeartbeats 1000000 in
theorem RLetters_any (c : Nat) (w : World) (hc : c < 1073741824) : Calls Tryd.prog 10 #[.int .i64 (c : Int)] w fun e w' => e = .returned (.string (bstr (RfP.ltr 8 (c + 1)))) ∧ Below w.heap.size w w' := by
  obtain ⟨i0, hi, hz0, hz1, hz2⟩ := info_parts u8info
  go_enter Tryd.func10, Tryd.ntmps10
  go_wp2
  go_loop [0, 3, 4] (fun cv nv sv => ∃ (d n P : Nat), P = 26 ^ n ∧ cv = .int .i64 (d : Int) ∧ nv = .int .i64 (n : Int) ∧ sv = .int .i64 (P : Int) ∧ d + RfP.S26 n = c + 1 ∧ 1 ≤ n ∧ n ≤ 7 ∧ 26 ≤ P) (fun cv _ _ => (intOf cv).toNat)
  case atStart => exact ⟨c, 1, 26, rfl, rfl, rfl, rfl, rfl, by omega, by omega, by omega⟩
  case round =>
    obtain ⟨d, n, P, hP, rfl, rfl, rfl, hS, h1, h7, h26⟩ := hrel
    have HP := Bx.mk hP; clear hP
    have HS := Bx.mk hS; clear hS
    have hdc : d ≤ c := by
      have := HS.out
      obtain ⟨m, rfl⟩ : ∃ m, n = m + 1 := ⟨n - 1, by omega⟩
      have e : RfP.S26 (m + 1) = 26 * RfP.S26 m + 1 := rfl
      omega
    have hPle : P ≤ 8031810176 := by
      rw [HP.out]; exact Nat.pow_le_pow_right (n := 26) (by omega) h7
    by_cases hlt : P ≤ d
    · have hn6 : n ≤ 6 := by
        rcases Nat.lt_or_ge n 7 with h | h
        · omega
        · have : n = 7 := by omega
          have := HP.out
          subst n
          omega
      go_wp2
      go_round
      case rel =>
        refine ⟨d - P, n + 1, 26 * P, by rw [HP.out, Nat.pow_succ, Nat.mul_comm], by go_num, by go_num, by go_num, ?_, by omega, by omega, by omega⟩
        rw [RfP.S26_succ, ← HP.out]; have := HS.out; omega
      case measure => simp [intOf]; omega
    · have HR := Bx.mk (show RfP.ltr 8 (c + 1) = RfP.dig26 n d by rw [← HS.out]; exact RfP.ltr_dig n 8 d (by omega) (by rw [← HP.out]; omega))
      clear HP HS hPle h26
      go_wp2_with (refine wpList_make_full _ rfl _ _ _ rfl w.heap.size 5 i0 (.int .u8 0) 1 Tryd.underlying56 hi hz0 hz1 .i64 .i64 (n : Int) (n : Int) n rfl rfl rfl rfl ?c2 ?c3 ?c4 ?_)
      case c2 => omega
      case c3 => unfold maxLen; omega
      intro w1 hown hg
      have HR1 : Bx (Row w1 w.heap.size 5 (ltrRow n 0 d)) := ⟨by
        have := Row.of_full hown
        rw [made1] at this
        rw [ltrRow_zero]; exact this⟩
      have HB : Bx (Below w.heap.size w w1) := ⟨(Below.refl _ _).grown hg (Nat.le_refl _) (fun k hk => by cases hk)⟩
      clear hown hg
      go_wp2
      go_loopw [0, 6] (fun cv iv wx => ∃ (k q : Nat), k ≤ n ∧ iv = .int .i64 ((n : Int) - 1 - (k : Int)) ∧ q = d / 26 ^ k ∧ q ≤ d ∧ cv = .int .i64 (q : Int) ∧ Row wx w.heap.size 5 (ltrRow n k d) ∧ Below w.heap.size w wx) (fun _ iv _ => (intOf iv + 1).toNat)
      case atStart => exact ⟨0, d, by omega, by go_num, by simp, Nat.le_refl _, rfl, HR1.out, HB.out⟩
      case round =>
        clear HR1 HB
        obtain ⟨k, q, hk, rfl, hq, hqd, rfl, hr, hb⟩ := hrel
        have HQ := Bx.mk hq; clear hq
        have HRW := Bx.mk hr; clear hr
        have HB := Bx.mk hb; clear hb
        by_cases hkn : k < n
        · have HNX := Bx.mk (ltrRow_set n k d hkn)
          obtain ⟨ix, hix⟩ : ∃ ix : Nat, (n : Int) - 1 - (k : Int) = (ix : Int) := ⟨n - 1 - k, by omega⟩
          have hixn : ix < n := by omega
          have HIX := Bx.mk (show n - 1 - k = ix by omega)
          have hc0 := HRW.out.cell ix
          rw [← HIX.out, ltrRow_get n k d hkn, HIX.out] at hc0
          have hf0 := HRW.out.frozen ix
          obtain ⟨m, hm⟩ : ∃ m : Nat, (q : Int) % 26 = (m : Int) := ⟨q % 26, by omega⟩
          obtain ⟨q2, hq2⟩ : ∃ q2 : Nat, (q : Int) / 26 = (q2 : Int) := ⟨q / 26, by omega⟩
          have HM := Bx.mk (show m = q % 26 by omega)
          have hm26 : m < 26 := by omega
          have hge : decide ((0 : Int) ≤ (ix : Int)) = true := by simp
          rw [hix]
          go_wp2
          go_roundw
          case rel =>
            refine ⟨k + 1, q2, by omega, by go_num, ?_, by omega, rfl, ?_, HB.out.setCell (Nat.le_refl _) _⟩
            · rw [Nat.pow_succ, ← Nat.div_div_eq_div_mul, ← HQ.out]; omega
            · have h := HRW.out.set ix (.int .u8 ((65 + d / 26 ^ k % 26 : Nat) : Int))
              rw [← HIX.out, HNX.out, HIX.out, ← HQ.out, ← HM.out] at h
              simpa using h
          case measure => simp [intOf] <;> omega
        · obtain rfl : k = n := by omega
          have hlt0 : decide ((0 : Int) ≤ (k : Int) - 1 - (k : Int)) = false := by simp; omega
          have hcv : (convert 56 9 (.slice (some ⟨w.heap.size, 0, none⟩) k k)).run Tryd.prog wr = .ok (.string (bstr (RfP.dig26 k d))) wr := by
            have e := RfP.dig26_len k d
            have := run_convert_bytes_back (P := Tryd.prog) wr 56 9 5 ⟨w.heap.size, 0, none⟩ k (RfP.dig26 k d) Tryd.underlying56 Tryd.underlying5 Tryd.underlying9 (fun j hj => by
              have h := HRW.out.cell j
              rw [ltrRow_end] at h
              have ha : (⟨w.heap.size, 0, none⟩ : Addr).add j = ⟨w.heap.size, j, none⟩ := by unfold Addr.add; split <;> simp_all
              rw [ha, h]; simp [bvals, hj])
            rwa [e] at this
          go_wp2
          go_ret
          exact ⟨ret_str HR.out.symm, HB.out⟩
theorem low_step (s : List UInt8) (k : Nat) (hk : k < s.length) : RfP.lowS (s.drop (s.length - (k + 1))) = 26 ^ k * RfP.lv (s.getD (s.length - 1 - k) 0) + RfP.lowS (s.drop (s.length - k)) := by
  have h : s.length - (k + 1) < s.length := by omega
  rw [List.drop_eq_getElem_cons h, show s.length - (k + 1) + 1 = s.length - k by omega]
  simp only [RfP.lowS]
  rw [List.length_drop, show s.length - (s.length - k) = k by omega, List.getD_eq_getElem?_getD, show s.length - 1 - k = s.length - (k + 1) by omega, List.getElem?_eq_getElem h]
  rfl
theorem lv_bd (c : UInt8) : RfP.lv c ≤ 31 := by unfold RfP.lv; have : c.toNat % 32 < 32 := Nat.mod_lt _ (by omega); omega
theorem ext_one (s : List UInt8) (i : Nat) (h : i < s.length) : (bstr s).extract i (i + 1) = bstr [s.getD i 0] := by
  rw [bstr_ext, take_next0 s i h, List.drop_append]
  simp [List.length_take, Nat.min_eq_left (Nat.le_of_lt h)]
theorem pow26_le (k m : Nat) (h : k ≤ m) : 26 ^ k ≤ 26 ^ m := Nat.pow_le_pow_right (by omega) h
theorem sumP_bd (k : Nat) (h : k ≤ 7) : RfP.sumP k ≤ 8353082582 := by
  have h7 : ∀ j, j < 8 → RfP.sumP j ≤ 8353082582 := by decide
  exact h7 k (by omega)
set_option maxRecDepth 100000 in
set_option maxHeartbeats 1000000 in
theorem RColumn_any (s : List UInt8) (w : World) (h0 : s ≠ []) (h7 : s.length ≤ 7) (hL : RfP.allL s = true) : Calls Tryd.prog 14 #[.string (bstr s)] w fun e w' => e = .returned (.int .i64 ((RfP.val26 s : Int) - 1)) ∧ Below w.heap.size w w' := by
  have hal : ∀ c ∈ s, RfP.isLetter c = true := by unfold RfP.allL at hL; rw [List.all_eq_true] at hL; exact hL
  have hpos : 0 < s.length := List.length_pos_iff.2 h0
  have HV := Bx.mk (RfP.val26_ref s h0 hal)
  have HAL := Bx.mk hal; clear hal
  clear h0 hL
  have hsz := bstr_size s
  go_enter Tryd.func14, Tryd.ntmps14
  go_wp2
  go_loopw [3, 4, 5] (fun nv sv iv wr => ∃ (k P n : Nat), k ≤ s.length ∧ P = 26 ^ k ∧ n = RfP.lowS (s.drop (s.length - k)) ∧ n ≤ 31 * 26 ^ 6 * k ∧ nv = .int .i64 (n : Int) ∧ sv = .int .i64 (P : Int) ∧ iv = .int .i64 ((s.length : Int) - 1 - (k : Int)) ∧ Below w.heap.size w wr) (fun _ _ iv _ => (intOf iv + 1).toNat)
  case atStart => exact ⟨0, 1, 0, by omega, rfl, by simp [RfP.lowS], by omega, rfl, rfl, by go_num, Below.refl _ _⟩
  case round =>
    obtain ⟨k, P, n, hk, hP, hn, hnb, rfl, rfl, rfl, hb⟩ := hrel
    have HP := Bx.mk hP; clear hP
    have HN := Bx.mk hn; clear hn
    have HB := Bx.mk hb; clear hb
    by_cases hkn : k < s.length
    · have HS := Bx.mk (low_step s k hkn)
      obtain ⟨ix, hix⟩ : ∃ ix : Nat, (s.length : Int) - 1 - (k : Int) = (ix : Int) := ⟨s.length - 1 - k, by omega⟩
      have HIX := Bx.mk (show s.length - 1 - k = ix by omega)
      have hixn : ix < s.length := by omega
      rw [HIX.out] at HS
      have hext := ext_one s ix hixn
      have hlet := HAL.out _ (mem_getD s ix hixn)
      generalize s.getD ix 0 = c at *
      obtain ⟨hu1, hu2, hu3⟩ := RfP.up_lv c hlet
      clear hlet
      have hvb := lv_bd c
      have hP6 : P ≤ 26 ^ 6 := by rw [HP.out]; exact pow26_le k 6 (by omega)
      have HPV : Bx (P * RfP.lv c ≤ 26 ^ 6 * 31) := ⟨Nat.mul_le_mul hP6 hvb⟩
      have hsub : ((RfP.up c).toNat : Int) - 65 = (RfP.lv c : Int) := by omega
      rw [← HP.out] at HS
      generalize RfP.lv c = v at *
      obtain ⟨pv, hpv⟩ : ∃ pv : Nat, (P : Int) * (v : Int) = (pv : Int) := ⟨P * v, by simp⟩
      have HPV2 := Bx.mk (show P * v = pv by exact_mod_cast hpv)
      have hpvb : pv ≤ 26 ^ 6 * 31 := by rw [← HPV2.out]; exact HPV.out
      have hge : decide ((0 : Int) ≤ (ix : Int)) = true := by simp
      have hat := bstr_at [RfP.up c] 0 (by rw [bstr_size]; simp)
      have hus : (0 : Nat) < (bstr [RfP.up c]).size := by rw [bstr_size]; simp
      rw [show [RfP.up c].getD 0 0 = RfP.up c from rfl] at hat
      clear hu3
      have hsl : ∀ wx : World, (Instr.slice 9 (.string (bstr s)) (some (.int .i64 (ix : Int))) (some (.int .i64 ((ix : Int) + 1))) none).run Tryd.prog wx = .ok (.string (bstr [c])) wx := fun wx => by
        rw [← hext]; exact run_slice_string wx 9 (bstr s) .i64 .i64 (ix : Int) ((ix : Int) + 1) Tryd.underlying9 (by omega) (by omega) (by rw [hsz]; omega)
      clear hext
      rw [hix]
      go_wp2_with (first | (go_at_call 35; refine (Upper_any [c] _ (by simp)).mono ?_; rw [show [c].map RfP.up = [RfP.up c] from rfl]; rintro e w1 ⟨rfl, hb1⟩))
      go_roundw
      case rel =>
        refine ⟨k + 1, 26 * P, n + pv, by omega, by rw [HP.out, Nat.pow_succ, Nat.mul_comm], by rw [HS.out, HN.out, HPV2.out]; omega, by omega, by go_num, by go_num, by go_num, HB.out.trans (hb1.mono HB.out.size)⟩
      case measure => simp [intOf] <;> omega
    · obtain rfl : k = s.length := by omega
      have hlt0 : decide ((0 : Int) ≤ (s.length : Int) - 1 - (s.length : Int)) = false := by simp; omega
      rw [show s.length - s.length = 0 by omega, List.drop_zero] at HN
      go_wp2
      go_loop [0, 3, 4] (fun sv nv pv => ∃ (j m P : Nat), j < s.length ∧ P = 26 ^ (j + 1) ∧ m = n + RfP.sumP j ∧ sv = .string (bstr (s.drop j)) ∧ nv = .int .i64 (m : Int) ∧ pv = .int .i64 (P : Int)) (fun sv _ _ => match sv with | .string x => x.size | _ => 0)
      case atStart => exact ⟨0, n, 26, hpos, rfl, rfl, rfl, rfl, rfl⟩
      case round =>
        obtain ⟨j, m, P, hj, hP, hm, rfl, rfl, rfl⟩ := hrel
        have HP := Bx.mk hP; clear hP
        have HM := Bx.mk hm; clear hm
        have hPb : P ≤ 26 ^ 7 := by rw [HP.out]; exact pow26_le _ 7 (by omega)
        have hsb := sumP_bd j (by omega)
        have hmb : m ≤ 200000000000 := by rw [HM.out]; omega
        clear hsb
        have hdl : (bstr (s.drop j)).size = s.length - j := by rw [bstr_size, List.length_drop]
        by_cases hj1 : j + 1 < s.length
        · have hd1 : decide ((1 : Int) < ((s.length - j : Nat) : Int)) = true := by simp; omega
          have hsl : ∀ wx : World, (Instr.slice 9 (.string (bstr (s.drop j))) (some (.int .i64 1)) none none).run Tryd.prog wx = .ok (.string (bstr (s.drop (j + 1)))) wx := fun wx => by
            rw [slice_l Tryd.underlying9 (s.drop j) 1 1 rfl (by rw [List.length_drop]; omega) wx, List.drop_drop]
          have hd2 : (bstr (s.drop (j + 1))).size = s.length - (j + 1) := by rw [bstr_size, List.length_drop]
          generalize hX : bstr (s.drop j) = X at *
          clear hX
          go_wp2
          go_round
          case rel => exact ⟨j + 1, m + P, 26 * P, hj1, by rw [HP.out, Nat.pow_succ 26 (j + 1), Nat.mul_comm], by rw [HM.out, HP.out]; simp only [RfP.sumP]; omega, rfl, by go_num, by go_num⟩
          case measure => show (bstr (s.drop (j + 1))).size < X.size; omega
        · have hd1 : decide ((1 : Int) < ((s.length - j : Nat) : Int)) = false := by simp; omega
          obtain rfl : j = s.length - 1 := by omega
          generalize hX : bstr (s.drop (s.length - 1)) = X at *
          clear hX
          have hmv : m = RfP.val26 s - 1 := by rw [HM.out, HN.out, HV.out]; omega
          have hvp : 1 ≤ RfP.val26 s := by rw [HV.out]; omega
          go_wp2
          go_ret
          exact ⟨ret_int (by omega), HB.out⟩
end Go.Proofs.YtgphgimbnflhfaaDoor
