/- The walk of the decoder's symbol. -/
import Derived.Test.YtefklhjjhcobmaaDoorSqW4
namespace Go.Proofs.YtefklhjjhcobmaaDoor
open Go.RowKit
def SymPost (L : List Nat) (s : ByteArray) (i b : Nat) (w : World) (e : Ending) (w' : World) : Prop :=
  Keep (· = b) w w' ∧ e = .returned (.tuple #[.int .i64 ((SqP.sym L s.data.toList i).2.1 : Int), .int .i64 ((SqP.sym L s.data.toList i).1 : Int)]) ∧ Row w' b 49 (rdr s (SqP.sym L s.data.toList i).2.2)
/-- a decoder made ready: it stands at block d, its list elsewhere, not in block b -/
structure Decoder (L : List Nat) (d b : Nat) (w : World) : Prop where
  row : ∃ la lcap, Row w d 72 (dec (fiOf L 16) (frOf L 16) (.slice la (SqP.all L 15).length lcap)) ∧ w.ownsRow (d + 1) 3 1 (.slice la (SqP.all L 15).length lcap) (SqP.all L 15).length (vals (SqP.all L 15)) ∧ (Value.slice la (SqP.all L 15).length lcap).ownBlock ≠ some b
  ne : d ≠ b
theorem Decoder.keep {L : List Nat} {d b : Nat} {w w' : World} (h : Decoder L d b w) (k : Keep (· = b) w w') : Decoder L d b w' := by
  obtain ⟨⟨la, lcap, h1, h2, h3⟩, hne⟩ := h
  refine ⟨⟨la, lcap, k.row h1 hne, ?_, h3⟩, hne⟩
  obtain ⟨h4, h5⟩ := h2
  refine ⟨h4, ?_⟩
  rcases h5 with h5 | ⟨g, cap, cur, hv, hb, hg, r⟩
  · exact .inl h5
  · refine .inr ⟨g, cap, cur, hv, hb, ?_, r⟩
    rw [hv] at h3
    exact k.row (b := g) (t := 3) (cs := cur) hg (fun e => h3 (by rw [← e]; rfl))
theorem fiOf_in (L : List Nat) (n j : Nat) (h : 1 ≤ j ∧ j < n) : fiOf L n j = 2 * SqP.ca L (j - 1) := by unfold fiOf; rw [if_pos h]
theorem frOf_in (L : List Nat) (n j : Nat) (h : 1 ≤ j ∧ j < n) : frOf L n j = (SqP.all L (j - 1)).length := by unfold frOf; rw [if_pos h]
theorem len_data (s : ByteArray) : s.data.toList.length = s.size := by rw [Array.length_toList]; rfl
set_option maxRecDepth 100000 in
set_option maxHeartbeats 1000000 in
theorem symbol_any (L : List Nat) (s : ByteArray) (i d b : Nat) (w : World) (hL : L.length = 272) (hs : s.size ≤ 1000000000) (hi : i ≤ 8 * s.size) (hr : Row w b 49 (rdr s i)) (hD : Decoder L d b w) :
    Calls Tryd.prog 28 #[.pointer (some ⟨d, 0, none⟩), .pointer (some ⟨b, 0, none⟩)] w (SymPost L s i b w) := by
  have HR := Bx.mk hr; clear hr
  have hlen := len_data s
  have HLEN := Bx.mk hlen; clear hlen
  go_enter Tryd.func28, Tryd.ntmps28
  go_wp2
  go_loopw [6, 7] (fun c n wr => ∃ k i' c' : Nat, 1 ≤ k ∧ k ≤ 16 ∧ i' ≤ 8 * s.size ∧ c' < 2 ^ (k - 1) ∧ n = .int .i64 k ∧ c = .int .i64 c' ∧ SqP.symGo L s.data.toList (16 - k) k c' i' = SqP.sym L s.data.toList i ∧ Row wr b 49 (rdr s i') ∧ Keep (· = b) w wr) (fun _ n _ => 16 - (intOf n).toNat)
  case atStart => exact ⟨1, i, 0, by omega, by omega, hi, by simp, rfl, rfl, SqP.sym_start _ _ _, HR.out, Keep.refl _ _⟩
  case round =>
    clear HR
    obtain ⟨n, i', c, hn1, hn16, hi', hc, rfl, rfl, hsym, hr, hk⟩ := hrel
    have HS := Bx.mk hsym; clear hsym
    have HR := Bx.mk hr; clear hr
    have HK := Bx.mk hk; clear hk
    by_cases hlt : n ≤ 15
    · have hd15 : decide ((n : Int) ≤ 15) = true := by simp; omega
      have hcl : c < 16384 := Nat.lt_of_lt_of_le hc (Nat.pow_le_pow_right (n := 2) (by omega) (by omega : n - 1 ≤ 14))
      have hpow : 2 ^ (n + 1 - 1) = 2 * 2 ^ (n - 1) := by rw [show n + 1 - 1 = (n - 1) + 1 from by omega, Nat.pow_succ, Nat.mul_comm]
      have HPOW := Bx.mk hpow; clear hpow
      have HC := Bx.mk hc; clear hc
      by_cases hend : i' = 8 * s.size
      · have HE := Bx.mk hend; clear hend
        go_wp2_with fail
        refine (bit_end s b _ hs (by have := HR.out; rw [HE.out] at this; exact this)).mono ?_
        rintro e w' ⟨rfl, nq, rfl⟩
        go_wp2
        go_ret2
        have e1 := HS.out
        rw [show 16 - n = (15 - n) + 1 from by omega, SqP.symGo_end _ _ _ _ _ _ (by rw [HLEN.out]; exact HE.out)] at e1
        refine ⟨HK.out.drewN nq, ?_⟩
        rw [← e1]
        exact ⟨rfl, HR.out.drewN nq⟩
      · have hb2 := SqP.bitAt_lt s.data.toList i'
        go_wp2_with fail
        refine (bit_some s i' b _ hs (by omega) HR.out).mono ?_
        rintro e W ⟨rfl, hrw, hkp⟩
        dsimp only
        obtain ⟨⟨la, lcap, hrow, hown, hob⟩, hdb⟩ := hD.keep (HK.out.trans hkp)
        have HKP := Bx.mk hkp; clear hkp
        have HRW := Bx.mk hrw; clear hrw
        have hc32 : W.cell? ⟨d, 32, none⟩ = some (.slice la (SqP.all L 15).length lcap) := (hrow.cell 32).trans (dec_list _ _ _)
        have hcn : W.cell? ⟨d, n, none⟩ = some (.int .i64 ((2 * SqP.ca L (n - 1) : Nat) : Int)) := (hrow.cell n).trans ((dec_first _ _ _ _ (by omega)).trans (by rw [fiOf_in _ _ _ (by omega)]))
        have hcf : W.cell? ⟨d, 16 + n, none⟩ = some (.int .i64 ((SqP.all L (n - 1)).length : Int)) := (hrow.cell (16 + n)).trans ((dec_from _ _ _ _ (by omega)).trans (by rw [frOf_in _ _ _ (by omega)]))
        have hcf1 : n < 15 → W.cell? ⟨d, 16 + (n + 1), none⟩ = some (.int .i64 ((SqP.all L n).length : Int)) := fun h15 => (hrow.cell (16 + (n + 1))).trans ((dec_from _ _ _ _ (by omega)).trans (by rw [frOf_in _ _ _ (by omega), Nat.add_sub_cancel]))
        have e17 : ((n : Int) + 1).toNat = n + 1 := by omega
        have hcnt : (SqP.all L n).length = (SqP.all L (n - 1)).length + SqP.cnt L n := by rw [SqP.all_succ L n hn1, List.length_append]; rfl
        have hca := SqP.ca_bd L hL (n - 1) (by omega)
        have hal := SqP.all_bd L hL (n - 1) (by omega)
        have hal2 := SqP.all_bd L hL n hlt
        have hal3 := SqP.all_bd L hL 15 (by omega)
        have hx := SqP.symGo_hit L s.data.toList (15 - n) n c i'
        have hx2 := SqP.symGo_miss L s.data.toList (15 - n) n c i'
        have h1 := SqP.look_hit L n (2 * c + SqP.bitAt s.data.toList i')
        have h2 := SqP.look_low L n (2 * c + SqP.bitAt s.data.toList i')
        have h3 := SqP.look_high L n (2 * c + SqP.bitAt s.data.toList i')
        have h4 := fun j => SqP.all_get L n j hn1 hlt
        have h5 := fun j => SqP.syms_lt L n j hL
        have HX := Bx.mk hx; clear hx
        have HX2 := Bx.mk hx2; clear hx2
        have H1 := Bx.mk h1; clear h1
        have H2 := Bx.mk h2; clear h2
        have H3 := Bx.mk h3; clear h3
        have H4 := Bx.mk h4; clear h4
        have H5 := Bx.mk h5; clear h5
        have hi2 : i' + 1 ≤ 8 * s.size := by omega
        have HEND := Bx.mk hend; clear hend
        have HOWN := Bx.mk hown; clear hown
        have HROW := Bx.mk hrow; clear hrow
        have HCNT := Bx.mk hcnt; clear hcnt
        obtain ⟨x, hx⟩ : ∃ x : Nat, 2 * (c : Int) + (SqP.bitAt s.data.toList i' : Int) = (x : Int) := ⟨2 * c + SqP.bitAt s.data.toList i', by omega⟩
        have hxn : 2 * c + SqP.bitAt s.data.toList i' = x := by omega
        have hxl : x ≤ 32768 := by omega
        have HXN := Bx.mk hxn; clear hxn
        obtain ⟨f0, hf0⟩ : ∃ f0, 2 * SqP.ca L (n - 1) = f0 := ⟨_, rfl⟩
        have hf0l : f0 ≤ 17825792 := by omega
        rw [hf0] at hcn
        have HF0 := Bx.mk hf0; clear hf0 hca
        obtain ⟨A, hA⟩ : ∃ A, (SqP.all L (n - 1)).length = A := ⟨_, rfl⟩
        obtain ⟨A2, hA2⟩ : ∃ A2, (SqP.all L n).length = A2 := ⟨_, rfl⟩
        obtain ⟨T, hT⟩ : ∃ T, (SqP.all L 15).length = T := ⟨_, rfl⟩
        rw [hA] at hcf hal
        rw [hA2] at hcf1 hal2
        rw [hT] at hc32 hal3
        have hsub : (A2 : Int) - (A : Int) = (SqP.cnt L n : Int) := by have := HCNT.out; omega
        have hsubT : n = 15 → (T : Int) - (A : Int) = (SqP.cnt L n : Int) := fun e => by subst e; have := HCNT.out; omega
        have HA := Bx.mk hA; clear hA
        have HA2 := Bx.mk hA2; clear hA2
        have HT := Bx.mk hT; clear hT
        have hcases : (n < 15 ∧ W.cell? ⟨d, 16 + (n + 1), none⟩ = some (.int .i64 (A2 : Int))) ∨ (¬ n < 15 ∧ (T : Int) - (A : Int) = (SqP.cnt L n : Int)) := by
          rcases Nat.lt_or_ge n 15 with h | h
          · exact .inl ⟨h, hcf1 h⟩
          · exact .inr ⟨by omega, hsubT (by omega)⟩
        clear hsubT hcf1
        rcases hcases with ⟨h15, hcz⟩ | ⟨h15, hcz⟩
        all_goals
          by_cases hlow : f0 ≤ x
          · obtain ⟨q, hq⟩ : ∃ q : Nat, (x : Int) - (f0 : Int) = (q : Int) := ⟨x - f0, by omega⟩
            have hql : q ≤ 32768 := by omega
            by_cases hhi : q < SqP.cnt L n
            · obtain ⟨h4a, h4b⟩ := H4.out q hhi
              have hqe : 2 * c + SqP.bitAt s.data.toList i' - 2 * SqP.ca L (n - 1) = q := by rw [HF0.out, HXN.out]; omega
              have hlk := H1.out (by rw [HF0.out, HXN.out]; exact hlow) (by rw [hqe]; exact hhi)
              rw [hqe] at hlk
              rw [HA.out] at h4a h4b
              obtain ⟨g, cap, hv, hgb, hgc, hgcell, _⟩ := owns_read HOWN.out (by omega)
              injection hv with hv1 hv2 hv3
              subst hv1
              have hce := hgcell (A + q) h4b
              have hval : (vals (SqP.all L 15))[A + q]? = some (.int .i64 (((SqP.syms L n).getD q 0 : Nat) : Int)) := by
                unfold vals; rw [List.getElem?_map, h4a]; rfl
              rw [hval] at hce
              have h5 := H5.out q
              clear hval h4a hgcell hv2 hv3 hgb
              rw [HT.out] at h4b hgc
              obtain ⟨y, hy⟩ : ∃ y, (SqP.syms L n).getD q 0 = y := ⟨_, rfl⟩
              rw [hy] at hce h5 hlk
              rw [HXN.out] at hlk
              have HLK := Bx.mk hlk
              clear hlk hy hqe
              have e1 : ((A : Int) + (q : Int)).toNat = A + q := by omega
              have e2 : IntKind.i64.wrap ((A : Int) + (q : Int)) = (A : Int) + (q : Int) := by rw [IntKind.wrap_i64]; omega
              have e3 : (A : Int) + (q : Int) < (T : Int) := by omega
              have e4 : 0 ≤ (A : Int) + (q : Int) := by omega
              go_wp2_with fail
              go_quiet (fail)
              go_wp2
              go_ret2
              have e5 := HS.out
              rw [show 16 - n = (15 - n) + 1 from by omega, HX.out y (by rw [HLEN.out]; exact HEND.out) (by rw [HXN.out]; exact HLK.out)] at e5
              unfold SymPost
              rw [← e5]
              exact ⟨(HK.out.trans HKP.out).drewN _, rfl, HRW.out.drewN _⟩
            · have HLK := Bx.mk (H3.out (by rw [HF0.out, HXN.out]; exact hlow) (by rw [HF0.out, HXN.out]; omega))
              go_wp2
              go_roundw
              case rel =>
                have e5 := HS.out
                rw [show 16 - n = (15 - n) + 1 from by omega, HX2.out (by rw [HLEN.out]; exact HEND.out) HLK.out] at e5
                rw [HXN.out] at e5
                refine ⟨n + 1, i' + 1, x, by omega, by omega, hi2, ?_, by go_num, rfl, ?_, HRW.out, HK.out.trans HKP.out⟩
                · rw [HPOW.out]; have := HC.out; omega
                · rw [show 16 - (n + 1) = 15 - n from by omega]; exact e5
              case measure => simp [intOf]; omega
          · have HLK := Bx.mk (H2.out (by rw [HF0.out, HXN.out]; exact hlow))
            go_wp2
            go_roundw
            case rel =>
              have e5 := HS.out
              rw [show 16 - n = (15 - n) + 1 from by omega, HX2.out (by rw [HLEN.out]; exact HEND.out) HLK.out] at e5
              rw [HXN.out] at e5
              refine ⟨n + 1, i' + 1, x, by omega, by omega, hi2, ?_, by go_num, rfl, ?_, HRW.out, HK.out.trans HKP.out⟩
              · rw [HPOW.out]; have := HC.out; omega
              · rw [show 16 - (n + 1) = 15 - n from by omega]; exact e5
            case measure => simp [intOf]; omega
    · obtain rfl : n = 16 := by omega
      have hd2 : decide ((16 : Int) ≤ 15) = false := by decide
      go_wp2
      go_ret2
      have e1 : ((4 : Nat), (0 : Nat), i') = SqP.sym L s.data.toList i := (SqP.symGo_zero L s.data.toList 16 c i').symm.trans HS.out
      refine ⟨HK.out, ?_⟩
      rw [← e1]
      exact ⟨rfl, HR.out⟩
end Go.Proofs.YtefklhjjhcobmaaDoor
