/- The walk of unpacked. -/
import Derived.Test.YtefklhjjhcobmaaDoorSqW6
namespace Go.Proofs.YtefklhjjhcobmaaDoor
open Go.RowKit
def UnpPost (L : List Nat) (s : ByteArray) (i n b : Nat) (w : World) (e : Ending) (w' : World) : Prop :=
  Keep (· = b) w w' ∧ e = .returned (.tuple #[.string ⟨(SqP.unp L s.data.toList n (n + 1) i []).2.toArray⟩, .int .i64 ((SqP.unp L s.data.toList n (n + 1) i []).1 : Int)])
theorem UnpPost.err {L : List Nat} {s : ByteArray} {i n b e : Nat} {w w' : World} (hk : Keep (· = b) w w') (h : SqP.unp L s.data.toList n (n + 1) i [] = (e, [])) :
    UnpPost L s i n b w (.returned (.tuple #[.string { data := #[] }, .int .i64 (e : Int)])) w' := by
  refine ⟨hk, ?_⟩
  rw [h]
theorem u8Info : (Tryd.prog.info? 5).map (fun i => (i.zero, i.size, i.bytes)) = some (some (.int .u8 0), 1, 1) := by kernel_rfl
def atOf (w : World) (b : Nat) : Nat := match w.cell? ⟨b, 1, none⟩ with | some (.int _ q) => q.toNat | _ => 0
theorem atOf_row {w : World} {b : Nat} {s : ByteArray} {j : Nat} (h : Row w b 49 (rdr s j)) : atOf w b = j := by
  unfold atOf
  rw [h.cell 1]
  simp [rdr]
set_option maxRecDepth 100000 in
set_option maxHeartbeats 2000000 in
theorem unpacked_any (L : List Nat) (s : ByteArray) (i d b n : Nat) (w : World) (hL : L.length = 272) (hs : s.size ≤ 1000000000) (hn : n ≤ 4294967295) (hi : i ≤ 8 * s.size) (hr : Row w b 49 (rdr s i)) (hD : Decoder L d b w) (hB : Bases w) (hb0 : b ≠ 0) :
    Calls Tryd.prog 19 #[.pointer (some ⟨b, 0, none⟩), .pointer (some ⟨d, 0, none⟩), .int .i64 (n : Int)] w (UnpPost L s i n b w) := by
  have HR := Bx.mk hr; clear hr
  have hlen := len_data s
  have HLEN := Bx.mk hlen; clear hlen
  have HB := Bx.mk hB; clear hB
  have HD := Bx.mk hD; clear hD
  have hblt := HR.out.lt
  have HBL := Bx.mk hblt; clear hblt
  obtain ⟨i0, hi5, hz0, hz1, hz2⟩ := info_parts u8Info
  go_enter Tryd.func19, Tryd.ntmps19
  go_wp2
  go_loopw [8] (fun v wr => ∃ (f j : Nat) (out : List UInt8), n - out.length < f ∧ j ≤ 8 * s.size ∧ out.length ≤ n ∧ SqP.unp L s.data.toList n f j out = SqP.unp L s.data.toList n (n + 1) i [] ∧ wr.ownsRow w.heap.size 5 1 v out.length (bvals out) ∧ Row wr b 49 (rdr s j) ∧ Keep (· = b) w wr) (fun v _ => n - lenOf v)
  case atStart => exact ⟨n + 1, i, [], by simp, hi, by simp, rfl, owns_nil _ _ _ _, HR.out, Keep.refl _ _⟩
  case round =>
    clear HR
    obtain ⟨f, j, out, hf, hj, hon, hun, hown, hr, hk⟩ := hrel
    obtain ⟨f, rfl⟩ : ∃ g, f = g + 1 := ⟨f - 1, by omega⟩
    have HUN := Bx.mk hun; clear hun
    have HR := Bx.mk hr; clear hr
    have HK := Bx.mk hk; clear hk
    have hob := owns_below hown
    have HOB := Bx.mk hob; clear hob
    obtain ⟨la, lcap, hv⟩ := owns_slice hown
    rw [hv] at hown HOB ⊢
    clear hv
    have HOWN := Bx.mk hown; clear hown
    by_cases hlt : out.length < n
    · have hdl : decide ((out.length : Int) < (n : Int)) = true := by simp; omega
      go_wp2_with fail
      refine (symbol_any L s j d b _ hL hs hj HR.out (HD.out.keep HK.out)).mono ?_
      rintro e w1 ⟨hk1, rfl, hr1⟩
      dsimp only
      have hbd := SqP.sym_bd L s.data.toList hL j (by rw [HLEN.out]; exact hj)
      rw [HLEN.out] at hbd
      have U1 := Bx.mk (SqP.unp_err L s.data.toList n f j out hlt)
      have U2 := Bx.mk (SqP.unp_byte L s.data.toList n f j out hlt)
      have U3 := Bx.mk (SqP.unp_short L s.data.toList n f j out hlt)
      have U4 := Bx.mk (SqP.unp_range L s.data.toList n f j out hlt)
      have U5 := Bx.mk (SqP.unp_large L s.data.toList n f j out hlt)
      have U6 := Bx.mk (SqP.unp_copy L s.data.toList n f j out hlt)
      have hk2 := HK.out.trans hk1
      have hown2 := owns_keep HOWN.out hk1 (fun k hk e => by have := HOB.out k hk; have := HBL.out; omega)
      generalize SqP.sym L s.data.toList j = r at *
      obtain ⟨er, sy, j1⟩ := r
      dsimp only at *
      clear HK HOWN HR hk1
      obtain ⟨hj1, hsy, her⟩ := hbd
      have HR := Bx.mk hr1; clear hr1
      have HK := Bx.mk hk2; clear hk2
      have HOWN := Bx.mk hown2; clear hown2
      by_cases he : er = 0
      · subst he
        by_cases hs256 : sy < 256
        · have hmod : (sy : Int) % 256 = (sy : Int) := by omega
          have hd256 : decide ((sy : Int) < 256) = true := by simp; omega
          go_wp2_with (at_builtin; (refine wpList_append_own _ rfl _ _ 28 rfl w.heap.size 5 i0 (.int .u8 0) 1 1 Tryd.underlying28 hi5 hz0 hz1 hz2 rfl (by decide) _ _ _ rfl (HOWN.out.alloc _) ⟨w1.heap.size, 0, none⟩ 1 1 [.int .u8 (sy : Int)] rfl rfl (cell1 _ _ _) ?c2 ?c3 ?c4 ?c5 ?_))
          case c2 => simp [Value.oneCell']
          case c3 => unfold maxLen; omega
          case c4 => omega
          case c5 => have := HK.out.size; simp; omega
          intro v' w2 hown' hgrow _
          have HO := Bx.mk hown'; clear hown'
          have HG := Bx.mk hgrow; clear hgrow
          obtain ⟨va, vc, hv⟩ := owns_slice HO.out
          rw [hv] at HO ⊢
          clear hv
          go_wp2
          go_roundw
          case rel =>
            have e5 := HUN.out
            rw [U2.out trivial hs256] at e5
            refine ⟨f, j1, out ++ [UInt8.ofNat sy], ?_, hj1, ?_, e5, ?_, ?_, ?_⟩
            · rw [List.length_append]; simp; omega
            · rw [List.length_append]; simp; omega
            · rw [List.length_append, bvals_append, bvals_one]
              have e6 : ((UInt8.ofNat sy).toNat : Int) = (sy : Int) := by simp; omega
              rw [e6]
              exact HO.out
            · exact HR.out.grown HG.out (fun e => by have := HOB.out _ e; have := HBL.out; omega)
            · exact keep_grown HK.out _ HG.out HOB.out
          case measure => simp [lenOf]; omega
        · have hd256 : decide ((sy : Int) < 256) = false := by simp; omega
          obtain ⟨hb3, hb265, hx8⟩ := SqP.base_bd sy hsy hs256
          have hBs := HB.out.keep HK.out (fun e => hb0 e.symm)
          go_wp2_with fail
          refine (span_any sy _ (by omega) hsy hBs).mono ?_
          rintro e w2 ⟨rfl, rfl⟩
          dsimp only
          generalize hgb : SqP.base sy = bs at *
          generalize hgx : SqP.extra sy = x at *
          clear hgb hgx hBs
          by_cases hA : j1 + x ≤ 8 * s.size
          · go_wp2_with fail
            refine (number_any s j1 x b _ hs hj1 (by omega) HR.out).mono ?_
            rintro e w3 ⟨hk3, hp3⟩
            rw [if_pos hA] at hp3
            obtain ⟨rfl, hr3⟩ := hp3
            dsimp only
            have ha := SqP.numAt_lt s.data.toList j1 x
            have ha2 : SqP.numAt s.data.toList j1 x < 256 := Nat.lt_of_lt_of_le ha (Nat.pow_le_pow_right (n := 2) (by omega) hx8)
            clear ha
            have hown3 := owns_keep HOWN.out hk3 (fun k hk e => by have := HOB.out k hk; have := HBL.out; omega)
            have hk4 := HK.out.trans hk3
            clear HOWN HK hk3 HR
            have HOWN := Bx.mk hown3; clear hown3
            have HK := Bx.mk hk4; clear hk4
            have HR := Bx.mk hr3; clear hr3
            by_cases hA2 : j1 + x + 15 ≤ 8 * s.size
            · go_wp2_with fail
              refine (number_any s (j1 + x) 15 b _ hs hA (by omega) HR.out).mono ?_
              rintro e w4 ⟨hk3, hp3⟩
              rw [if_pos hA2] at hp3
              obtain ⟨rfl, hr3⟩ := hp3
              dsimp only
              have hbb := SqP.numAt_bd s.data.toList (j1 + x) 15 (by omega)
              have hown3 := owns_keep HOWN.out hk3 (fun k hk e => by have := HOB.out k hk; have := HBL.out; omega)
              have hk4 := HK.out.trans hk3
              clear HOWN HK hk3 HR
              have HOWN := Bx.mk hown3; clear hown3
              have HK := Bx.mk hk4; clear hk4
              have HR := Bx.mk hr3; clear hr3
              generalize SqP.numAt s.data.toList j1 x = na at *
              generalize SqP.numAt s.data.toList (j1 + x) 15 = nb at *
              have hnsh : ¬ 8 * s.size < j1 + x + 15 := by omega
              rw [HLEN.out] at U3 U4 U5 U6
              by_cases hrg : out.length < nb + 1
              · have e5 := HUN.out
                rw [U4.out trivial hs256 hnsh hrg] at e5
                have E5 := Bx.mk e5.symm; clear e5
                go_wp2
                go_ret2
                exact UnpPost.err HK.out E5.out
              · by_cases hlg : n - out.length < bs + na
                · have e5 := HUN.out
                  rw [U5.out trivial hs256 hnsh hrg hlg] at e5
                  have E5 := Bx.mk e5.symm; clear e5
                  go_wp2
                  go_ret2
                  exact UnpPost.err HK.out E5.out
                · have e5 := HUN.out
                  rw [U6.out trivial hs256 hnsh hrg hlg] at e5
                  have E5 := Bx.mk e5; clear e5
                  obtain ⟨fr, hfr⟩ : ∃ fr : Nat, (out.length : Int) - (nb : Int) - 1 = (fr : Int) := ⟨out.length - nb - 1, by omega⟩
                  have hfrn : fr + nb + 1 = out.length := by omega
                  have HFR := Bx.mk hfrn; clear hfrn
                  have hfrl : fr < out.length := by have := HFR.out; omega
                  go_wp2
                  have hstart : w4.ownsRow w.heap.size 5 1 (.slice la out.length lcap) (out.length + 0) (bvals (SqP.cps out (nb + 1) 0)) := by rw [SqP.cps_zero]; exact HOWN.out
                  go_loopw [8, 71] (fun v c wr => ∃ k : Nat, k ≤ bs + na ∧ c = .int .i64 k ∧ wr.ownsRow w.heap.size 5 1 v (out.length + k) (bvals (SqP.cps out (nb + 1) k)) ∧ Row wr b 49 (rdr s (j1 + x + 15)) ∧ Keep (· = b) w wr) (fun _ c _ => bs + na - (intOf c).toNat)
                  case atStart => exact ⟨0, by omega, rfl, hstart, HR.out, HK.out⟩
                  case round =>
                    clear hstart HOWN HR HK HOB
                    obtain ⟨k, hkb, rfl, hown, hr, hk⟩ := hrel
                    have hob := owns_below hown
                    have HOB := Bx.mk hob; clear hob
                    obtain ⟨la, lcap, hv⟩ := owns_slice hown
                    rw [hv] at hown HOB ⊢
                    clear hv
                    have HOWN := Bx.mk hown; clear hown
                    have HR := Bx.mk hr; clear hr
                    have HK := Bx.mk hk; clear hk
                    by_cases hkk : k < bs + na
                    · have hdk : decide ((k : Int) < (bs : Int) + (na : Int)) = true := by simp; omega
                      obtain ⟨g, cap, hv, _, hgc, hgcell, _⟩ := owns_read HOWN.out (by omega)
                      have hce := hgcell (fr + k) (by omega)
                      have hlen2 := SqP.cps_len out (nb + 1) k
                      have hval : (bvals (SqP.cps out (nb + 1) k))[fr + k]? = some (.int .u8 (((SqP.cps out (nb + 1) k).getD ((SqP.cps out (nb + 1) k).length - (nb + 1)) 0).toNat : Int)) := by
                        have e : (SqP.cps out (nb + 1) k).length - (nb + 1) = fr + k := by rw [hlen2]; have := HFR.out; omega
                        rw [e]
                        unfold bvals
                        rw [List.getElem?_map, List.getD_eq_getElem?_getD, List.getElem?_eq_getElem (by rw [hlen2]; omega)]
                        rfl
                      rw [hval] at hce
                      clear hval hlen2 hgcell
                      have HSC := Bx.mk (SqP.cps_succ out (nb + 1) k)
                      obtain ⟨y, hy⟩ : ∃ y, (SqP.cps out (nb + 1) k).getD ((SqP.cps out (nb + 1) k).length - (nb + 1)) 0 = y := ⟨_, rfl⟩
                      rw [hy] at hce HSC
                      clear hy
                      rw [hv] at HOWN HOB ⊢
                      injection hv with hv1 hv2 hv3
                      clear hv1 hv2 hv3
                      have e1 : ((fr : Int) + (k : Int)).toNat = fr + k := by omega
                      have hll : out.length + k ≤ n := by omega
                      go_wp2_with (at_builtin; (refine wpList_append_own _ rfl _ _ 28 rfl w.heap.size 5 i0 (.int .u8 0) 1 1 Tryd.underlying28 hi5 hz0 hz1 hz2 rfl (by decide) _ _ _ rfl (HOWN.out.alloc _) ⟨wr.heap.size, 0, none⟩ 1 1 [.int .u8 (y.toNat : Int)] rfl rfl (cell1 _ _ _) ?c2 ?c3 ?c4 ?c5 ?_))
                      case c2 => simp [Value.oneCell']
                      case c3 => unfold maxLen; omega
                      case c4 => omega
                      case c5 => have := HK.out.size; simp; omega
                      intro v' w2 hown' hgrow _
                      have HO := Bx.mk hown'; clear hown'
                      have HG := Bx.mk hgrow; clear hgrow
                      obtain ⟨va, vc, hv⟩ := owns_slice HO.out
                      rw [hv] at HO ⊢
                      clear hv
                      go_wp2
                      go_roundw
                      case rel =>
                        refine ⟨k + 1, by omega, by go_num, ?_, HR.out.grown HG.out (fun e => by have := HOB.out _ e; have := HBL.out; omega), keep_grown HK.out _ HG.out HOB.out⟩
                        rw [HSC.out, bvals_append, bvals_one]
                        exact HO.out
                      case measure => simp [intOf]; omega
                    · have hkk2 : k = bs + na := by omega
                      have HKK := Bx.mk hkk2; clear hkk2
                      have hdk : decide ((k : Int) < (bs : Int) + (na : Int)) = false := by simp; omega
                      go_wp2
                      go_roundw
                      case rel =>
                        have e5 := E5.out
                        rw [← HKK.out] at e5
                        have hl := SqP.cps_len out (nb + 1) k
                        refine ⟨f, j1 + x + 15, SqP.cps out (nb + 1) k, by omega, hA2, by omega, e5, ?_, HR.out, HK.out⟩
                        rw [hl]; exact HOWN.out
                      case measure => simp [lenOf]; omega
            · have e5 := HUN.out
              rw [U3.out trivial hs256 (by rw [HLEN.out]; omega)] at e5
              have E5 := Bx.mk e5.symm; clear e5
              go_wp2_with fail
              refine (number_any s (j1 + x) 15 b _ hs hA (by omega) HR.out).mono ?_
              rintro e w4 ⟨hk3, hp3⟩
              rw [if_neg hA2] at hp3
              obtain ⟨rfl, hr3⟩ := hp3
              dsimp only
              have hk4 := HK.out.trans hk3
              clear HK hk3
              have HK := Bx.mk hk4; clear hk4
              go_wp2
              go_ret2
              exact UnpPost.err HK.out E5.out
          · have e5 := HUN.out
            rw [U3.out trivial hs256 (by rw [HLEN.out]; omega)] at e5
            have E5 := Bx.mk e5.symm; clear e5
            go_wp2_with fail
            refine (number_any s j1 x b _ hs hj1 (by omega) HR.out).mono ?_
            rintro e w3 ⟨hk3, hp3⟩
            rw [if_neg hA] at hp3
            obtain ⟨rfl, hr3⟩ := hp3
            dsimp only
            have hk4 := HK.out.trans hk3
            clear HK hk3
            have HK := Bx.mk hk4; clear hk4
            go_wp2_with fail
            refine (number_any s (8 * s.size) 15 b _ hs (by omega) (by omega) hr3).mono ?_
            rintro e w4 ⟨hk3, hp3⟩
            rw [if_neg (by omega)] at hp3
            obtain ⟨rfl, hr4⟩ := hp3
            dsimp only
            have hk4 := HK.out.trans hk3
            clear HK hk3
            have HK := Bx.mk hk4; clear hk4
            go_wp2
            go_ret2
            exact UnpPost.err HK.out E5.out
      · have hne : ((er : Int) != 0) = true := by rw [bne_iff_ne]; omega
        have e5 := HUN.out
        rw [U1.out he] at e5
        have E5 := Bx.mk e5.symm; clear e5
        go_wp2
        go_ret2
        exact UnpPost.err HK.out E5.out
    · have hdl : decide ((out.length : Int) < (n : Int)) = false := by simp; omega
      have e5 := HUN.out
      rw [SqP.unp_fin _ _ _ _ _ _ hlt, SqP.fin_eq] at e5
      have E5 := Bx.mk e5; clear e5
      go_wp2
      go_loopw [] (fun wr => ∃ j' f' : Nat, j' ≤ 8 * s.size ∧ (j' % 8 ≠ 0 → 8 - j' % 8 ≤ f') ∧ SqP.pad s.data.toList f' j' = SqP.pad s.data.toList 8 j ∧ wr.ownsRow w.heap.size 5 1 (.slice la out.length lcap) out.length (bvals out) ∧ Row wr b 49 (rdr s j') ∧ Keep (· = b) w wr) (fun wr => 8 * s.size - atOf wr b)
      case atStart => exact ⟨j, 8, hj, by omega, rfl, HOWN.out, HR.out, HK.out⟩
      case round =>
        clear HOWN HR HK
        obtain ⟨j', f', hj', hf', hpad, hown, hr, hk⟩ := hrel
        have hc0 : wr.cell? ⟨b, 0, none⟩ = some (.string s) := hr.cell 0
        have hc1 : wr.cell? ⟨b, 1, none⟩ = some (.int .i64 (j' : Int)) := hr.cell 1
        have HOWN := Bx.mk hown; clear hown
        have HR := Bx.mk hr; clear hr
        have HK := Bx.mk hk; clear hk
        have HP := Bx.mk hpad; clear hpad
        have hm : (j' : Int).tmod 8 = (j' : Int) % 8 := Int.tmod_eq_emod_of_nonneg (by omega)
        by_cases hr8 : j' % 8 = 0
        · have hne : ((j' : Int) % 8 != 0) = false := by rw [bne_eq_false_iff_eq]; omega
          have hp := HP.out
          rw [SqP.pad_end _ _ _ hr8] at hp
          rw [← hp] at E5
          clear hp
          by_cases hfin : j' < 8 * s.size
          · have e5 := E5.out
            simp only [HLEN.out, if_pos hfin] at e5
            have E6 := Bx.mk e5.symm; clear e5 E5
            go_wp2
            go_quiet (fail)
            go_wp2
            go_ret2
            exact UnpPost.err (HK.out.drewN _) E6.out
          · have e5 := E5.out
            simp only [HLEN.out, if_neg hfin] at e5
            have E6 := Bx.mk e5.symm; clear e5 E5
            have hstr := fun k => owned_string (P := Tryd.prog) (src := 28) (dst := 9) Tryd.underlying28 Tryd.underlying5 Tryd.underlying9 (show (wr.drewN k).ownsRow w.heap.size 5 1 (.slice la out.length lcap) out.length (bvals out) from HOWN.out)
            go_wp2
            go_quiet (fail)
            go_wp2
            go_ret2
            refine ⟨HK.out.drewN _, ?_⟩
            rw [E6.out]
            rfl
        · have hne : ((j' : Int) % 8 != 0) = true := by rw [bne_iff_ne]; omega
          obtain ⟨g, rfl⟩ : ∃ g, f' = g + 1 := ⟨f' - 1, by have := hf' hr8; omega⟩
          have hjl : j' < 8 * s.size := by omega
          have hb2 := SqP.bitAt_lt s.data.toList j'
          have hgl : (j' + 1) % 8 ≠ 0 → 8 - (j' + 1) % 8 ≤ g := by have := hf' hr8; omega
          have HGL := Bx.mk hgl; clear hgl hf'
          go_wp2_with fail
          refine (bit_some s j' b _ hs hjl HR.out).mono ?_
          rintro e w4 ⟨rfl, hr4, hk4⟩
          dsimp only
          have hown3 := owns_keep HOWN.out hk4 (fun k hk e => by have := HOB.out k hk; have := HBL.out; omega)
          have hk5 := HK.out.trans hk4
          clear hc0 hc1 HOWN HK hk4
          have HOWN := Bx.mk hown3; clear hown3
          have HK := Bx.mk hk5; clear hk5
          have HR1 := HR; clear HR
          have HR := Bx.mk hr4; clear hr4
          by_cases hbz : SqP.bitAt s.data.toList j' = 0
          · have hbb : (((SqP.bitAt s.data.toList j' : Nat) : Int) != 0) = false := by rw [bne_eq_false_iff_eq]; omega
            have hpz := SqP.pad_zero s.data.toList g j' hr8 hbz
            have HPZ := Bx.mk hpz; clear hpz
            generalize SqP.bitAt s.data.toList j' = y at *
            clear hbz
            go_wp2
            go_roundw
            case rel => exact ⟨j' + 1, g, by omega, HGL.out, HPZ.out.symm.trans HP.out, HOWN.out, HR.out, HK.out⟩
            case measure =>
              rw [atOf_row HR.out, atOf_row HR1.out]; omega
          · have hbb : (((SqP.bitAt s.data.toList j' : Nat) : Int) != 0) = true := by rw [bne_iff_ne]; omega
            have hp := HP.out
            rw [SqP.pad_one s.data.toList g j' hr8 hbz] at hp
            rw [← hp] at E5
            clear hp
            have E6 := Bx.mk E5.out.symm; clear E5
            generalize SqP.bitAt s.data.toList j' = y at *
            clear hbz
            go_wp2
            go_ret2
            exact UnpPost.err HK.out E6.out
end Go.Proofs.YtefklhjjhcobmaaDoor
