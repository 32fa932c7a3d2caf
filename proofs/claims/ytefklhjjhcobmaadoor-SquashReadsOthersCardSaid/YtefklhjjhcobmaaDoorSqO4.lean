/- The law's walk, its first part (loops 1 and 2), and the whole. -/
import Derived.Test.YtefklhjjhcobmaaDoorSqO3
namespace Go.Proofs.YtefklhjjhcobmaaDoor
open Go.RowKit
set_option maxRecDepth 100000 in
set_option maxHeartbeats 8000000 in
theorem others_any (la : Option Addr) (len cap : Nat) (z : Nat → Int) (w : World) (hcap : len ≤ cap) (hcap2 : cap ≤ maxLen) (hz : ∀ i, -9223372036854775808 ≤ z i ∧ z i ≤ 9223372036854775807) (hA : ArgAt la len z w) (hB : Bases w) :
    Calls Tryd.prog 5 #[.slice la len cap] w (OthersPost w) := by
  unfold maxLen at hcap2
  have HB := Bx.mk hB; clear hB
  have HA := Bx.mk hA; clear hA
  have HZ := Bx.mk hz; clear hz
  go_enter Tryd.func5, Tryd.ntmps5
  go_upto_region 1 with fail
  go_cut [0] (fun v wx => ∃ m : Nat, v = .slice la m cap ∧ m ≤ 60 ∧ m ≤ len ∧ w = wx)
  case first =>
    by_cases h60 : len ≤ 60
    · go_wp2
      go_meet
      exact ⟨_, rfl, h60, Nat.le_refl _, rfl⟩
    · go_wp2
      go_meet
      exact ⟨_, rfl, Nat.le_refl _, by omega, rfl⟩
  case rest =>
    obtain ⟨m, rfl, hm60, hml, rfl⟩ := hcut
    obtain ⟨i0, hi, hz0, hz1, hz2⟩ := info_parts tokInfo
    go_upto_block 0 with fail
    go_cut [3, 4] (fun l o wx => ∃ (ts : List SqP.Tok) (ga : Option Addr) (gc : Nat), l = .slice ga ts.length gc ∧ o = .string (bstr (SqP.dec ts)) ∧ ts.length ≤ 60 ∧ SqP.Valid [] ts ∧ (SqP.dec ts).length ≤ 2660 ∧ wx.ownsRow w.heap.size 33 4 (.slice ga ts.length gc) ts.length (tksC ts) ∧ Below w.heap.size w wx)
    case first =>
      go_wp2_with fail
      go_loopw [3, 4, 41] (fun l o iv wr => ∃ (k : Nat) (ts : List SqP.Tok), k ≤ m ∧ iv = .int .i64 (k : Int) ∧ ts.length ≤ k ∧ SqP.Valid [] ts ∧ o = .string (bstr (SqP.dec ts)) ∧ (SqP.dec ts).length ≤ 2600 + k ∧ wr.ownsRow w.heap.size 33 4 l ts.length (tksC ts) ∧ Below w.heap.size w wr) (fun _ _ iv _ => m - (intOf iv).toNat)
      case atStart => exact ⟨0, [], by omega, rfl, by simp, trivial, rfl, by simp [SqP.dec], owns_nil _ _ _ _, Below.refl _ _⟩
      case round =>
        obtain ⟨k, ts, hk, rfl, htl, hval, rfl, hol, hown, hbel⟩ := hrel
        have hob := owns_below hown
        obtain ⟨ga, gc, hv⟩ := owns_slice hown
        rw [hv] at hown hob ⊢
        clear hv
        have HOB := Bx.mk hob; clear hob
        have HOWN := Bx.mk hown; clear hown
        have HBEL := Bx.mk hbel; clear hbel
        have HVAL := Bx.mk hval; clear hval
        obtain ⟨out, hout⟩ : ∃ out, SqP.dec ts = out := ⟨_, rfl⟩
        rw [hout] at hol ⊢
        have HOUT := Bx.mk hout; clear hout
        have hosz : (bstr out).size = out.length := bstr_size out
        by_cases hkm : k < m
        · have hdk : decide ((k : Int) < (m : Int)) = true := by simp; omega
          obtain ⟨ag, ao, hla, hag, hac⟩ := HA.out (by omega)
          have HLA := Bx.mk hla; clear hla
          rw [HLA.out]
          have hcell : wr.cell? ⟨ag, ao + k, none⟩ = some (.int .i64 (z k)) := (HBEL.out.cell (p := ⟨ag, ao + k, none⟩) hag).trans (hac k (by omega))
          obtain ⟨hr1, hr2⟩ := HZ.out k
          clear hac
          generalize z k = r at *
          go_upto_region 7 with fail
          go_cut [57] (fun v wx => ∃ b : Bool, v = .bool b ∧ (b = false → 0 < out.length ∧ out.length ≤ 2000) ∧ wr = wx)
          case first =>
            by_cases ho0 : out = []
            · subst ho0
              have hn1 : (bstr []).toList.isEmpty = true := by rw [bstr_emp]; rfl
              have hn2 : (bstr []).toList = [] := by unfold bstr; rw [ByteArray.toList_mk]
              go_wp2
              go_meet
              exact ⟨_, rfl, (fun h => by cases h), rfl⟩
            · have hne : (bstr out).toList.isEmpty = false := by rw [bstr_emp]; simpa using ho0
              have hpos : 0 < out.length := List.length_pos_iff.2 ho0
              go_wp2_with fail
              refine (mod_ex _ _ _ (by omega) (by omega)).mono ?_
              rintro e w1 ⟨q, hq, rfl, rfl⟩
              dsimp only
              by_cases hq0 : 0 < q
              · have hd0 : decide ((0 : Int) < (q : Int)) = true := by simp; omega
                go_wp2
                go_meet
                exact ⟨_, rfl, (fun h => by cases h), rfl⟩
              · have hd0 : decide ((0 : Int) < (q : Int)) = false := by simp; omega
                by_cases h2000 : 2000 < out.length
                · have hd1 : decide ((2000 : Int) < (out.length : Int)) = true := by simp; omega
                  go_wp2
                  go_meet
                  exact ⟨_, rfl, (fun h => by cases h), rfl⟩
                · have hd1 : decide ((2000 : Int) < (out.length : Int)) = false := by simp; omega
                  go_wp2
                  go_meet
                  exact ⟨_, rfl, (fun _ => ⟨hpos, by omega⟩), rfl⟩
          case rest =>
            obtain ⟨b, rfl, hb, rfl⟩ := hcut
            cases b with
            | true =>
              clear hb
              go_wp2_with fail
              refine (mod_ex _ _ _ (by omega) (by omega)).mono ?_
              rintro e w1 ⟨q, hq, rfl, rfl⟩
              dsimp only
              obtain ⟨c, hc⟩ : ∃ c : Nat, (97 : Int) + (q : Int) = (c : Int) := ⟨97 + q, by omega⟩
              have hc256 : c < 256 := by omega
              have hcm : (c : Int) % 256 = (c : Int) := by omega
              have hcv := fun W => conv1 (P := Tryd.prog) (src := 28) (dst := 9) Tryd.underlying28 Tryd.underlying5 Tryd.underlying9 W c hc256
              have hds : (bstr [UInt8.ofNat c]).size ≤ 1 := by rw [bstr_size]; simp
              have hadd := bstr_app2 out [UInt8.ofNat c]
              generalize hdse : bstr [UInt8.ofNat c] = ds at *
              go_wp2_with (at_builtin; (refine wpList_append_own _ rfl _ _ 31 rfl w.heap.size 33 i0 (.agg #[.int .i64 0, .int .i64 0, .int .i64 0, .int .i64 0]) 4 32 Tryd.underlying31 hi hz0 hz1 hz2 rfl (by decide) _ _ _ rfl (HOWN.out.alloc _) ⟨wr.heap.size, 0, none⟩ 1 1 [.int .i64 (c : Int), .int .i64 0, .int .i64 0, .int .i64 0] rfl rfl (cell4 _ _ _ _ _ _) ?c2 ?c3 ?c4 ?c5 ?_))
              case c2 => simp [Value.oneCell']
              case c3 => unfold maxLen; omega
              case c4 => omega
              case c5 => have := HBEL.out.size; simp; omega
              intro v' w2 hown' hgrow _
              have HO := Bx.mk hown'; clear hown'
              have HG := Bx.mk hgrow; clear hgrow
              obtain ⟨va, vc, hv⟩ := owns_slice HO.out
              rw [hv] at HO ⊢
              clear hv
              go_wp2
              try rw [← HLA.out]
              go_roundw
              case rel =>
                have hd1 : SqP.dec (ts ++ [(c, 0, 0, 0)]) = out ++ [UInt8.ofNat c] := by
                  rw [SqP.dec_snoc, HOUT.out]; unfold SqP.stp; rw [if_pos hc256]
                refine ⟨k + 1, ts ++ [(c, 0, 0, 0)], by omega, by go_num, by simp; omega, SqP.valid_snoc ts [] _ HVAL.out (.inl hc256), by rw [hd1], by rw [hd1, List.length_append]; simp; omega, ?_, (((HBEL.out.alloc HBEL.out.size _).grown HG.out (by have := HBEL.out.size; simp; omega) HOB.out)).alloc (by have := HBEL.out.size; have := HG.out.size; simp at this; omega) _⟩
                rw [tksC_snoc, List.length_append]
                exact HO.out.alloc _
              case measure => simp [intOf]; omega
            | false =>
              obtain ⟨hpos, h2000⟩ := hb rfl
              clear hb
              go_wp2_with fail
              refine (mod_ex _ _ _ (by omega) (by omega)).mono ?_
              rintro e w1 ⟨q, hq, rfl, rfl⟩
              dsimp only
              go_wp2_with fail
              refine (mod_ex _ _ _ (by omega) (by omega)).mono ?_
              rintro e w1 ⟨kk, hkk, rfl, rfl⟩
              dsimp only
              have hkk15 : kk ≤ 15 := by omega
              obtain ⟨hb3, hb265, hx8⟩ := SqP.base_bd (256 + kk) (by omega) (by omega)
              obtain ⟨bs, hbs⟩ : ∃ bs, SqP.base (256 + kk) = bs := ⟨_, rfl⟩
              obtain ⟨x, hx⟩ : ∃ x, SqP.extra (256 + kk) = x := ⟨_, rfl⟩
              rw [hbs] at hb3 hb265
              rw [hx] at hx8
              have HBS := Bx.mk hbs; clear hbs
              have HX := Bx.mk hx; clear hx
              go_upto_if 89 with fail
              go_cut [10, 11] (fun b xv wx => b = .int .i64 (bs : Int) ∧ xv = .int .i64 (x : Int) ∧ wx.ownsRow w.heap.size 33 4 (.slice ga ts.length gc) ts.length (tksC ts) ∧ Below w.heap.size w wx)
              case first =>
                by_cases hk8 : 8 ≤ kk
                · have hd8 : decide ((8 : Int) ≤ (kk : Int)) = true := by simp; omega
                  obtain ⟨j, hj⟩ : ∃ j : Nat, (kk : Int) - 8 = (j : Int) := ⟨kk - 8, by omega⟩
                  have hj8 : j < 8 := by omega
                  have hcell8 : ∀ W : World, (W.alloc (.cells #[.int .i64 11, .int .i64 13, .int .i64 17, .int .i64 25, .int .i64 41, .int .i64 73, .int .i64 137, .int .i64 265] 3)).cell? ⟨W.heap.size, j, none⟩ = some (.int .i64 (bs : Int)) := fun W => by
                    rw [cell_of_row _ _ _ _ _ _ (heap_alloc_new W _)]
                    have key : ∀ j : Fin 8, (#[.int .i64 11, .int .i64 13, .int .i64 17, .int .i64 25, .int .i64 41, .int .i64 73, .int .i64 137, .int .i64 265] : Array Value)[j.val]? = some (.int .i64 ((SqP.base (256 + (j.val + 8)) : Nat) : Int)) := by
                      intro j
                      match j with
                      | ⟨0, _⟩ => rfl
                      | ⟨1, _⟩ => rfl
                      | ⟨2, _⟩ => rfl
                      | ⟨3, _⟩ => rfl
                      | ⟨4, _⟩ => rfl
                      | ⟨5, _⟩ => rfl
                      | ⟨6, _⟩ => rfl
                      | ⟨7, _⟩ => rfl
                    have e := key ⟨j, hj8⟩
                    rw [show j + 8 = kk from by omega, HBS.out] at e
                    exact e
                  have HXE := Bx.mk (show ((kk : Int) - 7) = (x : Int) by have h1 := extra_high kk hk8; rw [HX.out] at h1; omega)
                  go_wp2
                  go_meet
                  exact ⟨rfl, by rw [HXE.out], HOWN.out.alloc _, HBEL.out.alloc HBEL.out.size _⟩
                · have hd8 : decide ((8 : Int) ≤ (kk : Int)) = false := by simp; omega
                  have HL1 := Bx.mk (base_low kk (by omega))
                  rw [HBS.out, HX.out] at HL1
                  go_wp2
                  go_meet
                  exact ⟨by rw [HL1.out.1]; go_num, by rw [HL1.out.2]; rfl, HOWN.out, HBEL.out⟩
              case rest =>
                clear HOWN HBEL
                obtain ⟨rfl, rfl, hown, hbel⟩ := hcut
                have HOWN := Bx.mk hown; clear hown
                have HBEL := Bx.mk hbel; clear hbel
                have hp1 : 2 ^ x ≤ 256 := Nat.pow_le_pow_right (n := 2) (by omega) hx8
                have hp2 : 0 < 2 ^ x := Nat.two_pow_pos x
                have hshl : (2 : Int) ^ x = ((2 ^ x : Nat) : Int) := by simp
                obtain ⟨pw, hpw⟩ : ∃ pw, 2 ^ x = pw := ⟨_, rfl⟩
                rw [hpw] at hp1 hp2 hshl
                have HPW := Bx.mk hpw; clear hpw
                go_wp2_with fail
                refine (mod_ex _ _ _ (by omega) (by omega)).mono ?_
                rintro e w1 ⟨a, ha, rfl, rfl⟩
                dsimp only
                have hapw : a < pw := by omega
                have hq1 : (1 : Int) + (q : Int) - 1 = (q : Int) := by omega
                go_wp2_with (at_builtin; (refine wpList_append_own _ rfl _ _ 31 rfl w.heap.size 33 i0 (.agg #[.int .i64 0, .int .i64 0, .int .i64 0, .int .i64 0]) 4 32 Tryd.underlying31 hi hz0 hz1 hz2 rfl (by decide) _ _ _ rfl (HOWN.out.alloc _) ⟨wc.heap.size, 0, none⟩ 1 1 [.int .i64 (256 + (kk : Int)), .int .i64 (a : Int), .int .i64 (x : Int), .int .i64 (q : Int)] rfl rfl (cell4 _ _ _ _ _ _) ?c2 ?c3 ?c4 ?c5 ?_))
                case c2 => simp [Value.oneCell']
                case c3 => unfold maxLen; omega
                case c4 => omega
                case c5 => have := HBEL.out.size; simp; omega
                intro v' w2 hown' hgrow _
                have HO := Bx.mk hown'; clear hown'
                have HG := Bx.mk hgrow; clear hgrow
                obtain ⟨va, vc, hv⟩ := owns_slice HO.out
                rw [hv] at HO ⊢
                clear hv
                go_wp2
                go_loop [4, 115] (fun o kv => ∃ j : Nat, j ≤ bs + a ∧ kv = .int .i64 (j : Int) ∧ o = .string (bstr (SqP.cps out (q + 1) j))) (fun _ kv => bs + a - (intOf kv).toNat)
                case atStart => exact ⟨0, by omega, rfl, by rw [SqP.cps_zero]⟩
                case round =>
                  obtain ⟨j, hj, rfl, rfl⟩ := hrel
                  have hcl : (bstr (SqP.cps out (q + 1) j)).size = out.length + j := by rw [bstr_size, SqP.cps_len]
                  by_cases hj2 : j < bs + a
                  · have hdj : decide ((j : Int) < (bs : Int) + (a : Int)) = true := by simp; omega
                    obtain ⟨fr, hfr⟩ : ∃ fr : Nat, ((out.length : Int) + (j : Int)) - (1 + (q : Int)) = (fr : Int) := ⟨out.length + j - (q + 1), by omega⟩
                    have hadd := cps_string out (q + 1) j fr (by omega) (by omega)
                    have hes : ((bstr (SqP.cps out (q + 1) j)).extract fr (fr + 1)).size ≤ 1 := by simp; omega
                    have hfl : (fr : Int) < (out.length : Int) + (j : Int) := by omega
                    generalize bstr (SqP.cps out (q + 1) j) = X at *
                    have hslice : ∀ wx : World, (Instr.slice 9 (.string X) (some (.int .i64 (fr : Int))) (some (.int .i64 ((fr : Int) + 1))) none).run Tryd.prog wx = .ok (.string (X.extract fr (fr + 1))) wx := fun wx =>
                      run_slice_string wx 9 X .i64 .i64 (fr : Int) ((fr : Int) + 1) Tryd.underlying9 (by omega) (by omega) (by rw [hcl]; omega)
                    go_wp2
                    go_round
                    case rel => exact ⟨j + 1, by omega, by go_num, rfl⟩
                    case measure => simp [intOf]; omega
                  · have hjb : j = bs + a := by omega
                    have HJB := Bx.mk hjb; clear hjb
                    have hdj : decide ((j : Int) < (bs : Int) + (a : Int)) = false := by simp; omega
                    have HLC := Bx.mk (SqP.cps_len out (q + 1) j)
                    go_wp2
                    try rw [← HLA.out]
                    go_roundw
                    case rel =>
                      have hok : SqP.okT (SqP.dec ts).length (256 + kk, a, x, q) := by
                        refine .inr ⟨by simp, by simp; omega, HX.out.symm, ?_, ?_, by simp; omega⟩
                        · show a < 2 ^ SqP.extra (256 + kk)
                          rw [HX.out, HPW.out]; exact hapw
                        · show q + 1 ≤ _
                          rw [HOUT.out]; omega
                      have hd1 : SqP.dec (ts ++ [(256 + kk, a, x, q)]) = SqP.cps out (q + 1) j := by
                        rw [SqP.dec_snoc, HOUT.out]; unfold SqP.stp; rw [if_neg (by simp)]
                        show SqP.cps out (q + 1) (SqP.base (256 + kk) + a) = _
                        rw [HBS.out, HJB.out]
                      have hlc := HLC.out
                      refine ⟨k + 1, ts ++ [(256 + kk, a, x, q)], by omega, by go_num, by simp; omega, SqP.valid_snoc ts [] _ HVAL.out hok, by rw [hd1], by rw [hd1, hlc]; omega, ?_, (HBEL.out.alloc HBEL.out.size _).grown HG.out (by have := HBEL.out.size; simp; omega) HOB.out⟩
                      rw [tksC_snoc, List.length_append]
                      exact HO.out
                    case measure => simp [intOf]; omega
        · obtain rfl : k = m := by omega
          have hdk : decide ((k : Int) < (k : Int)) = false := by simp
          go_wp2
          go_meet
          exact ⟨ts, ga, gc, rfl, by rw [HOUT.out], by omega, HVAL.out, by rw [HOUT.out]; omega, HOWN.out, HBEL.out⟩
    case rest =>
      obtain ⟨ts, ga, gc, rfl, rfl, h60, hval, hdl, hown, hbel⟩ := hcut
      have HVAL := Bx.mk hval
      apply_assumption
      exact others_2 w ts (SqP.dec ts) ga gc wc HB (Bx.mk hbel) (Bx.mk (TokAt.of hown)) (Bx.mk (valid_lt ts [] hval)) HVAL (Bx.mk rfl) h60 hdl
end Go.Proofs.YtefklhjjhcobmaaDoor
