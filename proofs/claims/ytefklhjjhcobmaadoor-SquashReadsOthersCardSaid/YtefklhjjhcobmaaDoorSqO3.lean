/- The law's walk, its middle part (loops 3 to 5). -/
import Derived.Test.YtefklhjjhcobmaaDoorSqO2
import Derived.Deep.CutBlock
namespace Go.Proofs.YtefklhjjhcobmaaDoor
open Go.RowKit
set_option maxRecDepth 100000 in
set_option maxHeartbeats 8000000 in
theorem others_2 {u0 u1 u5 u6 u7 u8 u9 u10 u11 u12 u13 u14 u15 u16 u17 u18 u19 u20 u21 u22 u23 u24 u25 u26 u27 u28 u29 u30 u31 u32 u33 u34 u35 u36 u37 u38 u39 u40 u41 u42 u43 u44 u45 u46 u47 u48 u49 u50 u51 u52 u53 u54 u55 u56 u57 u58 u59 u60 u61 u62 u63 u64 u65 u66 u67 u68 u69 u70 u71 u72 u73 u74 u75 u76 u77 u78 u79 u80 u81 u82 u83 u84 u85 u86 u87 u88 u89 u90 u91 u92 u93 u94 u95 u96 u97 u98 u99 u100 u101 u102 u103 u104 u105 u106 u107 u108 u109 u110 u111 u112 u113 u114 u115 u116 u117 u118 u119 u120 u121 u122 u123 u124 u125 u126 u127 u128 u129 u130 u131 u132 u133 u134 u135 u136 u137 u138 u139 u140 u141 u142 u143 u144 u145 u146 u147 u148 u149 u150 u151 u152 u153 u154 u155 u156 u157 u158 u159 u160 u161 u162 u163 u164 u165 u166 u167 u168 u169 u170 u171 u172 u173 u174 u175 u176 u177 u178 u179 u180 u181 u182 u183 u184 u185 u186 u187 u188 u189 u190 u191 u192 u193 u194 u195 u196 u197 u198 u199 u200 u201 u202 u203 u204 u205 u206 u207 u208 u209 u210 u211 u212 u213 u214 u215 u216 u217 u218 u219 u220 u221 u222 u223 u224 u225 u226 u227 u228 u229 u230 u231 u232 u233 u234 u235 u236 u237 u238 u239 u240 u241 u242 u243 u244 u245 u246 u247 u248 u249 u250 u251 u252 u253 u254 u255 u256 u257 u258 u259 u260 u261 u262 u263 u264 u265 u266 u267 u268 u269 u270 u271 u272 u273 u274 u275 u276 u277 u278 u279 u280 : Value} (w : World) (ts : List SqP.Tok) (out : List UInt8) (ga : Option Addr) (gc : Nat) (W1 : World) (HB : Bx (Bases w)) (HBELW : Bx (Below w.heap.size w W1)) (HTK : Bx (TokAt ts ga W1)) (HLT : Bx (∀ t ∈ ts, t.1 < 272)) (HVAL : Bx (SqP.Valid [] ts)) (HOUT : Bx (SqP.dec ts = out)) (htl60 : ts.length ≤ 60) (hol : out.length ≤ 2660) :
    Code.wp Tryd.prog ((Tryd.f5.body.bind (restOf 23)).getD .skip) (bodyPost Tryd.prog Tryd.f5 (OthersPost w)) ⟨#[u0, u1, .bool false, .slice ga ts.length gc, .string (bstr out), u5, u6, u7, u8, u9, u10, u11, u12, u13, u14, u15, u16, u17, u18, u19, u20, u21, u22, u23, u24, u25, u26, u27, u28, u29, u30, u31, u32, u33, u34, u35, u36, u37, u38, u39, u40, u41, u42, u43, u44, u45, u46, u47, u48, u49, u50, u51, u52, u53, u54, u55, u56, u57, u58, u59, u60, u61, u62, u63, u64, u65, u66, u67, u68, u69, u70, u71, u72, u73, u74, u75, u76, u77, u78, u79, u80, u81, u82, u83, u84, u85, u86, u87, u88, u89, u90, u91, u92, u93, u94, u95, u96, u97, u98, u99, u100, u101, u102, u103, u104, u105, u106, u107, u108, u109, u110, u111, u112, u113, u114, u115, u116, u117, u118, u119, u120, u121, u122, u123, u124, u125, u126, u127, u128, u129, u130, u131, u132, u133, u134, u135, u136, u137, u138, u139, u140, u141, u142, u143, u144, u145, u146, u147, u148, u149, u150, u151, u152, u153, u154, u155, u156, u157, u158, u159, u160, u161, u162, u163, u164, u165, u166, u167, u168, u169, u170, u171, u172, u173, u174, u175, u176, u177, u178, u179, u180, u181, u182, u183, u184, u185, u186, u187, u188, u189, u190, u191, u192, u193, u194, u195, u196, u197, u198, u199, u200, u201, u202, u203, u204, u205, u206, u207, u208, u209, u210, u211, u212, u213, u214, u215, u216, u217, u218, u219, u220, u221, u222, u223, u224, u225, u226, u227, u228, u229, u230, u231, u232, u233, u234, u235, u236, u237, u238, u239, u240, u241, u242, u243, u244, u245, u246, u247, u248, u249, u250, u251, u252, u253, u254, u255, u256, u257, u258, u259, u260, u261, u262, u263, u264, u265, u266, u267, u268, u269, u270, u271, u272, u273, u274, u275, u276, u277, u278, u279, u280], []⟩ W1 := by
  conv => arg 2; whnf
  have hosz : (bstr out).size = out.length := bstr_size out
  have hmk := make272
  go_wp2
  have hz272 : zeros272 = ints (marks 1 (ts.take 0)) := by rw [List.take_zero]; exact marks_nil
  have hrow0 : Row (W1.alloc (.cells zeros272 3)) W1.heap.size 3 (ints (marks 1 (ts.take 0))) := by rw [← hz272]; exact Row.new _ _ _
  have hbel1 : Below W1.heap.size W1 (W1.alloc (.cells zeros272 3)) := (Below.refl _ _).alloc (Nat.le_refl _) _
  have HROW := Bx.mk hrow0; clear hrow0 hz272
  have HB1 := Bx.mk hbel1; clear hbel1
  go_loopw [14, 135] (fun u iv wr => ∃ j : Nat, j ≤ ts.length ∧ iv = .int .i64 (j : Int) ∧ u = .int .i64 (nUsed (ts.take j) : Int) ∧ nUsed (ts.take j) ≤ j ∧ Row wr W1.heap.size 3 (ints (marks 1 (ts.take j))) ∧ Below W1.heap.size W1 wr) (fun _ iv _ => ts.length - (intOf iv).toNat)
  case atStart => exact ⟨0, by omega, rfl, by rw [List.take_zero, nUsed_nil]; rfl, by rw [List.take_zero, nUsed_nil]; exact Nat.le_refl _, HROW.out, HB1.out⟩
  case round =>
    clear HROW HB1
    obtain ⟨j, hj, rfl, rfl, hnu, hrow, hb1⟩ := hrel
    have HROW := Bx.mk hrow; clear hrow
    have HB1 := Bx.mk hb1; clear hb1
    by_cases hjl : j < ts.length
    · have hdj : decide ((j : Int) < (ts.length : Int)) = true := by simp; omega
      obtain ⟨tg, htg1, htg2, htg3⟩ := (HTK.out.below HB1.out) (by omega)
      obtain ⟨t0, t1, t2, t3⟩ := htg3 j hjl
      have HTG := Bx.mk htg1; clear htg1
      rw [HTG.out]
      clear htg3
      have hs272 : ts[j].1 < 272 := HLT.out _ (List.getElem_mem hjl)
      have HTN := Bx.mk (take_next ts j hjl)
      have hlen : (marks 1 (ts.take j)).length = 272 := marks_len _ _
      have hcl := (HROW.out.cell ts[j].1).trans (ints_get _ _ (by rw [hlen]; exact hs272))
      rw [marks_getD _ _ _ hs272] at hcl
      have hfr := HROW.out.frozen ts[j].1
      clear hlen
      have hwl := HROW.out.lt
      have HNEW := Bx.mk (nUsed_new (ts.take j) ts[j] hs272)
      have HMN := Bx.mk (marks_new (ts.take j) ts[j])
      have HOLD := Bx.mk (has_old (ts.take j) ts[j])
      generalize ts[j] = tj at *
      obtain ⟨s, a, x, b⟩ := tj
      dsimp only at *
      by_cases hh : has (ts.take j) s = true
      · rw [if_pos hh] at hcl
        have HE := Bx.mk (HOLD.out hh)
        clear hh HOLD HNEW HMN
        go_wp2
        go_roundw
        case rel =>
          have e1 : nUsed (ts.take j ++ [(s, a, x, b)]) = nUsed (ts.take j) := by unfold nUsed; rw [HE.out]
          have e2 : marks 1 (ts.take j ++ [(s, a, x, b)]) = marks 1 (ts.take j) := by unfold marks; rw [HE.out]
          exact ⟨j + 1, by omega, by go_num, by rw [HTN.out, e1], by rw [HTN.out, e1]; omega, by rw [HTN.out, e2]; exact HROW.out.alloc _, HB1.out.alloc HB1.out.size _⟩
        case measure => simp [intOf]; omega
      · rw [if_neg hh] at hcl
        have hh' : has (ts.take j) s = false := by simpa using hh
        have HE := Bx.mk (HNEW.out hh')
        clear hh hh' HOLD HNEW
        go_wp2
        go_roundw
        case rel =>
          exact ⟨j + 1, by omega, by go_num, by rw [HTN.out, HE.out]; go_num, by rw [HTN.out, HE.out]; omega, by rw [HTN.out, ← HMN.out]; exact (HROW.out.set s _).alloc _, (HB1.out.setCell (Nat.le_refl _) _).alloc (by have := HB1.out.size; simpa using this) _⟩
        case measure => simp [intOf]; omega
    · obtain rfl : j = ts.length := by omega
      have hdj : decide ((ts.length : Int) < (ts.length : Int)) = false := by simp
      rw [List.take_length] at *
      have hu60 : nUsed ts ≤ 60 := by omega
      clear hnu hdj hjl
      go_wp2
      go_loop [17] (fun nv => ∃ n : Nat, 1 ≤ n ∧ n ≤ 6 ∧ nv = .int .i64 (n : Int)) (fun nv => 6 - (intOf nv).toNat)
      case atStart => exact ⟨1, by omega, by omega, rfl⟩
      case round =>
        obtain ⟨n, hn1, hn6, rfl⟩ := hrel
        have hp1 : 2 ^ n ≤ 64 := Nat.pow_le_pow_right (n := 2) (by omega) hn6
        have hshl : (2 : Int) ^ n = ((2 ^ n : Nat) : Int) := by simp
        have h6 : 2 ^ n < nUsed ts → n < 6 := fun h => by
          rcases Nat.lt_or_ge n 6 with h1 | h1
          · exact h1
          · have : n = 6 := by omega
            subst this; omega
        obtain ⟨pw, hpw⟩ : ∃ pw, 2 ^ n = pw := ⟨_, rfl⟩
        rw [hpw] at hp1 hshl h6
        have HPW := Bx.mk hpw; clear hpw
        have H6 := Bx.mk h6; clear h6
        have HU := Bx.mk (rfl : nUsed ts = nUsed ts)
        by_cases hlt : pw < nUsed ts
        · have hdl : decide ((pw : Int) < (nUsed ts : Int)) = true := by simp; omega
          go_wp2
          go_round
          case rel => exact ⟨n + 1, by omega, by have := H6.out hlt; omega, by go_num⟩
          case measure => have := H6.out hlt; simp [intOf]; omega
        · have hdl : decide ((pw : Int) < (nUsed ts : Int)) = false := by simp; omega
          have hmk := make272
          have HON := Bx.mk (marks_one hn1 (by omega) (show nUsed ts ≤ 2 ^ n by rw [HPW.out]; omega))
          have hwl := HROW.out.lt
          clear H6 HU HPW
          go_upto_block 8 with fail
          clear hdl hlt hshl hp1
          have HBEL2 := Bx.mk ((HB1.out.alloc HB1.out.size (.cells #[.string { data := #[] }] 9)).alloc (by have := HB1.out.size; simp; omega) (.cells zeros272 3))
          have hrl : Row ((wr.alloc (.cells #[.string { data := #[] }] 9)).alloc (.cells zeros272 3)) W1.heap.size 3 (ints (midL n 0 ts)) := by
            rw [midL_zero]; exact (HROW.out.alloc _).alloc _
          have HRL := Bx.mk hrl; clear hrl
          have hbx : Box ((wr.alloc (.cells #[.string { data := #[] }] 9)).alloc (.cells zeros272 3)) wr.heap.size (SqP.lensT (marks n ts) 0) := (Row.new wr 9 #[.string { data := #[] }]).alloc _
          have HBX := Bx.mk hbx; clear hbx
          have hrc : Row ((wr.alloc (.cells #[.string { data := #[] }] 9)).alloc (.cells zeros272 3)) (wr.heap.size + 1) 3 (ints (codeL n 0 ts)) := by
            rw [← codeL_zero]
            have := Row.new (wr.alloc (.cells #[.string { data := #[] }] 9)) 3 zeros272
            simpa using this
          have HRC := Bx.mk hrc; clear hrc
          obtain ⟨W2, rfl⟩ : ∃ W2 : World, W2 = wr := ⟨_, rfl⟩
          clear HROW HB1
          go_cut [21, 22] (fun _ _ wx => Row wx (W2.heap.size + 1) 3 (ints (codeL n 272 ts)) ∧ Box wx W2.heap.size (SqP.lensT (marks n ts) 272) ∧ Below W1.heap.size W1 wx)
          case first =>
            go_wp2_with fail
            go_loopw [21, 162] (fun cv iv wx => ∃ s : Nat, s ≤ 272 ∧ iv = .int .i64 (s : Int) ∧ cv = .int .i64 ((SqP.pre (marks n ts) n s).length : Int) ∧ Row wx W1.heap.size 3 (ints (midL n s ts)) ∧ Row wx (W2.heap.size + 1) 3 (ints (codeL n s ts)) ∧ Box wx W2.heap.size (SqP.lensT (marks n ts) s) ∧ Below W1.heap.size W1 wx) (fun _ iv _ => 272 - (intOf iv).toNat)
            case atStart => exact ⟨0, by omega, rfl, rfl, HRL.out, HRC.out, HBX.out, HBEL2.out⟩
            case round =>
              clear HRL HRC HBX HBEL2
              obtain ⟨s, hs, rfl, rfl, hrl, hrc, hbx, hb⟩ := hrel
              have HRL := Bx.mk hrl; clear hrl
              have HRC := Bx.mk hrc; clear hrc
              have HBX := Bx.mk hbx; clear hbx
              have HB1 := Bx.mk hb; clear hb
              have hpl := SqP.pre_len (marks n ts) n s
              by_cases hs2 : s < 272
              · have hds : decide ((s : Int) < 272) = true := by simp; omega
                have hcl := (HRL.out.cell s).trans (ints_get _ _ (by rw [midL_len]; exact hs2))
                rw [midL_get _ _ _ hs2] at hcl
                have hfl := HRL.out.frozen s
                have hcc := (HRC.out.cell s).trans (ints_get _ _ (by rw [codeL_len]; exact hs2))
                have hfc := HRC.out.frozen s
                generalize (codeL n s ts).getD s 0 = old at hcc
                have HLT2 := Bx.mk (SqP.lensT_succ (marks n ts) s)
                have hmv := marks_getD n ts s hs2
                by_cases hh : has ts s = true
                · rw [if_pos hh] at hcl hmv
                  rw [hmv] at HLT2
                  have HPY := Bx.mk (SqP.pre_yes (marks n ts) n s hmv)
                  have HMS := Bx.mk (midL_set n s ts hh)
                  have HCS := Bx.mk (codeL_set n s ts hh)
                  generalize hcd : (SqP.pre (marks n ts) n s).length = cd at *
                  have HCD := Bx.mk hcd; clear hcd
                  clear hmv hh
                  have HBXA := Bx.mk (show Box ((wr.setCell ⟨W1.heap.size, s, none⟩ (.int .i64 (n : Int))).setCell ⟨W2.heap.size + 1, s, none⟩ (.int .i64 (cd : Int))) W2.heap.size (SqP.lensT (marks n ts) s) from Row.other (Row.other HBX.out (by simp; omega) _) (by simp) _)
                  have HRLA := Bx.mk ((HRL.out.set s (.int .i64 (n : Int))).other (a := ⟨W2.heap.size + 1, s, none⟩) (by simp; omega) (.int .i64 (cd : Int)))
                  have HRCA := Bx.mk ((HRC.out.other (a := ⟨W1.heap.size, s, none⟩) (by simp; omega) (.int .i64 (n : Int))).set s (.int .i64 (cd : Int)))
                  have HBA := Bx.mk ((HB1.out.setCell (p := ⟨W1.heap.size, s, none⟩) (Nat.le_refl _) (.int .i64 (n : Int))).setCell (p := ⟨W2.heap.size + 1, s, none⟩) (by simp; omega) (.int .i64 (cd : Int)))
                  go_wp2_with fail
                  have hput := put_any (SqP.lensT (marks n ts) s) n 4 W2.heap.size _ (by omega) (by omega) (by rw [SqP.lensT_len]; omega) HBXA.out
                  rw [show ((4 : Nat) : Int) = 4 from rfl] at hput
                  refine hput.mono ?_
                  rintro e w3 ⟨rfl, hb3, hk3⟩
                  dsimp only
                  have HRL3 := Bx.mk (hk3.row HRLA.out (by omega))
                  have HRC3 := Bx.mk (hk3.row HRCA.out (by omega))
                  have HB3 := Bx.mk (HBA.out.trans (hk3.below HBA.out.size (fun k hk e => by omega)))
                  have HBX3 := Bx.mk hb3
                  clear hput hb3 hk3 hcl hfl hcc hfc
                  go_wp2
                  go_roundw
                  case rel => exact ⟨s + 1, by omega, by go_num, by rw [HPY.out, List.length_append, HCD.out]; rfl, by rw [← HMS.out]; exact HRL3.out, by rw [← HCS.out]; exact HRC3.out, by rw [HLT2.out]; exact HBX3.out, HB3.out⟩
                  case measure => simp [intOf]; omega
                · rw [if_neg hh] at hcl hmv
                  rw [hmv] at HLT2
                  have HPN := Bx.mk (SqP.pre_no (marks n ts) n s (by rw [hmv]; omega))
                  have HMS := Bx.mk (midL_skip n s ts hh)
                  have HCS := Bx.mk (codeL_skip n s ts hh)
                  generalize hcd : (SqP.pre (marks n ts) n s).length = cd at *
                  have HCD := Bx.mk hcd; clear hcd
                  clear hmv hh
                  go_wp2_with fail
                  have hput := put_any (SqP.lensT (marks n ts) s) 0 4 W2.heap.size _ (by omega) (by omega) (by rw [SqP.lensT_len]; omega) HBX.out
                  rw [show ((4 : Nat) : Int) = 4 from rfl, show ((0 : Nat) : Int) = 0 from rfl] at hput
                  refine hput.mono ?_
                  rintro e w3 ⟨rfl, hb3, hk3⟩
                  dsimp only
                  have HRL3 := Bx.mk (hk3.row HRL.out (by omega))
                  have HRC3 := Bx.mk (hk3.row HRC.out (by omega))
                  have HB3 := Bx.mk (HB1.out.trans (hk3.below HB1.out.size (fun k hk e => by omega)))
                  have HBX3 := Bx.mk hb3
                  clear hput hb3 hk3 hcl hfl hcc hfc
                  go_wp2
                  go_roundw
                  case rel => exact ⟨s + 1, by omega, by go_num, by rw [HPN.out, HCD.out], by rw [← HMS.out]; exact HRL3.out, by rw [← HCS.out]; exact HRC3.out, by rw [HLT2.out]; exact HBX3.out, HB3.out⟩
                  case measure => simp [intOf]; omega
              · obtain rfl : s = 272 := by omega
                have hds : decide ((272 : Int) < 272) = false := by decide
                rw [show ((272 : Nat) : Int) = 272 from rfl]
                go_wp2
                go_meet
                exact ⟨HRC.out, HBX.out, HB1.out⟩
          case rest =>
            obtain ⟨hrc, hbx, hb⟩ := hcut
            apply_assumption
            exact others_3 w ts out ga gc W1 HB HBELW HTK HLT HVAL HOUT htl60 hol n hn1 hn6 W2 wc hwl HON (Bx.mk hrc) (Bx.mk hbx) (Bx.mk hb)
end Go.Proofs.YtefklhjjhcobmaaDoor
