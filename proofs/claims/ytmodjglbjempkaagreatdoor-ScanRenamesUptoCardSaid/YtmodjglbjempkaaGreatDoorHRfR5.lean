/- References: the reference's ReadRef, where the reference is built. -/
import Derived.Test.YtmodjglbjempkaaGreatDoorHRfR4
set_option linter.unusedSimpArgs false
set_option linter.unusedVariables false
namespace Go.Proofs.YtmodjglbjempkaaGreatDoor
open Go.RowKit
theorem ord_sh (y : RfP.Ref) : (RfP.orderedP y).sh = y.sh := by
  unfold RfP.orderedP
  by_cases h0 : y.k = 0
  · rw [if_pos h0]
  · rw [if_neg h0]
    by_cases h1 : y.r2 < y.r <;> by_cases h2 : y.c2 < y.c <;> simp [h1, h2]
set_option maxRecDepth 100000 in
set_option maxHeartbeats 4000000 in
theorem ReadRef_two {u0 u1 u4 u5 u6 u7 u8 u9 u11 u12 u13 u15 u17 u18 u19 u20 u21 u22 u23 u24 u25 u26 u27 u28 u29 u30 u31 u32 u33 u34 u35 u36 u37 u38 u39 u40 u41 u42 u43 u44 u45 u46 u47 u48 u49 u50 u51 u52 u53 u54 u55 u56 u57 u58 u59 u60 u61 u62 u63 u64 u65 u66 u67 u68 u69 u70 u71 u72 u73 u74 u75 u76 u77 u78 u79 u80 u81 u82 u83 u84 u85 u86 u87 u88 u89 u90 u91 u92 u93 u94 u95 u96 u97 u98 u99 u100 u101 u102 u103 u104 u105 u106 u107 u108 u109 u110 u111 u112 u113 u114 u115 u116 u117 u118 u119 u120 u121 u122 u123 u124 u125 u126 u127 u128 u129 u130 u131 u132 u133 u134 u135 u136 u137 u138 u139 u140 u141 u142 u143 u144 u145 u146 u147 u148 u149 u150 u151 u152 u153 u154 u155 u156 u157 u158 u159 u160 u161 u162 u163 u164 u165 u166 u167 u168 u169 u170 u171 u172 u173 u174 u175 u176 u177 u178 u179 u180 u181 u182 u183 u184 u185 u186 u187 u188 u189 u190 u191 u192 u193 u194 u195 u196 u197 u198 u199 u200 u201 u202 u203 u204 u205 u206 u207 u208 u209 u210 u211 u212 u213 u214 u215 u216 u217 u218 u219 u220 u221 u222 u223 u224 u225 u226 u227 u228 u229 u230 u231 u232 u233 u234 u235 u236 u237 u238 u239 : Value} (t1 : List UInt8) (K m0 m1 b0 b1 n0 n1 : Int) (a2 a3 b2 b3 : Bool) (w wc : World) (c q : Nat) (X : RfP.Ref × Int) (hK : K ≠ 0) (hc : w.heap.size < c) (hq : c < q) (ht : t1.length ≤ 1000000) (hn0 : max b0 0 = n0) (hn1 : max b1 0 = n1)
    (HZ : Bx (Row wc w.heap.size 35 (refC RfP.zeroR))) (HC : Bx (Row wc c 68 #[Value.int .i64 b0, .int .i64 b1, .bool b2, .bool b3])) (HQ : Bx (Row wc q 35 #[Value.string (bstr t1), .int .i64 K, .int .i64 m0, .int .i64 m1, .int .i64 0, .int .i64 0, .bool a2, .bool a3, .bool false, .bool false])) (HB : Bx (Below w.heap.size w wc))
    (HX : Bx (X = RfP.doneP ⟨t1, K, m0, m1, n0, n1, a2, a3, b2, b3⟩)) :
    Code.wp Tryz.prog ((Tryz.f12.body.bind (restOf 46)).getD .skip) (bodyPost Tryz.prog Tryz.f12 (RefPost w X)) ⟨#[u0, u1, .pointer (some ⟨w.heap.size, 0, none⟩), .int .i64 0, u4, u5, u6, u7, u8, u9, .bool true, u11, u12, u13, .pointer (some ⟨c, 0, none⟩), u15, .pointer (some ⟨q, 0, none⟩), u17, u18, u19, u20, u21, u22, u23, u24, u25, u26, u27, u28, u29, u30, u31, u32, u33, u34, u35, u36, u37, u38, u39, u40, u41, u42, u43, u44, u45, u46, u47, u48, u49, u50, u51, u52, u53, u54, u55, u56, u57, u58, u59, u60, u61, u62, u63, u64, u65, u66, u67, u68, u69, u70, u71, u72, u73, u74, u75, u76, u77, u78, u79, u80, u81, u82, u83, u84, u85, u86, u87, u88, u89, u90, u91, u92, u93, u94, u95, u96, u97, u98, u99, u100, u101, u102, u103, u104, u105, u106, u107, u108, u109, u110, u111, u112, u113, u114, u115, u116, u117, u118, u119, u120, u121, u122, u123, u124, u125, u126, u127, u128, u129, u130, u131, u132, u133, u134, u135, u136, u137, u138, u139, u140, u141, u142, u143, u144, u145, u146, u147, u148, u149, u150, u151, u152, u153, u154, u155, u156, u157, u158, u159, u160, u161, u162, u163, u164, u165, u166, u167, u168, u169, u170, u171, u172, u173, u174, u175, u176, u177, u178, u179, u180, u181, u182, u183, u184, u185, u186, u187, u188, u189, u190, u191, u192, u193, u194, u195, u196, u197, u198, u199, u200, u201, u202, u203, u204, u205, u206, u207, u208, u209, u210, u211, u212, u213, u214, u215, u216, u217, u218, u219, u220, u221, u222, u223, u224, u225, u226, u227, u228, u229, u230, u231, u232, u233, u234, u235, u236, u237, u238, u239], []⟩ wc := by
  rw [doneP_err] at HX
  have hso := fun w => Sorted_any ⟨t1, K, m0, m1, n0, n1, a2, a3, b2, b3⟩ w
  rw [RfP.sorted_ordered _ hK] at hso
  have hys := ord_sh ⟨t1, K, m0, m1, n0, n1, a2, a3, b2, b3⟩
  generalize RfP.orderedP ⟨t1, K, m0, m1, n0, n1, a2, a3, b2, b3⟩ = Y at *
  have hyl : Y.sh.length ≤ 1000000 := by rw [hys]; exact ht
  clear hys hK
  obtain ⟨y0, y1, y2, y3, y4, y5, y6, y7, y8, y9⟩ := Y
  unfold refC at hso
  dsimp only at *
  have HSO := Bx.mk hso; clear hso
  have cc := fun o => HC.out.cell o
  have qc := fun o => HQ.out.cell o
  have qf := HQ.out.frozen
  have lq := HQ.out.lt
  have lz := HZ.out.lt
  conv => arg 2; whnf
  go_upto_if 216 with fail
  go_cut [] (fun wx => Row wx q 35 #[Value.string (bstr y0), .int .i64 y1, .int .i64 y2, .int .i64 y3, .int .i64 y4, .int .i64 y5, .bool y6, .bool y7, .bool y8, .bool y9] ∧ Row wx w.heap.size 35 (refC RfP.zeroR) ∧ Below w.heap.size w wx)
  case first =>
    go_wp2_with fail
    go_region
    have HQ2 : Bx (Row (((((wc.setCell ⟨q, 4, none⟩ (.int .i64 n0)).setCell ⟨q, 5, none⟩ (.int .i64 n1)).setCell ⟨q, 8, none⟩ (.bool b2)).setCell ⟨q, 9, none⟩ (.bool b3)).drew) q 35 #[Value.string (bstr t1), .int .i64 K, .int .i64 m0, .int .i64 m1, .int .i64 n0, .int .i64 n1, .bool a2, .bool a3, .bool b2, .bool b3]) := ⟨((((HQ.out.set 4 _).set 5 _).set 8 _).set 9 _).drew⟩
    have HZ2 : Bx (Row (((((wc.setCell ⟨q, 4, none⟩ (.int .i64 n0)).setCell ⟨q, 5, none⟩ (.int .i64 n1)).setCell ⟨q, 8, none⟩ (.bool b2)).setCell ⟨q, 9, none⟩ (.bool b3)).drew) w.heap.size 35 (refC RfP.zeroR)) := ⟨((((HZ.out.other (by dsimp only; omega) _).other (by dsimp only; omega) _).other (by dsimp only; omega) _).other (by dsimp only; omega) _).drew⟩
    have HB2 : Bx (Below w.heap.size w (((((wc.setCell ⟨q, 4, none⟩ (.int .i64 n0)).setCell ⟨q, 5, none⟩ (.int .i64 n1)).setCell ⟨q, 8, none⟩ (.bool b2)).setCell ⟨q, 9, none⟩ (.bool b3)).drew)) := ⟨((((HB.out.setCell (by dsimp only; omega) _).setCell (by dsimp only; omega) _).setCell (by dsimp only; omega) _).setCell (by dsimp only; omega) _).drew⟩
    obtain ⟨W2, hW2⟩ : ∃ W2, (((((wc.setCell ⟨q, 4, none⟩ (.int .i64 n0)).setCell ⟨q, 5, none⟩ (.int .i64 n1)).setCell ⟨q, 8, none⟩ (.bool b2)).setCell ⟨q, 9, none⟩ (.bool b3)).drew) = W2 := ⟨_, rfl⟩
    rw [hW2] at HQ2 HZ2 HB2 ⊢
    clear hW2 HQ HZ HB HC cc qc qf
    have qc2 := fun o => HQ2.out.cell o
    go_wp2_with fail
    refine (HSO.out _).mono ?_
    rintro e w1 ⟨rfl, hb1⟩
    dsimp only
    have HQ1 := Bx.mk (HQ2.out.below hb1 HQ2.out.lt)
    have HZ1 := Bx.mk (HZ2.out.below hb1 HZ2.out.lt)
    have HB1 := Bx.mk (below_next HB2.out hb1)
    clear hb1 HQ2 HZ2 HB2
    have qc1 := fun o => HQ1.out.cell o
    have qf1 := HQ1.out.frozen
    go_wp2
    go_meet
    exact ⟨HQ1.out.setAll [Value.string (bstr y0), .int .i64 y1, .int .i64 y2, .int .i64 y3, .int .i64 y4, .int .i64 y5, .bool y6, .bool y7, .bool y8, .bool y9] rfl, Row.otherAll (show w.heap.size ≠ q by omega) [Value.string (bstr y0), .int .i64 y1, .int .i64 y2, .int .i64 y3, .int .i64 y4, .int .i64 y5, .bool y6, .bool y7, .bool y8, .bool y9] 0 w1 HZ1.out, Below.setAllB (show w.heap.size ≤ q by omega) [Value.string (bstr y0), .int .i64 y1, .int .i64 y2, .int .i64 y3, .int .i64 y4, .int .i64 y5, .bool y6, .bool y7, .bool y8, .bool y9] 0 w1 HB1.out⟩
  case rest =>
    clear HZ HC HQ HB cc qc qf lq lz
    obtain ⟨hq2, hz, hb⟩ := hcut
    apply_assumption
    exact ReadRef_end ⟨y0, y1, y2, y3, y4, y5, y6, y7, y8, y9⟩ w _ _ X (by omega) hyl ⟨hz⟩ ⟨hq2⟩ ⟨hb⟩ ⟨HX.out⟩
end Go.Proofs.YtmodjglbjempkaaGreatDoor
