/- References: the reference's ReadRef, where the sides are read. -/
import Derived.Test.YtmodjglbjempkaaGreatDoorHRfR11
set_option linter.unusedSimpArgs false
set_option linter.unusedVariables false
namespace Go.Proofs.YtmodjglbjempkaaGreatDoor
open Go.RowKit
set_option maxRecDepth 100000 in
set_option maxHeartbeats 4000000 in
theorem ReadRef_tail {u0 u1 u5 u6 u7 u11 u12 u13 u14 u15 u16 u17 u18 u19 u20 u21 u22 u23 u24 u25 u26 u27 u28 u29 u30 u31 u32 u33 u34 u35 u36 u37 u38 u39 u40 u41 u42 u43 u44 u45 u46 u47 u48 u49 u50 u51 u52 u53 u54 u55 u56 u57 u58 u59 u60 u61 u62 u63 u64 u65 u66 u67 u68 u69 u70 u71 u72 u73 u74 u75 u76 u77 u78 u79 u80 u81 u82 u83 u84 u85 u86 u87 u88 u89 u90 u91 u92 u93 u94 u95 u96 u97 u98 u99 u100 u101 u102 u103 u104 u105 u106 u107 u108 u109 u110 u111 u112 u113 u114 u115 u116 u117 u118 u119 u120 u121 u122 u123 u124 u125 u126 u127 u128 u129 u130 u131 u132 u133 u134 u135 u136 u137 u138 u139 u140 u141 u142 u143 u144 u145 u146 u147 u148 u149 u150 u151 u152 u153 u154 u155 u156 u157 u158 u159 u160 u161 u162 u163 u164 u165 u166 u167 u168 u169 u170 u171 u172 u173 u174 u175 u176 u177 u178 u179 u180 u181 u182 u183 u184 u185 u186 u187 u188 u189 u190 u191 u192 u193 u194 u195 u196 u197 u198 u199 u200 u201 u202 u203 u204 u205 u206 u207 u208 u209 u210 u211 u212 u213 u214 u215 u216 u217 u218 u219 u220 u221 u222 u223 u224 u225 u226 u227 u228 u229 u230 u231 u232 u233 u234 u235 u236 u237 u238 u239 : Value} (t1 v1 v2 : List UInt8) (two : Bool) (w wc : World) (X : RfP.Ref × Int) (ht : t1.length ≤ 1000000) (hv1 : v1.length ≤ 1000000) (hv2 : v2.length ≤ 1000000)
    (HZ : Bx (Row wc w.heap.size 35 (refC RfP.zeroR))) (HB : Bx (Below w.heap.size w wc))
    (HX : Bx (X = RfP.readR t1 two (RfP.sideP v1) (bif two then RfP.sideP v2 else ((RfP.sideP v1).1, 1)))) :
    Code.wp Tryz.prog ((Tryz.f12.body.bind (restOf 31)).getD .skip) (bodyPost Tryz.prog Tryz.f12 (RefPost w X)) ⟨#[u0, u1, .pointer (some ⟨w.heap.size, 0, none⟩), .int .i64 0, .string (bstr t1), u5, u6, u7, .string (bstr v1), .string (bstr v2), .bool two, u11, u12, u13, u14, u15, u16, u17, u18, u19, u20, u21, u22, u23, u24, u25, u26, u27, u28, u29, u30, u31, u32, u33, u34, u35, u36, u37, u38, u39, u40, u41, u42, u43, u44, u45, u46, u47, u48, u49, u50, u51, u52, u53, u54, u55, u56, u57, u58, u59, u60, u61, u62, u63, u64, u65, u66, u67, u68, u69, u70, u71, u72, u73, u74, u75, u76, u77, u78, u79, u80, u81, u82, u83, u84, u85, u86, u87, u88, u89, u90, u91, u92, u93, u94, u95, u96, u97, u98, u99, u100, u101, u102, u103, u104, u105, u106, u107, u108, u109, u110, u111, u112, u113, u114, u115, u116, u117, u118, u119, u120, u121, u122, u123, u124, u125, u126, u127, u128, u129, u130, u131, u132, u133, u134, u135, u136, u137, u138, u139, u140, u141, u142, u143, u144, u145, u146, u147, u148, u149, u150, u151, u152, u153, u154, u155, u156, u157, u158, u159, u160, u161, u162, u163, u164, u165, u166, u167, u168, u169, u170, u171, u172, u173, u174, u175, u176, u177, u178, u179, u180, u181, u182, u183, u184, u185, u186, u187, u188, u189, u190, u191, u192, u193, u194, u195, u196, u197, u198, u199, u200, u201, u202, u203, u204, u205, u206, u207, u208, u209, u210, u211, u212, u213, u214, u215, u216, u217, u218, u219, u220, u221, u222, u223, u224, u225, u226, u227, u228, u229, u230, u231, u232, u233, u234, u235, u236, u237, u238, u239], []⟩ wc := by
  have hs1 := Bx.mk (fun w => readSide_any v1 w hv1)
  have hs2 := Bx.mk (fun w => readSide_any v2 w hv2)
  clear hv1 hv2
  generalize RfP.sideP v1 = A at *
  generalize RfP.sideP v2 = B at *
  obtain ⟨⟨a0, a1, a2, a3⟩, ca⟩ := A
  have lz := HZ.out.lt
  conv => arg 2; whnf
  go_upto_if 138 with (first | (go_at_call 41; refine (hs1.out _).mono ?_; rintro e w1 ⟨rfl, hb1⟩; unfold sideA; dsimp only))
  have e1 : w1.heap.size ≥ wc.heap.size := hb1.size
  have HZ1 := Bx.mk (HZ.out.below hb1 lz)
  have HB1 := Bx.mk (below_next HB.out hb1)
  have HA0 := Bx.mk ((Row.new w1 68 #[Value.int .i64 a0, .int .i64 a1, .bool a2, .bool a3]).alloc (.cells #[Value.int .i64 a0, .int .i64 a1, .bool a2, .bool a3] 68))
  have HC0 : Bx (Row ((w1.alloc (.cells #[Value.int .i64 a0, .int .i64 a1, .bool a2, .bool a3] 68)).alloc (.cells #[Value.int .i64 a0, .int .i64 a1, .bool a2, .bool a3] 68)) (w1.heap.size + 1) 68 #[Value.int .i64 a0, .int .i64 a1, .bool a2, .bool a3]) := ⟨by
    have := Row.new (w1.alloc (.cells #[Value.int .i64 a0, .int .i64 a1, .bool a2, .bool a3] 68)) 68 #[Value.int .i64 a0, .int .i64 a1, .bool a2, .bool a3]
    rw [show (w1.alloc (.cells #[Value.int .i64 a0, .int .i64 a1, .bool a2, .bool a3] 68)).heap.size = w1.heap.size + 1 by simp] at this
    exact this⟩
  have HZ0 := Bx.mk ((HZ1.out.alloc (.cells #[Value.int .i64 a0, .int .i64 a1, .bool a2, .bool a3] 68)).alloc (.cells #[Value.int .i64 a0, .int .i64 a1, .bool a2, .bool a3] 68))
  have HB0 := Bx.mk ((HB1.out.alloc (by omega) (.cells #[Value.int .i64 a0, .int .i64 a1, .bool a2, .bool a3] 68)).alloc (by simp; omega) (.cells #[Value.int .i64 a0, .int .i64 a1, .bool a2, .bool a3] 68))
  obtain ⟨W, hW⟩ : ∃ W, (w1.alloc (.cells #[Value.int .i64 a0, .int .i64 a1, .bool a2, .bool a3] 68)).alloc (.cells #[Value.int .i64 a0, .int .i64 a1, .bool a2, .bool a3] 68) = W := ⟨_, rfl⟩
  rw [hW] at HA0 HC0 HZ0 HB0 ⊢
  obtain ⟨p, hp⟩ : ∃ p, w1.heap.size = p := ⟨_, rfl⟩
  rw [hp] at HA0 HC0 e1 ⊢
  clear hW hp HZ1 HB1 HZ HB hb1
  have lc := HC0.out.lt
  go_cut [15] (fun v wx => v = .int .i64 (bif two then B else (⟨a0, a1, a2, a3⟩, 1)).2 ∧ Row wx w.heap.size 35 (refC RfP.zeroR) ∧ Row wx p 68 #[Value.int .i64 a0, .int .i64 a1, .bool a2, .bool a3] ∧ Row wx (p + 1) 68 (sideA (bif two then B else (⟨a0, a1, a2, a3⟩, 1)).1) ∧ Below w.heap.size w wx)
  case first =>
    cases two with
    | false =>
      go_wp2
      go_meet
      exact ⟨rfl, HZ0.out, HA0.out, HC0.out, HB0.out⟩
    | true =>
      obtain ⟨⟨b0, b1, b2, b3⟩, cb⟩ := B
      go_wp2_with fail
      refine (hs2.out _).mono ?_
      rintro e w4 ⟨rfl, hb4⟩
      dsimp only
      have HC4 : Bx (Row w4 (p + 1) 68 #[Value.int .i64 a0, .int .i64 a1, .bool a2, .bool a3]) := ⟨HC0.out.below hb4 lc⟩
      have cc4 := fun o => HC4.out.cell o
      have fc4 := HC4.out.frozen
      unfold sideA
      dsimp only
      go_wp2
      go_meet
      exact ⟨rfl, Row.otherAll (show w.heap.size ≠ p + 1 by omega) [.int .i64 b0, .int .i64 b1, .bool b2, .bool b3] 0 w4 (HZ0.out.below hb4 HZ0.out.lt), Row.otherAll (show p ≠ p + 1 by omega) [.int .i64 b0, .int .i64 b1, .bool b2, .bool b3] 0 w4 (HA0.out.below hb4 HA0.out.lt), HC4.out.setAll [.int .i64 b0, .int .i64 b1, .bool b2, .bool b3] rfl, Below.setAllB (show w.heap.size ≤ p + 1 by omega) [.int .i64 b0, .int .i64 b1, .bool b2, .bool b3] 0 w4 (below_next HB0.out hb4)⟩
  case rest =>
    clear HA0 HC0 HZ0 HB0 hs1 hs2 lc
    generalize (bif two then B else ((⟨a0, a1, a2, a3⟩ : RfP.Side), (1 : Int))) = C at *
    obtain ⟨⟨b0, b1, b2, b3⟩, cb⟩ := C
    unfold sideA at hcut
    dsimp only at *
    obtain ⟨rfl, hz, ha, hc, hb⟩ := hcut
    have HZ := Bx.mk hz; clear hz
    have HA := Bx.mk ha; clear ha
    have HC := Bx.mk hc; clear hc
    have HB := Bx.mk hb; clear hb
    have HR := Bx.mk (show RfP.readR t1 two (⟨a0, a1, a2, a3⟩, ca) (⟨b0, b1, b2, b3⟩, cb) = if RfP.synR two (⟨a0, a1, a2, a3⟩, ca) (⟨b0, b1, b2, b3⟩, cb) = false then (RfP.zeroR, 10) else if ca = 2 ∨ cb = 2 then (RfP.zeroR, 2) else RfP.doneP ⟨t1, RfP.kindR two ⟨a0, a1, a2, a3⟩, max a0 0, max a1 0, (bif two then max b0 0 else 0), (bif two then max b1 0 else 0), a2, a3, two && b2, two && b3⟩ from rfl)
    rw [← HX.out] at HR
    clear HX
    have HS := Bx.mk (show RfP.synR two (⟨a0, a1, a2, a3⟩, ca) (⟨b0, b1, b2, b3⟩, cb) = !((ca == 0) || ((cb == 0) || ((decide (a0 < 0) != decide (b0 < 0)) || ((decide (a1 < 0) != decide (b1 < 0)) || (!two && (decide (a0 < 0) || decide (a1 < 0))))))) from rfl)
    apply_assumption
    have HRB : RfP.synR two (⟨a0, a1, a2, a3⟩, ca) (⟨b0, b1, b2, b3⟩, cb) = false → X = (RfP.zeroR, 10) := fun h => by rw [HR.out, if_pos h]
    cases h1 : (ca == 0) with
    | true => exact ReadRef_s1 t1 two a0 a1 b0 b1 a2 a3 b2 b3 ca cb w _ p X (by omega) ht HZ HA HC HB h1 ⟨HRB (by rw [HS.out, h1]; simp)⟩
    | false =>
      cases h2 : (cb == 0) with
      | true => exact ReadRef_s2 t1 two a0 a1 b0 b1 a2 a3 b2 b3 ca cb w _ p X (by omega) ht HZ HA HC HB h1 h2 ⟨HRB (by rw [HS.out, h1, h2]; simp)⟩
      | false =>
        cases h3 : decide (a0 < 0) with
        | true =>
          cases h4 : decide (b0 < 0) with
          | false => exact ReadRef_s3 t1 two a0 a1 b0 b1 a2 a3 b2 b3 ca cb w _ p X (by omega) ht HZ HA HC HB h1 h2 h3 h4 ⟨HRB (by rw [HS.out, h1, h2, h3, h4]; simp)⟩
          | true =>
            cases h5 : decide (a1 < 0) with
            | true =>
              cases h6 : decide (b1 < 0) with
              | false => exact ReadRef_s5 t1 two a0 a1 b0 b1 a2 a3 b2 b3 ca cb w _ p X (by omega) ht HZ HA HC HB h1 h2 h3 h4 h5 h6 ⟨HRB (by rw [HS.out, h1, h2, h3, h4, h5, h6]; simp)⟩
              | true =>
                cases two with
                | true => exact ReadRef_s13 t1 true a0 a1 b0 b1 a2 a3 b2 b3 ca cb w _ p X (by omega) ht HZ HA HC HB h1 h2 h3 h4 h5 h6 ⟨HR.out.trans (if_neg (by rw [HS.out, h1, h2, h3, h4, h5, h6]; simp))⟩
                | false => exact ReadRef_s9 t1 false a0 a1 b0 b1 a2 a3 b2 b3 ca cb w _ p X (by omega) ht HZ HA HC HB h1 h2 h3 h4 h5 h6 ⟨HRB (by rw [HS.out, h1, h2, h3, h4, h5, h6]; simp)⟩
            | false =>
              cases h6 : decide (b1 < 0) with
              | true => exact ReadRef_s6 t1 two a0 a1 b0 b1 a2 a3 b2 b3 ca cb w _ p X (by omega) ht HZ HA HC HB h1 h2 h3 h4 h5 h6 ⟨HRB (by rw [HS.out, h1, h2, h3, h4, h5, h6]; simp)⟩
              | false =>
                cases two with
                | true => exact ReadRef_s14 t1 true a0 a1 b0 b1 a2 a3 b2 b3 ca cb w _ p X (by omega) ht HZ HA HC HB h1 h2 h3 h4 h5 h6 ⟨HR.out.trans (if_neg (by rw [HS.out, h1, h2, h3, h4, h5, h6]; simp))⟩
                | false => exact ReadRef_s10 t1 false a0 a1 b0 b1 a2 a3 b2 b3 ca cb w _ p X (by omega) ht HZ HA HC HB h1 h2 h3 h4 h5 h6 ⟨HRB (by rw [HS.out, h1, h2, h3, h4, h5, h6]; simp)⟩
        | false =>
          cases h4 : decide (b0 < 0) with
          | true => exact ReadRef_s4 t1 two a0 a1 b0 b1 a2 a3 b2 b3 ca cb w _ p X (by omega) ht HZ HA HC HB h1 h2 h3 h4 ⟨HRB (by rw [HS.out, h1, h2, h3, h4]; simp)⟩
          | false =>
            cases h5 : decide (a1 < 0) with
            | true =>
              cases h6 : decide (b1 < 0) with
              | false => exact ReadRef_s7 t1 two a0 a1 b0 b1 a2 a3 b2 b3 ca cb w _ p X (by omega) ht HZ HA HC HB h1 h2 h3 h4 h5 h6 ⟨HRB (by rw [HS.out, h1, h2, h3, h4, h5, h6]; simp)⟩
              | true =>
                cases two with
                | true => exact ReadRef_s15 t1 true a0 a1 b0 b1 a2 a3 b2 b3 ca cb w _ p X (by omega) ht HZ HA HC HB h1 h2 h3 h4 h5 h6 ⟨HR.out.trans (if_neg (by rw [HS.out, h1, h2, h3, h4, h5, h6]; simp))⟩
                | false => exact ReadRef_s11 t1 false a0 a1 b0 b1 a2 a3 b2 b3 ca cb w _ p X (by omega) ht HZ HA HC HB h1 h2 h3 h4 h5 h6 ⟨HRB (by rw [HS.out, h1, h2, h3, h4, h5, h6]; simp)⟩
            | false =>
              cases h6 : decide (b1 < 0) with
              | true => exact ReadRef_s8 t1 two a0 a1 b0 b1 a2 a3 b2 b3 ca cb w _ p X (by omega) ht HZ HA HC HB h1 h2 h3 h4 h5 h6 ⟨HRB (by rw [HS.out, h1, h2, h3, h4, h5, h6]; simp)⟩
              | false =>
                cases two with
                | true => exact ReadRef_s16 t1 true a0 a1 b0 b1 a2 a3 b2 b3 ca cb w _ p X (by omega) ht HZ HA HC HB h1 h2 h3 h4 h5 h6 ⟨HR.out.trans (if_neg (by rw [HS.out, h1, h2, h3, h4, h5, h6]; simp))⟩
                | false => exact ReadRef_s12 t1 false a0 a1 b0 b1 a2 a3 b2 b3 ca cb w _ p X (by omega) ht HZ HA HC HB h1 h2 h3 h4 h5 h6 ⟨HR.out.trans (if_neg (by rw [HS.out, h1, h2, h3, h4, h5, h6]; simp))⟩
end Go.Proofs.YtmodjglbjempkaaGreatDoor
