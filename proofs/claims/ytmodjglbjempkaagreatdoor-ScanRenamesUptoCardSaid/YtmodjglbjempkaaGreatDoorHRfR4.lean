/- References: the end of the reference's ReadRef. -/
import Derived.Test.YtmodjglbjempkaaGreatDoorHRfR3
set_option linter.unusedSimpArgs false
set_option linter.unusedVariables false
namespace Go.Proofs.YtmodjglbjempkaaGreatDoor
open Go.RowKit
theorem doneP_err (R : RfP.Ref) : RfP.doneP R = if RfP.errP (RfP.orderedP R) = 0 then (RfP.orderedP R, 0) else (RfP.zeroR, RfP.errP (RfP.orderedP R)) := by
  unfold RfP.doneP; rw [RfP.err_check]
def refL (x : RfP.Ref) : List Value := [.string (bstr x.sh), .int .i64 x.k, .int .i64 x.r, .int .i64 x.c, .int .i64 x.r2, .int .i64 x.c2, .bool x.ar, .bool x.ac, .bool x.ar2, .bool x.ac2]
set_option maxRecDepth 100000 in
set_option maxHeartbeats 4000000 in
theorem ReadRef_end {u0 u1 u4 u5 u6 u7 u8 u9 u10 u11 u12 u13 u14 u15 u17 u18 u19 u20 u21 u22 u23 u24 u25 u26 u27 u28 u29 u30 u31 u32 u33 u34 u35 u36 u37 u38 u39 u40 u41 u42 u43 u44 u45 u46 u47 u48 u49 u50 u51 u52 u53 u54 u55 u56 u57 u58 u59 u60 u61 u62 u63 u64 u65 u66 u67 u68 u69 u70 u71 u72 u73 u74 u75 u76 u77 u78 u79 u80 u81 u82 u83 u84 u85 u86 u87 u88 u89 u90 u91 u92 u93 u94 u95 u96 u97 u98 u99 u100 u101 u102 u103 u104 u105 u106 u107 u108 u109 u110 u111 u112 u113 u114 u115 u116 u117 u118 u119 u120 u121 u122 u123 u124 u125 u126 u127 u128 u129 u130 u131 u132 u133 u134 u135 u136 u137 u138 u139 u140 u141 u142 u143 u144 u145 u146 u147 u148 u149 u150 u151 u152 u153 u154 u155 u156 u157 u158 u159 u160 u161 u162 u163 u164 u165 u166 u167 u168 u169 u170 u171 u172 u173 u174 u175 u176 u177 u178 u179 u180 u181 u182 u183 u184 u185 u186 u187 u188 u189 u190 u191 u192 u193 u194 u195 u196 u197 u198 u199 u200 u201 u202 u203 u204 u205 u206 u207 u208 u209 u210 u211 u212 u213 u214 u215 u216 u217 u218 u219 u220 u221 u222 u223 u224 u225 u226 u227 u228 u229 u230 u231 u232 u233 u234 u235 u236 u237 u238 u239 : Value} (R : RfP.Ref) (w wc : World) (q : Nat) (X : RfP.Ref × Int) (hq : w.heap.size < q) (hsh : R.sh.length ≤ 1000000)
    (HZ : Bx (Row wc w.heap.size 35 (refC RfP.zeroR))) (HQ : Bx (Row wc q 35 (refC R))) (HB : Bx (Below w.heap.size w wc))
    (HX : Bx (X = if RfP.errP R = 0 then (R, 0) else (RfP.zeroR, RfP.errP R))) :
    Code.wp Tryz.prog ((Tryz.f12.body.bind (restOf 49)).getD .skip) (bodyPost Tryz.prog Tryz.f12 (RefPost w X)) ⟨#[u0, u1, .pointer (some ⟨w.heap.size, 0, none⟩), .int .i64 0, u4, u5, u6, u7, u8, u9, u10, u11, u12, u13, u14, u15, .pointer (some ⟨q, 0, none⟩), u17, u18, u19, u20, u21, u22, u23, u24, u25, u26, u27, u28, u29, u30, u31, u32, u33, u34, u35, u36, u37, u38, u39, u40, u41, u42, u43, u44, u45, u46, u47, u48, u49, u50, u51, u52, u53, u54, u55, u56, u57, u58, u59, u60, u61, u62, u63, u64, u65, u66, u67, u68, u69, u70, u71, u72, u73, u74, u75, u76, u77, u78, u79, u80, u81, u82, u83, u84, u85, u86, u87, u88, u89, u90, u91, u92, u93, u94, u95, u96, u97, u98, u99, u100, u101, u102, u103, u104, u105, u106, u107, u108, u109, u110, u111, u112, u113, u114, u115, u116, u117, u118, u119, u120, u121, u122, u123, u124, u125, u126, u127, u128, u129, u130, u131, u132, u133, u134, u135, u136, u137, u138, u139, u140, u141, u142, u143, u144, u145, u146, u147, u148, u149, u150, u151, u152, u153, u154, u155, u156, u157, u158, u159, u160, u161, u162, u163, u164, u165, u166, u167, u168, u169, u170, u171, u172, u173, u174, u175, u176, u177, u178, u179, u180, u181, u182, u183, u184, u185, u186, u187, u188, u189, u190, u191, u192, u193, u194, u195, u196, u197, u198, u199, u200, u201, u202, u203, u204, u205, u206, u207, u208, u209, u210, u211, u212, u213, u214, u215, u216, u217, u218, u219, u220, u221, u222, u223, u224, u225, u226, u227, u228, u229, u230, u231, u232, u233, u234, u235, u236, u237, u238, u239], []⟩ wc := by
  have hk := fun w => RefError_any R w (by omega)
  generalize hE : RfP.errP R = E at *
  clear hE hsh
  obtain ⟨b0, b1, b2, b3, b4, b5, b6, b7, b8, b9⟩ := R
  unfold refC at hk
  dsimp only at hk
  have HK := Bx.mk hk; clear hk
  have qc : ∀ o, wc.cell? ⟨q, o, none⟩ = #[Value.string (bstr b0), .int .i64 b1, .int .i64 b2, .int .i64 b3, .int .i64 b4, .int .i64 b5, .bool b6, .bool b7, .bool b8, .bool b9][o]? := fun o => HQ.out.cell o
  have lq := HQ.out.lt
  have lz := HZ.out.lt
  conv => arg 2; whnf
  by_cases hE : E = 0
  · subst hE
    have HD : Bx (X = (⟨b0, b1, b2, b3, b4, b5, b6, b7, b8, b9⟩, 0)) := ⟨by rw [HX.out, if_pos rfl]⟩
    go_wp2_with (first | (go_at_call 43; refine (HK.out _).mono ?_; rintro e w9 ⟨rfl, hb9⟩; have HQ9 : Bx (Row w9 q 35 #[Value.string (bstr b0), .int .i64 b1, .int .i64 b2, .int .i64 b3, .int .i64 b4, .int .i64 b5, .bool b6, .bool b7, .bool b8, .bool b9]) := ⟨HQ.out.below hb9 lq⟩; have qc9 := fun o => HQ9.out.cell o; have HZ9 : Bx (Row w9 w.heap.size 35 #[Value.string (bstr []), .int .i64 0, .int .i64 0, .int .i64 0, .int .i64 0, .int .i64 0, .bool false, .bool false, .bool false, .bool false]) := ⟨HZ.out.below hb9 lz⟩; have zc := fun o => HZ9.out.cell o; have zf := HZ9.out.frozen))
    exact bodyPost_ret (v := .tuple #[.agg #[Value.string (bstr b0), .int .i64 b1, .int .i64 b2, .int .i64 b3, .int .i64 b4, .int .i64 b5, .bool b6, .bool b7, .bool b8, .bool b9], .int .i64 0]) (by simp [results, Tryz.results12, go_sem, zc, zf]) rfl ⟨by rw [HD.out]; rfl, Below.setAllB (Nat.le_refl _) [Value.string (bstr b0), .int .i64 b1, .int .i64 b2, .int .i64 b3, .int .i64 b4, .int .i64 b5, .bool b6, .bool b7, .bool b8, .bool b9] 0 w9 (below_next HB.out hb9)⟩
  · have hE' : (E != 0) = true := by simpa using hE
    have HD : Bx (X = (RfP.zeroR, E)) := ⟨by rw [HX.out, if_neg hE]⟩
    clear hE
    go_wp2_with (first | (go_at_call 43; refine (HK.out _).mono ?_; rintro e w9 ⟨rfl, hb9⟩; have HZ9 : Bx (Row w9 w.heap.size 35 #[Value.string (bstr []), .int .i64 0, .int .i64 0, .int .i64 0, .int .i64 0, .int .i64 0, .bool false, .bool false, .bool false, .bool false]) := ⟨HZ.out.below hb9 lz⟩; have zc := fun o => HZ9.out.cell o; have zf := HZ9.out.frozen))
    exact bodyPost_ret (v := .tuple #[.agg #[Value.string { data := #[] }, .int .i64 0, .int .i64 0, .int .i64 0, .int .i64 0, .int .i64 0, .bool false, .bool false, .bool false, .bool false], .int .i64 E]) (by simp [results, Tryz.results12, go_sem, zc, zf]) rfl ⟨by rw [HD.out]; rfl, Below.setAllB (Nat.le_refl _) [Value.string { data := #[] }, .int .i64 0, .int .i64 0, .int .i64 0, .int .i64 0, .int .i64 0, .bool false, .bool false, .bool false, .bool false] 0 w9 (below_next HB.out hb9)⟩
end Go.Proofs.YtmodjglbjempkaaGreatDoor
