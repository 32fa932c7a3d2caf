/- References: the reference's ReadRef, behind the test of the form. -/
import Derived.Test.YtmodjglbjempkaaGreatDoorHRfR7
set_option linter.unusedSimpArgs false
set_option linter.unusedVariables false
namespace Go.Proofs.YtmodjglbjempkaaGreatDoor
open Go.RowKit
set_option maxRecDepth 100000 in
set_option maxHeartbeats 4000000 in
theorem ReadRef_tail2 {u0 u1 u5 u6 u7 u8 u9 u11 u16 u17 u18 u19 u20 u21 u22 u23 u24 u25 u26 u27 u28 u29 u30 u31 u32 u33 u34 u35 u36 u37 u38 u39 u40 u41 u42 u43 u44 u45 u46 u47 u48 u49 u50 u51 u52 u53 u54 u55 u56 u57 u58 u59 u60 u61 u62 u63 u64 u65 u66 u67 u68 u69 u70 u71 u72 u73 u74 u75 u76 u77 u78 u79 u80 u81 u82 u83 u84 u85 u86 u87 u88 u89 u90 u91 u92 u93 u94 u95 u96 u97 u98 u99 u100 u101 u102 u103 u104 u105 u106 u107 u108 u109 u110 u111 u112 u113 u114 u115 u116 u117 u118 u119 u120 u121 u122 u123 u124 u125 u126 u127 u128 u129 u130 u131 u132 u133 u134 u135 u136 u137 u138 u139 u140 u141 u142 u143 u144 u145 u146 u147 u148 u149 u150 u151 u152 u153 u154 u155 u156 u157 u158 u159 u160 u161 u162 u163 u164 u165 u166 u167 u168 u169 u170 u171 u172 u173 u174 u175 u176 u177 u178 u179 u180 u181 u182 u183 u184 u185 u186 u187 u188 u189 u190 u191 u192 u193 u194 u195 u196 u197 u198 u199 u200 u201 u202 u203 u204 u205 u206 u207 u208 u209 u210 u211 u212 u213 u214 u215 u216 u217 u218 u219 u220 u221 u222 u223 u224 u225 u226 u227 u228 u229 u230 u231 u232 u233 u234 u235 u236 u237 u238 u239 : Value} (t1 : List UInt8) (two : Bool) (a b : RfP.Side) (ca cb : Int) (w wc : World) (p : Nat) (X : RfP.Ref × Int) (hp : w.heap.size < p) (ht : t1.length ≤ 1000000)
    (HZ : Bx (Row wc w.heap.size 35 (refC RfP.zeroR))) (HA : Bx (Row wc p 68 (sideA a))) (HC : Bx (Row wc (p + 1) 68 (sideA b))) (HB : Bx (Below w.heap.size w wc))
    (HX : Bx (X = if ca = 2 ∨ cb = 2 then (RfP.zeroR, 2) else RfP.doneP ⟨t1, RfP.kindR two a, max a.row 0, max a.col 0, (bif two then max b.row 0 else 0), (bif two then max b.col 0 else 0), a.ar, a.ac, two && b.ar, two && b.ac⟩)) :
    Code.wp Tryz.prog ((Tryz.f12.body.bind (restOf 37)).getD .skip) (bodyPost Tryz.prog Tryz.f12 (RefPost w X)) ⟨#[u0, u1, .pointer (some ⟨w.heap.size, 0, none⟩), .int .i64 0, .string (bstr t1), u5, u6, u7, u8, u9, .bool two, u11, .pointer (some ⟨p, 0, none⟩), .int .i64 ca, .pointer (some ⟨p + 1, 0, none⟩), .int .i64 cb, u16, u17, u18, u19, u20, u21, u22, u23, u24, u25, u26, u27, u28, u29, u30, u31, u32, u33, u34, u35, u36, u37, u38, u39, u40, u41, u42, u43, u44, u45, u46, u47, u48, u49, u50, u51, u52, u53, u54, u55, u56, u57, u58, u59, u60, u61, u62, u63, u64, u65, u66, u67, u68, u69, u70, u71, u72, u73, u74, u75, u76, u77, u78, u79, u80, u81, u82, u83, u84, u85, u86, u87, u88, u89, u90, u91, u92, u93, u94, u95, u96, u97, u98, u99, u100, u101, u102, u103, u104, u105, u106, u107, u108, u109, u110, u111, u112, u113, u114, u115, u116, u117, u118, u119, u120, u121, u122, u123, u124, u125, u126, u127, u128, u129, u130, u131, u132, u133, u134, u135, u136, u137, u138, u139, u140, u141, u142, u143, u144, u145, u146, u147, u148, u149, u150, u151, u152, u153, u154, u155, u156, u157, u158, u159, u160, u161, u162, u163, u164, u165, u166, u167, u168, u169, u170, u171, u172, u173, u174, u175, u176, u177, u178, u179, u180, u181, u182, u183, u184, u185, u186, u187, u188, u189, u190, u191, u192, u193, u194, u195, u196, u197, u198, u199, u200, u201, u202, u203, u204, u205, u206, u207, u208, u209, u210, u211, u212, u213, u214, u215, u216, u217, u218, u219, u220, u221, u222, u223, u224, u225, u226, u227, u228, u229, u230, u231, u232, u233, u234, u235, u236, u237, u238, u239], []⟩ wc := by
  have zc : ∀ o, wc.cell? ⟨w.heap.size, o, none⟩ = #[Value.string (bstr []), .int .i64 0, .int .i64 0, .int .i64 0, .int .i64 0, .int .i64 0, .bool false, .bool false, .bool false, .bool false][o]? := fun o => HZ.out.cell o
  have zf := HZ.out.frozen
  conv => arg 2; whnf
  by_cases h1 : ca = 2
  · have e1 : (ca == 2) = true := beq_iff_eq.2 h1
    have HY : Bx (X = (RfP.zeroR, 2)) := ⟨by rw [HX.out, if_pos (Or.inl h1)]⟩
    clear h1 HX HA HC
    go_wp2
    exact bodyPost_ret (v := .tuple #[.agg #[Value.string { data := #[] }, .int .i64 0, .int .i64 0, .int .i64 0, .int .i64 0, .int .i64 0, .bool false, .bool false, .bool false, .bool false], .int .i64 2]) (by simp [results, Tryz.results12, go_sem, zc, zf]) rfl ⟨by rw [HY.out]; rfl, Below.setAllB (Nat.le_refl _) [Value.string { data := #[] }, .int .i64 0, .int .i64 0, .int .i64 0, .int .i64 0, .int .i64 0, .bool false, .bool false, .bool false, .bool false] 0 wc HB.out⟩
  · have e1 : (ca == 2) = false := beq_eq_false_iff_ne.2 h1
    by_cases h2 : cb = 2
    · have e2 : (cb == 2) = true := beq_iff_eq.2 h2
      have HY : Bx (X = (RfP.zeroR, 2)) := ⟨by rw [HX.out, if_pos (Or.inr h2)]⟩
      clear h1 h2 HX HA HC
      go_wp2
      exact bodyPost_ret (v := .tuple #[.agg #[Value.string { data := #[] }, .int .i64 0, .int .i64 0, .int .i64 0, .int .i64 0, .int .i64 0, .bool false, .bool false, .bool false, .bool false], .int .i64 2]) (by simp [results, Tryz.results12, go_sem, zc, zf]) rfl ⟨by rw [HY.out]; rfl, Below.setAllB (Nat.le_refl _) [Value.string { data := #[] }, .int .i64 0, .int .i64 0, .int .i64 0, .int .i64 0, .int .i64 0, .bool false, .bool false, .bool false, .bool false] 0 wc HB.out⟩
    · have e2 : (cb == 2) = false := beq_eq_false_iff_ne.2 h2
      have HY : Bx (X = RfP.doneP ⟨t1, RfP.kindR two a, max a.row 0, max a.col 0, (bif two then max b.row 0 else 0), (bif two then max b.col 0 else 0), a.ar, a.ac, two && b.ar, two && b.ac⟩) := ⟨by rw [HX.out, if_neg (fun h => h.elim h1 h2)]⟩
      clear h1 h2 HX
      go_upto_if 188 with fail
      obtain ⟨wy, hwy⟩ : ∃ wy : World, wc = wy := ⟨_, rfl⟩
      subst hwy
      go_cut [3] (fun v wx => v = .int .i64 0 ∧ wx = wc)
      case first =>
        clear HA HC HB HZ zc zf
        go_wp2
        go_meet
        exact ⟨rfl, rfl⟩
      case rest =>
        obtain ⟨rfl, rfl⟩ := hcut
        apply_assumption
        exact ReadRef_mid t1 two a b w _ p X hp ht HZ HA HC HB HY
end Go.Proofs.YtmodjglbjempkaaGreatDoor
