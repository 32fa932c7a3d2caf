/- References: the reference's ReadRef, where the text is divided at the colon. -/
import Derived.Test.YtmodjglbjempkaaGreatDoorHRfR9
import Derived.Test.YtmodjglbjempkaaGreatDoorHRfR6
set_option linter.unusedSimpArgs false
set_option linter.unusedVariables false
namespace Go.Proofs.YtmodjglbjempkaaGreatDoor
open Go.RowKit
set_option maxRecDepth 100000 in
set_option maxHeartbeats 4000000 in
theorem ReadRef_colon {u0 u1 u6 u7 u8 u9 u10 u11 u12 u13 u14 u15 u16 u17 u18 u19 u20 u21 u22 u23 u24 u25 u26 u27 u28 u29 u30 u31 u32 u33 u34 u35 u36 u37 u38 u39 u40 u41 u42 u43 u44 u45 u46 u47 u48 u49 u50 u51 u52 u53 u54 u55 u56 u57 u58 u59 u60 u61 u62 u63 u64 u65 u66 u67 u68 u69 u70 u71 u72 u73 u74 u75 u76 u77 u78 u79 u80 u81 u82 u83 u84 u85 u86 u87 u88 u89 u90 u91 u92 u93 u94 u95 u96 u97 u98 u99 u100 u101 u102 u103 u104 u105 u106 u107 u108 u109 u110 u111 u112 u113 u114 u115 u116 u117 u118 u119 u120 u121 u122 u123 u124 u125 u126 u127 u128 u129 u130 u131 u132 u133 u134 u135 u136 u137 u138 u139 u140 u141 u142 u143 u144 u145 u146 u147 u148 u149 u150 u151 u152 u153 u154 u155 u156 u157 u158 u159 u160 u161 u162 u163 u164 u165 u166 u167 u168 u169 u170 u171 u172 u173 u174 u175 u176 u177 u178 u179 u180 u181 u182 u183 u184 u185 u186 u187 u188 u189 u190 u191 u192 u193 u194 u195 u196 u197 u198 u199 u200 u201 u202 u203 u204 u205 u206 u207 u208 u209 u210 u211 u212 u213 u214 u215 u216 u217 u218 u219 u220 u221 u222 u223 u224 u225 u226 u227 u228 u229 u230 u231 u232 u233 u234 u235 u236 u237 u238 u239 : Value} (t1 t2 : List UInt8) (w wc : World) (X : RfP.Ref × Int) (ht : t1.length ≤ 1000000) (ht2 : t2.length ≤ 1000000)
    (HZ : Bx (Row wc w.heap.size 35 (refC RfP.zeroR))) (HB : Bx (Below w.heap.size w wc))
    (HX : Bx (X = RfP.readR t1 (RfP.cutR 58 t2).2.2 (RfP.sideP (RfP.cutR 58 t2).1) (bif (RfP.cutR 58 t2).2.2 then RfP.sideP (RfP.cutR 58 t2).2.1 else ((RfP.sideP (RfP.cutR 58 t2).1).1, 1)))) :
    Code.wp Tryz.prog ((Tryz.f12.body.bind (restOf 24)).getD .skip) (bodyPost Tryz.prog Tryz.f12 (RefPost w X)) ⟨#[u0, u1, .pointer (some ⟨w.heap.size, 0, none⟩), .int .i64 0, .string (bstr t1), .string (bstr t2), u6, u7, u8, u9, u10, u11, u12, u13, u14, u15, u16, u17, u18, u19, u20, u21, u22, u23, u24, u25, u26, u27, u28, u29, u30, u31, u32, u33, u34, u35, u36, u37, u38, u39, u40, u41, u42, u43, u44, u45, u46, u47, u48, u49, u50, u51, u52, u53, u54, u55, u56, u57, u58, u59, u60, u61, u62, u63, u64, u65, u66, u67, u68, u69, u70, u71, u72, u73, u74, u75, u76, u77, u78, u79, u80, u81, u82, u83, u84, u85, u86, u87, u88, u89, u90, u91, u92, u93, u94, u95, u96, u97, u98, u99, u100, u101, u102, u103, u104, u105, u106, u107, u108, u109, u110, u111, u112, u113, u114, u115, u116, u117, u118, u119, u120, u121, u122, u123, u124, u125, u126, u127, u128, u129, u130, u131, u132, u133, u134, u135, u136, u137, u138, u139, u140, u141, u142, u143, u144, u145, u146, u147, u148, u149, u150, u151, u152, u153, u154, u155, u156, u157, u158, u159, u160, u161, u162, u163, u164, u165, u166, u167, u168, u169, u170, u171, u172, u173, u174, u175, u176, u177, u178, u179, u180, u181, u182, u183, u184, u185, u186, u187, u188, u189, u190, u191, u192, u193, u194, u195, u196, u197, u198, u199, u200, u201, u202, u203, u204, u205, u206, u207, u208, u209, u210, u211, u212, u213, u214, u215, u216, u217, u218, u219, u220, u221, u222, u223, u224, u225, u226, u227, u228, u229, u230, u231, u232, u233, u234, u235, u236, u237, u238, u239], []⟩ wc := by
  have hcl := RfP.cutR_len 58 t2
  have HC := Bx.mk (show RfP.cutR 58 t2 = match RfP.cutAt 58 t2 with | none => (t2, [], false) | some p => (p.1, p.2, true) from rfl)
  generalize RfP.cutR 58 t2 = u at *
  obtain ⟨v1, v2, two⟩ := u
  dsimp only at *
  have hsz := bstr_size t2
  conv => arg 2; whnf
  go_upto_block 4 with fail
  go_cut [8, 9, 10] (fun a b c wx => a = .string (bstr v1) ∧ b = .string (bstr v2) ∧ c = .bool two ∧ Row wx w.heap.size 35 (refC RfP.zeroR) ∧ Below w.heap.size w wx)
  case first =>
    go_wp2_with fail
    go_loop [8, 9, 10, 117] (fun a b c i => a = .string (bstr t2) ∧ b = .string (bstr []) ∧ c = .bool false ∧ ∃ k : Nat, k ≤ t2.length ∧ i = .int .i64 (k : Int) ∧ ∀ d ∈ t2.take k, d ≠ 58) (fun _ _ _ i => t2.length - (intOf i).toNat)
    case atStart => exact ⟨rfl, rfl, rfl, 0, Nat.zero_le _, rfl, by simp⟩
    case round =>
      obtain ⟨rfl, rfl, rfl, k, hk, rfl, hal⟩ := hrel
      have HAL := Bx.mk hal; clear hal
      by_cases hlt : k < t2.length
      · have hat := bstr_at t2 k (by rw [hsz]; exact hlt)
        have HN := Bx.mk (take_next0 t2 k hlt)
        have HCT := Bx.mk (RfP.cutAt_take 58 t2 k HAL.out hlt)
        generalize t2.getD k 0 = c at *
        by_cases hc : c = 58
        · have hcn : ((c.toNat : Int) == 58) = true := by rw [hc]; rfl
          have HC2 := Bx.mk (HC.out.trans (by rw [HCT.out hc]))
          have h1 := fun wx => slice_h (P := Tryz.prog) Tryz.underlying9 t2 (k : Int) k rfl hk wx
          have h2 := fun wx => slice_l (P := Tryz.prog) Tryz.underlying9 t2 ((k : Int) + 1) (k + 1) (by omega) (by omega) wx
          clear hc
          go_wp2_with fail
          go_region
          go_wp2
          go_meet
          have e := HC2.out
          simp only [Prod.mk.injEq] at e
          obtain ⟨e1, e2, e3⟩ := e
          exact ⟨by rw [e1], by rw [e2], by rw [e3], HZ.out.drew, HB.out.drew⟩
        · have hcn : ((c.toNat : Int) == 58) = false := by
            rw [beq_eq_false_iff_ne]; intro e; exact hc (UInt8.toNat_inj.1 (by rw [show (58 : UInt8).toNat = 58 from rfl]; omega))
          go_wp2
          go_round
          case rel =>
            refine ⟨rfl, rfl, rfl, k + 1, by omega, by go_num, fun d hd => ?_⟩
            rw [HN.out] at hd
            rcases List.mem_append.1 hd with h | h
            · exact HAL.out d h
            · obtain rfl : d = c := by simpa using h
              exact hc
          case measure => simp [intOf]; omega
      · obtain rfl : k = t2.length := by omega
        rw [List.take_length] at HAL
        have HC2 := Bx.mk (HC.out.trans (by rw [RfP.cutAt_none 58 t2 HAL.out]))
        go_wp2
        go_meet
        have e := HC2.out
        simp only [Prod.mk.injEq] at e
        obtain ⟨e1, e2, e3⟩ := e
        exact ⟨by rw [e1], by rw [e2], by rw [e3], HZ.out, HB.out⟩
  case rest =>
    obtain ⟨rfl, rfl, rfl, hz, hb⟩ := hcut
    apply_assumption
    exact ReadRef_tail t1 v1 v2 two w _ X ht (by omega) (by omega) ⟨hz⟩ ⟨hb⟩ HX
end Go.Proofs.YtmodjglbjempkaaGreatDoor
