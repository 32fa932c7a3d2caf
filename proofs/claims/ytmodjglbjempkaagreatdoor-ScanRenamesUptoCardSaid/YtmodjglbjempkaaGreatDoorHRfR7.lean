/- References: the reference's ReadRef, where the reference is built. -/
import Derived.Test.YtmodjglbjempkaaGreatDoorHRfR5
set_option linter.unusedSimpArgs false
set_option linter.unusedVariables false
namespace Go.Proofs.YtmodjglbjempkaaGreatDoor
open Go.RowKit
set_option maxRecDepth 100000 in
set_option maxHeartbeats 4000000 in
theorem ReadRef_mid {u0 u1 u5 u6 u7 u8 u9 u11 u13 u15 u16 u17 u18 u19 u20 u21 u22 u23 u24 u25 u26 u27 u28 u29 u30 u31 u32 u33 u34 u35 u36 u37 u38 u39 u40 u41 u42 u43 u44 u45 u46 u47 u48 u49 u50 u51 u52 u53 u54 u55 u56 u57 u58 u59 u60 u61 u62 u63 u64 u65 u66 u67 u68 u69 u70 u71 u72 u73 u74 u75 u76 u77 u78 u79 u80 u81 u82 u83 u84 u85 u86 u87 u88 u89 u90 u91 u92 u93 u94 u95 u96 u97 u98 u99 u100 u101 u102 u103 u104 u105 u106 u107 u108 u109 u110 u111 u112 u113 u114 u115 u116 u117 u118 u119 u120 u121 u122 u123 u124 u125 u126 u127 u128 u129 u130 u131 u132 u133 u134 u135 u136 u137 u138 u139 u140 u141 u142 u143 u144 u145 u146 u147 u148 u149 u150 u151 u152 u153 u154 u155 u156 u157 u158 u159 u160 u161 u162 u163 u164 u165 u166 u167 u168 u169 u170 u171 u172 u173 u174 u175 u176 u177 u178 u179 u180 u181 u182 u183 u184 u185 u186 u187 u188 u189 u190 u191 u192 u193 u194 u195 u196 u197 u198 u199 u200 u201 u202 u203 u204 u205 u206 u207 u208 u209 u210 u211 u212 u213 u214 u215 u216 u217 u218 u219 u220 u221 u222 u223 u224 u225 u226 u227 u228 u229 u230 u231 u232 u233 u234 u235 u236 u237 u238 u239 : Value} (t1 : List UInt8) (two : Bool) (a b : RfP.Side) (w wc : World) (p : Nat) (X : RfP.Ref × Int) (hp : w.heap.size < p) (ht : t1.length ≤ 1000000)
    (HZ : Bx (Row wc w.heap.size 35 (refC RfP.zeroR))) (HA : Bx (Row wc p 68 (sideA a))) (HC : Bx (Row wc (p + 1) 68 (sideA b))) (HB : Bx (Below w.heap.size w wc))
    (HX : Bx (X = RfP.doneP ⟨t1, RfP.kindR two a, max a.row 0, max a.col 0, (bif two then max b.row 0 else 0), (bif two then max b.col 0 else 0), a.ar, a.ac, two && b.ar, two && b.ac⟩)) :
    Code.wp Tryz.prog ((Tryz.f12.body.bind (restOf 39)).getD .skip) (bodyPost Tryz.prog Tryz.f12 (RefPost w X)) ⟨#[u0, u1, .pointer (some ⟨w.heap.size, 0, none⟩), .int .i64 0, .string (bstr t1), u5, u6, u7, u8, u9, .bool two, u11, .pointer (some ⟨p, 0, none⟩), u13, .pointer (some ⟨p + 1, 0, none⟩), u15, u16, u17, u18, u19, u20, u21, u22, u23, u24, u25, u26, u27, u28, u29, u30, u31, u32, u33, u34, u35, u36, u37, u38, u39, u40, u41, u42, u43, u44, u45, u46, u47, u48, u49, u50, u51, u52, u53, u54, u55, u56, u57, u58, u59, u60, u61, u62, u63, u64, u65, u66, u67, u68, u69, u70, u71, u72, u73, u74, u75, u76, u77, u78, u79, u80, u81, u82, u83, u84, u85, u86, u87, u88, u89, u90, u91, u92, u93, u94, u95, u96, u97, u98, u99, u100, u101, u102, u103, u104, u105, u106, u107, u108, u109, u110, u111, u112, u113, u114, u115, u116, u117, u118, u119, u120, u121, u122, u123, u124, u125, u126, u127, u128, u129, u130, u131, u132, u133, u134, u135, u136, u137, u138, u139, u140, u141, u142, u143, u144, u145, u146, u147, u148, u149, u150, u151, u152, u153, u154, u155, u156, u157, u158, u159, u160, u161, u162, u163, u164, u165, u166, u167, u168, u169, u170, u171, u172, u173, u174, u175, u176, u177, u178, u179, u180, u181, u182, u183, u184, u185, u186, u187, u188, u189, u190, u191, u192, u193, u194, u195, u196, u197, u198, u199, u200, u201, u202, u203, u204, u205, u206, u207, u208, u209, u210, u211, u212, u213, u214, u215, u216, u217, u218, u219, u220, u221, u222, u223, u224, u225, u226, u227, u228, u229, u230, u231, u232, u233, u234, u235, u236, u237, u238, u239], []⟩ wc := by
  have HKD := Bx.mk (show RfP.kindR two a = if two = false then 0 else if a.row < 0 then 3 else if a.col < 0 then 2 else 1 from rfl)
  generalize RfP.kindR two a = kd at *
  obtain ⟨a0, a1, a2, a3⟩ := a
  obtain ⟨b0, b1, b2, b3⟩ := b
  dsimp only at *
  have ca : ∀ o, wc.cell? ⟨p, o, none⟩ = #[Value.int .i64 a0, .int .i64 a1, .bool a2, .bool a3][o]? := fun o => HA.out.cell o
  have lz := HZ.out.lt
  have lc := HC.out.lt
  obtain ⟨m0, hm0⟩ : ∃ m, max a0 0 = m := ⟨_, rfl⟩
  obtain ⟨m1, hm1⟩ : ∃ m, max a1 0 = m := ⟨_, rfl⟩
  rw [hm0, hm1] at HX
  conv => arg 2; whnf
  go_upto_block 6 with fail
  have HQ0 := Bx.mk (Row.new wc 35 #[Value.string (bstr t1), .int .i64 0, .int .i64 m0, .int .i64 m1, .int .i64 0, .int .i64 0, .bool a2, .bool a3, .bool false, .bool false])
  have HZ0 := Bx.mk (HZ.out.alloc (.cells #[Value.string (bstr t1), .int .i64 0, .int .i64 m0, .int .i64 m1, .int .i64 0, .int .i64 0, .bool a2, .bool a3, .bool false, .bool false] 35))
  have HA0 := Bx.mk (HA.out.alloc (.cells #[Value.string (bstr t1), .int .i64 0, .int .i64 m0, .int .i64 m1, .int .i64 0, .int .i64 0, .bool a2, .bool a3, .bool false, .bool false] 35))
  have HC0 := Bx.mk (HC.out.alloc (.cells #[Value.string (bstr t1), .int .i64 0, .int .i64 m0, .int .i64 m1, .int .i64 0, .int .i64 0, .bool a2, .bool a3, .bool false, .bool false] 35))
  have HB0 := Bx.mk (HB.out.alloc (Nat.le_of_lt lz) (.cells #[Value.string (bstr t1), .int .i64 0, .int .i64 m0, .int .i64 m1, .int .i64 0, .int .i64 0, .bool a2, .bool a3, .bool false, .bool false] 35))
  obtain ⟨W1, hW1⟩ : ∃ W1, wc.alloc (.cells #[Value.string (bstr t1), .int .i64 0, .int .i64 m0, .int .i64 m1, .int .i64 0, .int .i64 0, .bool a2, .bool a3, .bool false, .bool false] 35) = W1 := ⟨_, rfl⟩
  rw [hW1] at HQ0 HZ0 HA0 HC0 HB0 ⊢
  obtain ⟨q, hq⟩ : ∃ q, wc.heap.size = q := ⟨_, rfl⟩
  rw [hq] at HQ0 lz lc ⊢
  clear hW1 hq HZ HA HC HB ca
  have ca : ∀ o, W1.cell? ⟨p, o, none⟩ = #[Value.int .i64 a0, .int .i64 a1, .bool a2, .bool a3][o]? := fun o => HA0.out.cell o
  have qc := fun o => HQ0.out.cell o
  have qf := HQ0.out.frozen
  go_cut [] (fun wx => Row wx q 35 #[Value.string (bstr t1), .int .i64 kd, .int .i64 m0, .int .i64 m1, .int .i64 0, .int .i64 0, .bool a2, .bool a3, .bool false, .bool false] ∧ Row wx w.heap.size 35 (refC RfP.zeroR) ∧ Row wx (p + 1) 68 #[Value.int .i64 b0, .int .i64 b1, .bool b2, .bool b3] ∧ Below w.heap.size w wx)
  case first =>
    cases two with
    | false =>
      rw [if_pos rfl] at HKD
      go_wp2
      go_meet
      exact ⟨by rw [HKD.out]; exact HQ0.out, HZ0.out, HC0.out, HB0.out⟩
    | true =>
      rw [if_neg (by simp)] at HKD
      by_cases h0 : a0 < 0
      · rw [if_pos h0] at HKD
        go_wp2
        go_meet
        exact ⟨by rw [HKD.out]; exact HQ0.out.set 1 _, HZ0.out.other (by dsimp only; omega) _, HC0.out.other (by dsimp only; omega) _, HB0.out.setCell (by dsimp only; omega) _⟩
      · rw [if_neg h0] at HKD
        by_cases h1 : a1 < 0
        · rw [if_pos h1] at HKD
          go_wp2
          go_meet
          exact ⟨by rw [HKD.out]; exact HQ0.out.set 1 _, HZ0.out.other (by dsimp only; omega) _, HC0.out.other (by dsimp only; omega) _, HB0.out.setCell (by dsimp only; omega) _⟩
        · rw [if_neg h1] at HKD
          go_wp2
          go_meet
          exact ⟨by rw [HKD.out]; exact HQ0.out.set 1 _, HZ0.out.other (by dsimp only; omega) _, HC0.out.other (by dsimp only; omega) _, HB0.out.setCell (by dsimp only; omega) _⟩
  case rest =>
    clear HQ0 HZ0 HA0 HC0 HB0 ca qc qf
    obtain ⟨hq, hz, hc, hb⟩ := hcut
    apply_assumption
    cases two with
    | false =>
      rw [if_pos rfl] at HKD
      have hkd := HKD.out
      subst hkd
      go_upto_if 216 with fail
      obtain ⟨wy, hwy⟩ : ∃ wy : World, wc = wy := ⟨_, rfl⟩
      subst hwy
      go_cut [] (fun wx => wx = wc)
      case first =>
        go_wp2
        go_meet
        rfl
      case rest =>
        subst hcut
        apply_assumption
        exact ReadRef_end ⟨t1, 0, m0, m1, 0, 0, a2, a3, false, false⟩ w _ _ X (by omega) ht ⟨hz⟩ ⟨hq⟩ ⟨hb⟩ ⟨by rw [HX.out, doneP_err]; rfl⟩
    | true =>
      rw [if_neg (by simp)] at HKD
      have hk0 : kd ≠ 0 := by rw [HKD.out]; by_cases h0 : a0 < 0 <;> by_cases h1 : a1 < 0 <;> simp [h0, h1]
      exact ReadRef_two t1 kd m0 m1 b0 b1 _ _ a2 a3 b2 b3 w _ (p + 1) q X hk0 (by omega) lc ht rfl rfl ⟨hz⟩ ⟨hc⟩ ⟨hq⟩ ⟨hb⟩ ⟨HX.out⟩
end Go.Proofs.YtmodjglbjempkaaGreatDoor
