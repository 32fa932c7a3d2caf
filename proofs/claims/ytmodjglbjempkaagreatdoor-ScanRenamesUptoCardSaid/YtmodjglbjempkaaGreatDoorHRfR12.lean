/- References: the reference's ReadRef, whole, by the reckoning walk. -/
import Derived.Test.YtmodjglbjempkaaGreatDoorHRfR10
import Derived.Test.YtmodjglbjempkaaGreatDoorHRfW6
import Derived.Test.YtmodjglbjempkaaGreatDoorHRfW5
import Derived.Test.YtmodjglbjempkaaGreatDoorHSb
import Derived.Test.YtmodjglbjempkaaGreatDoorHSzEnv
set_option linter.unusedSimpArgs false
set_option linter.unusedVariables false
namespace Go.Proofs.YtmodjglbjempkaaGreatDoor
open Go.RowKit
open Sym
abbrev rrZ : List SV := [.str [], .int .i64 0, .int .i64 0, .int .i64 0, .int .i64 0, .int .i64 0, .lit false, .lit false, .lit false, .lit false]
abbrev rrJ (t : List UInt8 × List UInt8) : St := ⟨[(2, .ptr 0 0), (3, .int .i64 0), (4, .str t.1), (5, .str t.2)], [(0, true, .cells 35 rrZ)], 1, 240⟩
noncomputable abbrev rrC (s : List UInt8) (w : World) (sc sb : List Nat) : Ctx := ⟨Tryz.prog, env, w.heap.size, Base.of w, Tryz.f12, [ResultVar.cell 2 35, ResultVar.tmp 3], RefPost w (RfP.parseP s), sc, sb⟩
theorem tmps_eq {t : Array Value} {n : Nat} (h : t.size = n) : t = ((List.range n).map fun i => t.getD i undef).toArray := by
  apply Array.ext
  · simp [h]
  · intro i h1 h2
    simp [h1]
theorem cutWorld {w wc : World} {p : Nat} (h : Below w.heap.size w wc) (h1 : w.heap.size ≤ p) (h2 : p ≤ wc.heap.size) : ∃ w1 : World, w1.heap.size = p ∧ Below p w1 wc ∧ Below w.heap.size w w1 := by
  refine ⟨{ wc with heap := wc.heap.extract 0 p }, by simp; omega, ⟨rfl, rfl, rfl, by simp; omega, fun k hk => ?_⟩, ⟨h.os, h.tape, h.output, by simp; omega, fun k hk => ?_⟩⟩
  · simp [Array.getElem?_extract]; omega
  · rw [← h.block k hk]; simp [Array.getElem?_extract]; omega
theorem bodyPost_imp {P : Program} {fn : Func} {R R' : Ending → World → Prop} (h : ∀ e w, R e w → R' e w) : ∀ (e : Exit) (a : Act) (w : World), bodyPost P fn R e a w → bodyPost P fn R' e a w
  | .normal, _, _, ⟨d, v, h1, h2⟩ => ⟨d, v, h1, h _ _ h2⟩
  | .ret, _, _, ⟨d, v, h1, h2⟩ => ⟨d, v, h1, h _ _ h2⟩
  | .panic _, _, _, ⟨d, h1⟩ => ⟨d, h _ _ h1⟩
  | .outgrown, _, _, h1 => h _ _ h1
  | .exit _, _, _, h1 => h1
  | .goto _, _, _, h1 => h1
set_option maxRecDepth 100000 in
theorem rr_tail (s t1 t2 : List UInt8) (w : World) (sc sb : List Nat) (ht : RfP.parseP s = RfP.readR t1 (RfP.cutR 58 t2).2.2 (RfP.sideP (RfP.cutR 58 t2).1) (bif (RfP.cutR 58 t2).2.2 then RfP.sideP (RfP.cutR 58 t2).2.1 else ((RfP.sideP (RfP.cutR 58 t2).1).1, 1))) (h1 : t1.length ≤ 1000000) (h2 : t2.length ≤ 1000000) :
    StopN (rrC s w sc sb) [.code ((Tryz.f12.body.bind (restOf 24)).getD .skip)] (rrJ (t1, t2)) := by
  unfold StopN
  intro β a wc hs
  obtain ⟨tm, df⟩ := a
  obtain ⟨d0, z0, sl, mm⟩ := hs
  obtain rfl : df = [] := d0
  have z0 : tm.size = 240 := z0
  have e2 : tm.getD 2 undef = .pointer (some ⟨β 0, 0, none⟩) := (sl 2 _ rfl).1
  have e3 : tm.getD 3 undef = .int .i64 0 := (sl 3 _ rfl).1
  have e4 : tm.getD 4 undef = .string (bstr t1) := (sl 4 _ rfl).1
  have e5 : tm.getD 5 undef = .string (bstr t2) := (sl 5 _ rfl).1
  obtain ⟨r0, -, -, r1⟩ := mm.row 0 _ _ rfl
  obtain ⟨w1, hw1, hb1, hb2⟩ := cutWorld (w := w) mm.below (r1 rfl) (Nat.le_of_lt (mm.lt 0 Nat.one_pos))
  rw [← hw1] at hb1 e2
  have r0 : Row wc w1.heap.size 35 (refC RfP.zeroR) := by rw [hw1]; exact r0
  have hd : tm = #[tm.getD 0 undef, tm.getD 1 undef, tm.getD 2 undef, tm.getD 3 undef, tm.getD 4 undef, tm.getD 5 undef, tm.getD 6 undef, tm.getD 7 undef, tm.getD 8 undef, tm.getD 9 undef, tm.getD 10 undef, tm.getD 11 undef, tm.getD 12 undef, tm.getD 13 undef, tm.getD 14 undef, tm.getD 15 undef, tm.getD 16 undef, tm.getD 17 undef, tm.getD 18 undef, tm.getD 19 undef, tm.getD 20 undef, tm.getD 21 undef, tm.getD 22 undef, tm.getD 23 undef, tm.getD 24 undef, tm.getD 25 undef, tm.getD 26 undef, tm.getD 27 undef, tm.getD 28 undef, tm.getD 29 undef, tm.getD 30 undef, tm.getD 31 undef, tm.getD 32 undef, tm.getD 33 undef, tm.getD 34 undef, tm.getD 35 undef, tm.getD 36 undef, tm.getD 37 undef, tm.getD 38 undef, tm.getD 39 undef, tm.getD 40 undef, tm.getD 41 undef, tm.getD 42 undef, tm.getD 43 undef, tm.getD 44 undef, tm.getD 45 undef, tm.getD 46 undef, tm.getD 47 undef, tm.getD 48 undef, tm.getD 49 undef, tm.getD 50 undef, tm.getD 51 undef, tm.getD 52 undef, tm.getD 53 undef, tm.getD 54 undef, tm.getD 55 undef, tm.getD 56 undef, tm.getD 57 undef, tm.getD 58 undef, tm.getD 59 undef, tm.getD 60 undef, tm.getD 61 undef, tm.getD 62 undef, tm.getD 63 undef, tm.getD 64 undef, tm.getD 65 undef, tm.getD 66 undef, tm.getD 67 undef, tm.getD 68 undef, tm.getD 69 undef, tm.getD 70 undef, tm.getD 71 undef, tm.getD 72 undef, tm.getD 73 undef, tm.getD 74 undef, tm.getD 75 undef, tm.getD 76 undef, tm.getD 77 undef, tm.getD 78 undef, tm.getD 79 undef, tm.getD 80 undef, tm.getD 81 undef, tm.getD 82 undef, tm.getD 83 undef, tm.getD 84 undef, tm.getD 85 undef, tm.getD 86 undef, tm.getD 87 undef, tm.getD 88 undef, tm.getD 89 undef, tm.getD 90 undef, tm.getD 91 undef, tm.getD 92 undef, tm.getD 93 undef, tm.getD 94 undef, tm.getD 95 undef, tm.getD 96 undef, tm.getD 97 undef, tm.getD 98 undef, tm.getD 99 undef, tm.getD 100 undef, tm.getD 101 undef, tm.getD 102 undef, tm.getD 103 undef, tm.getD 104 undef, tm.getD 105 undef, tm.getD 106 undef, tm.getD 107 undef, tm.getD 108 undef, tm.getD 109 undef, tm.getD 110 undef, tm.getD 111 undef, tm.getD 112 undef, tm.getD 113 undef, tm.getD 114 undef, tm.getD 115 undef, tm.getD 116 undef, tm.getD 117 undef, tm.getD 118 undef, tm.getD 119 undef, tm.getD 120 undef, tm.getD 121 undef, tm.getD 122 undef, tm.getD 123 undef, tm.getD 124 undef, tm.getD 125 undef, tm.getD 126 undef, tm.getD 127 undef, tm.getD 128 undef, tm.getD 129 undef, tm.getD 130 undef, tm.getD 131 undef, tm.getD 132 undef, tm.getD 133 undef, tm.getD 134 undef, tm.getD 135 undef, tm.getD 136 undef, tm.getD 137 undef, tm.getD 138 undef, tm.getD 139 undef, tm.getD 140 undef, tm.getD 141 undef, tm.getD 142 undef, tm.getD 143 undef, tm.getD 144 undef, tm.getD 145 undef, tm.getD 146 undef, tm.getD 147 undef, tm.getD 148 undef, tm.getD 149 undef, tm.getD 150 undef, tm.getD 151 undef, tm.getD 152 undef, tm.getD 153 undef, tm.getD 154 undef, tm.getD 155 undef, tm.getD 156 undef, tm.getD 157 undef, tm.getD 158 undef, tm.getD 159 undef, tm.getD 160 undef, tm.getD 161 undef, tm.getD 162 undef, tm.getD 163 undef, tm.getD 164 undef, tm.getD 165 undef, tm.getD 166 undef, tm.getD 167 undef, tm.getD 168 undef, tm.getD 169 undef, tm.getD 170 undef, tm.getD 171 undef, tm.getD 172 undef, tm.getD 173 undef, tm.getD 174 undef, tm.getD 175 undef, tm.getD 176 undef, tm.getD 177 undef, tm.getD 178 undef, tm.getD 179 undef, tm.getD 180 undef, tm.getD 181 undef, tm.getD 182 undef, tm.getD 183 undef, tm.getD 184 undef, tm.getD 185 undef, tm.getD 186 undef, tm.getD 187 undef, tm.getD 188 undef, tm.getD 189 undef, tm.getD 190 undef, tm.getD 191 undef, tm.getD 192 undef, tm.getD 193 undef, tm.getD 194 undef, tm.getD 195 undef, tm.getD 196 undef, tm.getD 197 undef, tm.getD 198 undef, tm.getD 199 undef, tm.getD 200 undef, tm.getD 201 undef, tm.getD 202 undef, tm.getD 203 undef, tm.getD 204 undef, tm.getD 205 undef, tm.getD 206 undef, tm.getD 207 undef, tm.getD 208 undef, tm.getD 209 undef, tm.getD 210 undef, tm.getD 211 undef, tm.getD 212 undef, tm.getD 213 undef, tm.getD 214 undef, tm.getD 215 undef, tm.getD 216 undef, tm.getD 217 undef, tm.getD 218 undef, tm.getD 219 undef, tm.getD 220 undef, tm.getD 221 undef, tm.getD 222 undef, tm.getD 223 undef, tm.getD 224 undef, tm.getD 225 undef, tm.getD 226 undef, tm.getD 227 undef, tm.getD 228 undef, tm.getD 229 undef, tm.getD 230 undef, tm.getD 231 undef, tm.getD 232 undef, tm.getD 233 undef, tm.getD 234 undef, tm.getD 235 undef, tm.getD 236 undef, tm.getD 237 undef, tm.getD 238 undef, tm.getD 239 undef] := tmps_eq z0
  rw [e2, e3, e4, e5] at hd
  show Code.wp _ _ _ ⟨tm, []⟩ wc
  rw [hd]
  exact wp_mono (ReadRef_colon t1 t2 w1 wc (RfP.parseP s) h1 h2 ⟨r0⟩ ⟨hb1⟩ ⟨ht⟩) (bodyPost_imp fun e w' ⟨q1, q2⟩ => ⟨q1, hb2.trans (q2.mono (Nat.le_trans (r1 rfl) (Nat.le_of_eq hw1.symm)))⟩)
theorem pos_of {s : List UInt8} (h : ¬ s = []) : 0 < s.length := by cases s with | nil => exact absurd rfl h | cons _ _ => simp
theorem title_q (s : List UInt8) (h : s.getD 0 0 = 39) (h0 : ¬ s = []) : RfP.titleP s = match RfP.quoted [] (s.drop 1) with | none => ([], [], false) | some (b, r) => (b, (RfP.cutC 33 r).1, (RfP.cutC 33 r).2 && !b.isEmpty) := by
  cases s with
  | nil => exact absurd rfl h0
  | cons d r =>
    have : d = 39 := h
    subst this
    rfl
theorem title_n (s : List UInt8) (h : ¬ s = [] → ¬ s.getD 0 0 = 39) : RfP.titleP s = match RfP.cutAt 33 s with | none => ([], s, true) | some (a, b) => (a, b, RfP.plain a) := by
  unfold RfP.titleP
  rw [if_neg (by
    cases s with
    | nil => simp
    | cons d r =>
      have : ¬ d = 39 := h (by simp)
      simpa using this)]
  rfl
theorem quoted_at (s : List UInt8) (k : Nat) (b : List UInt8) (hk : k < s.length) (hc : s.getD k 0 = 39) (hn : k + 1 < s.length → ¬ s.getD (k + 1) 0 = 39) : RfP.quoted b (s.drop k) = some (b, s.drop (k + 1)) := by
  rw [drop_cons s k hk, hc]
  refine RfP.quoted_end b _ fun e => ?_
  by_cases h : k + 1 < s.length
  · rw [drop_cons s (k + 1) h] at e
    exact hn h (by simpa using e)
  · rw [List.drop_eq_nil_of_le (by omega)] at e; simp at e
theorem cut_at (s : List UInt8) (k : Nat) (h : k < s.length) : RfP.cutC 33 (s.drop k) = if s.getD k 0 = 33 then (s.drop (k + 1), true) else (s.drop k, false) := by
  rw [drop_cons s k h]; rfl
theorem read_err (s : List UInt8) (h500 : s.length ≤ 500) (hr : s ≠ RfP.refTxt) (h : (RfP.titleP s).2.2 = false) : RfP.parseP s = (RfP.zeroR, 10) := by rw [RfP.parse_read s h500 hr, if_pos h]
theorem ext_len (s : List UInt8) (k : Nat) (h : k < s.length) : (s.take (k + 1)).drop k = [s.getD k 0] := by
  rw [List.drop_take, drop_cons s k h, show k + 1 - k = 1 by omega]; rfl
abbrev RrT (s : List UInt8) := {t : List UInt8 × List UInt8 // RfP.titleP s = (t.1, t.2, true) ∧ t.1.length ≤ 500 ∧ t.2.length ≤ 500}
set_option maxRecDepth 100000 in
set_option maxHeartbeats 4000000 in
theorem ReadRef_rest (s : List UInt8) (w : World) (h500 : s.length ≤ 500) (hr : s ≠ RfP.refTxt) : Calls Tryz.prog 12 #[.string (bstr s)] w (RefPost w (RfP.parseP s)) := by
  refine enter env_ok Tryz.func12 rfl Tryz.results12 Tryz.ntmps12 [32] [] [.str s] ⟨trivial, trivial⟩ (Nat.le_of_ble_eq_true rfl) w _ 1000 ?_
  repeat' (first | ((with_reducible first | show wpS _ _ _ _ | show putD _ _ _ _ | show putW _ _ _ _ | show splitG _ _ _ | show wpQ _ _ _ _ _ _ | show wpD _ _ _ _ _ _ _); conv => whnf) | ((with_reducible show RetN _ _ _); refine retB fun β => ?_) | ((with_reducible show _ ∧ _); first | (apply And.intro; (· intro h; exfalso; first | omega | (revert h; decide)); intro _) | (apply And.intro; rotate_left; (· intro h; exfalso; first | omega | (revert h; decide)); intro _) | (refine ⟨fun _ => ?_, fun _ => ?_⟩) | (apply And.intro; · kernel_rfl) | (apply And.intro; · (show inK _ _; unfold inK; omega)) | (apply And.intro; · (show (_ : Int) ≤ 9223372036854775807; simp only [List.length_append, List.length_drop, List.length_take, List.length_cons, List.length_nil]; omega))) | ((with_reducible show CallN _ _ _ _ _ _ _ _); first | fail) | ((with_reducible show ∃ _, _); first | (refine ⟨0, rfl, pos_of ‹_›, ?_⟩)))
  · exact absurd ‹_› hr
  all_goals refine join env_ok rfl (T := RrT s) (fun t => rrJ t.1) 1000 0 [] [] [] [] (fun _ => Nat.zero_le _) (fun I hI => ?_) (fun t => ?_)
  any_goals (
    obtain ⟨⟨t1, t2⟩, ht, l1, l2⟩ := t
    dsimp only at ht l1 l2
    simp only [wpS]
    exact rr_tail s t1 t2 w [] [] (by rw [RfP.parse_read s h500 hr, ht]; simp) (by omega) (by omega))
  all_goals repeat' (first | ((with_reducible first | show wpS _ _ _ _ | show putD _ _ _ _ | show putW _ _ _ _ | show splitG _ _ _ | show wpQ _ _ _ _ _ _ | show wpD _ _ _ _ _ _ _); conv => whnf) | ((with_reducible show RetN _ _ _); refine retB fun β => ?_) | ((with_reducible show _ ∧ _); first | (apply And.intro; (· intro h; exfalso; first | omega | (revert h; decide)); intro _) | (apply And.intro; rotate_left; (· intro h; exfalso; first | omega | (revert h; decide)); intro _) | (refine ⟨fun _ => ?_, fun _ => ?_⟩) | (apply And.intro; · kernel_rfl) | (apply And.intro; · (show inK _ _; unfold inK; omega)) | (apply And.intro; · (show (_ : Int) ≤ 9223372036854775807; simp only [List.length_append, List.length_drop, List.length_take, List.length_cons, List.length_nil]; omega))) | ((with_reducible show CallN _ _ _ _ _ _ _ _); first | fail) | ((with_reducible show ∃ _, _); first | (refine ⟨0, rfl, pos_of ‹_›, ?_⟩)))
  · have h0 : ¬ s = [] := ‹_›
    have h1 : s.getD 0 0 = 39 := UInt8.toNat_inj.1 (show (s.getD 0 0).toNat = 39 by omega)
    have hT := title_q s h1 h0
    have hp := pos_of h0
    refine loop env_ok rfl (T := {p : Nat × List UInt8 // 1 ≤ p.1 ∧ p.1 ≤ s.length ∧ p.2.length ≤ p.1 ∧ RfP.quoted [] (s.drop 1) = RfP.quoted p.2 (s.drop p.1)}) (fun t => ⟨[(0, .str s), (2, .ptr 0 0), (3, .int .i64 0), (4, .str t.1.2), (6, .int .i64 (t.1.1 : Nat))], [(0, true, .cells 35 rrZ)], 1, 240⟩) (fun t => s.length - t.1.1) ⟨(1, []), Nat.le_refl _, hp, Nat.zero_le _, rfl⟩ 1000 [] [] (fun _ => Nat.zero_le _) (by ((with_reducible show wk _ _); repeat' (first | exact trivial | exact eqSV_refl _ | (refine eqI ?_) | (refine eqS ?_) | (with_reducible exact rfl) | apply And.intro | exact Nat.zero_lt_one | (with_reducible assumption) | ((show (_ : Int) = _); omega) | rfl))) (fun t I2 hI2 => ?_)
    obtain ⟨⟨k, b⟩, hk1, hk2, hb, hq⟩ := t
    dsimp only at hk1 hk2 hb hq ⊢
    rw [hq] at hT
    repeat' (first | ((with_reducible first | show wpS _ _ _ _ | show putD _ _ _ _ | show putW _ _ _ _ | show splitG _ _ _ | show wpQ _ _ _ _ _ _ | show wpD _ _ _ _ _ _ _); conv => whnf) | ((with_reducible show RetN _ _ _); refine retB fun β => ?_) | ((with_reducible show _ ∧ _); first | (apply And.intro; (· intro h; exfalso; first | omega | (revert h; decide)); intro _) | (apply And.intro; rotate_left; (· intro h; exfalso; first | omega | (revert h; decide)); intro _) | (refine ⟨fun _ => ?_, fun _ => ?_⟩) | (apply And.intro; · kernel_rfl) | (apply And.intro; · (show inK _ _; unfold inK; omega)) | (apply And.intro; · (show (_ : Int) ≤ 9223372036854775807; simp only [List.length_append, List.length_drop, List.length_take, List.length_cons, List.length_nil]; omega))) | ((with_reducible show CallN _ _ _ _ _ _ _ _); first | fail) | ((with_reducible show ∃ _, _); first | (refine ⟨k, rfl, by omega, ?_⟩) | (refine ⟨k + 1, by omega, by omega, ?_⟩) | (refine ⟨k, k + 1, rfl, by omega, by omega, by omega, ?_⟩) | (refine ⟨k + 2, by omega, by omega, ?_⟩)))
    · have hlt : k < s.length := by omega
      have hc : ¬ s.getD k 0 = 39 := fun e => by have : (s.getD k 0).toNat = 39 := congrArg UInt8.toNat e; omega
      refine hI2 _ ⟨(k + 1, b ++ (s.take (k + 1)).drop k), by omega, by omega, ?_, ?_⟩ (by dsimp only; omega) (by ((with_reducible show wk _ _); repeat' (first | exact trivial | exact eqSV_refl _ | (refine eqI ?_) | (refine eqS ?_) | (with_reducible exact rfl) | apply And.intro | exact Nat.zero_lt_one | (with_reducible assumption) | ((show (_ : Int) = _); omega) | rfl)))
      · rw [ext_len s k hlt]; simp; omega
      · rw [ext_len s k hlt, hq, drop_cons s k hlt, RfP.quoted_step _ _ _ hc]
    · have hlt : k + 1 < s.length := by omega
      have hc : s.getD k 0 = 39 := UInt8.toNat_inj.1 (show (s.getD k 0).toNat = 39 by omega)
      have hd : s.getD (k + 1) 0 = 39 := UInt8.toNat_inj.1 (show (s.getD (k + 1) 0).toNat = 39 by omega)
      refine hI2 _ ⟨(k + 2, b ++ (s.take (k + 1)).drop k), by omega, by omega, ?_, ?_⟩ (by dsimp only; omega) (by ((with_reducible show wk _ _); repeat' (first | exact trivial | exact eqSV_refl _ | (refine eqI ?_) | (refine eqS ?_) | (with_reducible exact rfl) | apply And.intro | exact Nat.zero_lt_one | (with_reducible assumption) | ((show (_ : Int) = _); omega) | rfl)))
      · rw [ext_len s k (by omega)]; simp; omega
      · rw [ext_len s k (by omega), hq, drop_cons s k (by omega), drop_cons s (k + 1) hlt, hc, hd, RfP.quoted_two]
    · have hc : s.getD k 0 = 39 := UInt8.toNat_inj.1 (show (s.getD k 0).toNat = 39 by omega)
      have hd : ¬ s.getD (k + 1) 0 = 39 := fun e => by have : (s.getD (k + 1) 0).toNat = 39 := congrArg UInt8.toNat e; omega
      rw [read_err s h500 hr (by rw [hT, quoted_at s k b (by omega) hc (fun _ => hd)]; have hb0 : b = [] := ‹_›; rw [hb0]; simp)]; rfl
    · have hc : s.getD k 0 = 39 := UInt8.toNat_inj.1 (show (s.getD k 0).toNat = 39 by omega)
      have hd : ¬ s.getD (k + 1) 0 = 39 := fun e => by have : (s.getD (k + 1) 0).toNat = 39 := congrArg UInt8.toNat e; omega
      have he : ¬ s.getD (k + 1) 0 = 33 := fun e => by have : (s.getD (k + 1) 0).toNat = 33 := congrArg UInt8.toNat e; omega
      rw [read_err s h500 hr (by rw [hT, quoted_at s k b (by omega) hc (fun _ => hd)]; dsimp only; rw [cut_at s (k + 1) (by omega), if_neg he]; rfl)]; rfl
    · have hc : s.getD k 0 = 39 := UInt8.toNat_inj.1 (show (s.getD k 0).toNat = 39 by omega)
      have hd : ¬ s.getD (k + 1) 0 = 39 := fun e => by have : (s.getD (k + 1) 0).toNat = 39 := congrArg UInt8.toNat e; omega
      have he : s.getD (k + 1) 0 = 33 := UInt8.toNat_inj.1 (show (s.getD (k + 1) 0).toNat = 33 by omega)
      have hb0 : ¬ b = [] := ‹_›
      have hb1 : b.isEmpty = false := by cases b with | nil => exact absurd rfl hb0 | cons _ _ => rfl
      refine hI _ ⟨(b, s.drop (k + 2)), ?_, by dsimp only; omega, by simp; omega⟩ (by ((with_reducible show wk _ _); repeat' (first | exact trivial | exact eqSV_refl _ | (refine eqI ?_) | (refine eqS ?_) | (with_reducible exact rfl) | apply And.intro | exact Nat.zero_lt_one | (with_reducible assumption) | ((show (_ : Int) = _); omega) | rfl)))
      rw [hT, quoted_at s k b (by omega) hc (fun _ => hd)]; dsimp only; rw [cut_at s (k + 1) (by omega), if_pos he, hb1]; rfl
    · have hc : s.getD k 0 = 39 := UInt8.toNat_inj.1 (show (s.getD k 0).toNat = 39 by omega)
      rw [read_err s h500 hr (by rw [hT, quoted_at s k b (by omega) hc (fun h => absurd h (by omega))]; have hb0 : b = [] := ‹_›; rw [hb0]; simp)]; rfl
    · have hc : s.getD k 0 = 39 := UInt8.toNat_inj.1 (show (s.getD k 0).toNat = 39 by omega)
      rw [read_err s h500 hr (by rw [hT, quoted_at s k b (by omega) hc (fun h => absurd h (by omega))]; dsimp only; rw [List.drop_eq_nil_of_le (by omega)]; rfl)]; rfl
    all_goals rw [read_err s h500 hr (by rw [hT, List.drop_eq_nil_of_le (by omega), RfP.quoted_nil])]; rfl
  all_goals
    have h1 : ¬ s = [] → ¬ s.getD 0 0 = 39 := fun h0 e => by
      first | exact absurd h0 ‹_› | (have : (s.getD 0 0).toNat = 39 := congrArg UInt8.toNat e; omega)
    have hT := title_n s h1
    refine loop env_ok rfl (T := {k : Nat // k ≤ s.length ∧ ∀ d ∈ s.take k, d ≠ 33}) (fun t => ⟨[(0, .str s), (2, .ptr 0 0), (3, .int .i64 0), (4, .str []), (5, .str s), (94, .int .i64 (s.length : Nat)), (95, .int .i64 (t.1 : Nat))], [(0, true, .cells 35 rrZ)], 1, 240⟩) (fun t => s.length - t.1) ⟨0, Nat.zero_le _, by simp⟩ 1000 [] [] (fun _ => Nat.zero_le _) (by ((with_reducible show wk _ _); repeat' (first | exact trivial | exact eqSV_refl _ | (refine eqI ?_) | (refine eqS ?_) | (with_reducible exact rfl) | apply And.intro | exact Nat.zero_lt_one | (with_reducible assumption) | ((show (_ : Int) = _); omega) | rfl))) (fun t I2 hI2 => ?_)
    obtain ⟨k, hk, hal⟩ := t
    dsimp only at hk hal ⊢
    repeat' (first | ((with_reducible first | show wpS _ _ _ _ | show putD _ _ _ _ | show putW _ _ _ _ | show splitG _ _ _ | show wpQ _ _ _ _ _ _ | show wpD _ _ _ _ _ _ _); conv => whnf) | ((with_reducible show RetN _ _ _); refine retB fun β => ?_) | ((with_reducible show _ ∧ _); first | (apply And.intro; (· intro h; exfalso; first | omega | (revert h; decide)); intro _) | (apply And.intro; rotate_left; (· intro h; exfalso; first | omega | (revert h; decide)); intro _) | (refine ⟨fun _ => ?_, fun _ => ?_⟩) | (apply And.intro; · kernel_rfl) | (apply And.intro; · (show inK _ _; unfold inK; omega)) | (apply And.intro; · (show (_ : Int) ≤ 9223372036854775807; simp only [List.length_append, List.length_drop, List.length_take, List.length_cons, List.length_nil]; omega))) | ((with_reducible show CallN _ _ _ _ _ _ _ _); first | (refine call env_ok rfl (.bool (RfP.plain (s.take k))) 1000 (by kernel_rfl) rfl (trivial) (fun β w hm => quiet (RPlain_any (s.take k) w (by simp; omega))) ?_)) | ((with_reducible show ∃ _, _); first | (refine ⟨k, rfl, by omega, ?_⟩) | (refine ⟨k + 1, by omega, by omega, ?_⟩)))
    · have hc : s.getD k 0 = 33 := UInt8.toNat_inj.1 (show (s.getD k 0).toNat = 33 by omega)
      have hpl : RfP.plain (s.take k) = false := by simpa using (‹(!RfP.plain (s.take k)) = true› : _)
      rw [read_err s h500 hr (by rw [hT, RfP.cutAt_take 33 s k hal (by omega) hc]; exact hpl)]; rfl
    · have hc : s.getD k 0 = 33 := UInt8.toNat_inj.1 (show (s.getD k 0).toNat = 33 by omega)
      have hpl : RfP.plain (s.take k) = true := by simpa using (‹(!RfP.plain (s.take k)) = false› : _)
      refine hI _ ⟨(s.take k, s.drop (k + 1)), ?_, by simp; omega, by simp; omega⟩ (by ((with_reducible show wk _ _); repeat' (first | exact trivial | exact eqSV_refl _ | (refine eqI ?_) | (refine eqS ?_) | (with_reducible exact rfl) | apply And.intro | exact Nat.zero_lt_one | (with_reducible assumption) | ((show (_ : Int) = _); omega) | rfl)))
      rw [hT, RfP.cutAt_take 33 s k hal (by omega) hc]; dsimp only; rw [hpl]
    · have hc : ¬ s.getD k 0 = 33 := fun e => by have : (s.getD k 0).toNat = 33 := congrArg UInt8.toNat e; omega
      refine hI2 _ ⟨k + 1, by omega, fun d hd => ?_⟩ (by dsimp only; omega) (by ((with_reducible show wk _ _); repeat' (first | exact trivial | exact eqSV_refl _ | (refine eqI ?_) | (refine eqS ?_) | (with_reducible exact rfl) | apply And.intro | exact Nat.zero_lt_one | (with_reducible assumption) | ((show (_ : Int) = _); omega) | rfl)))
      rw [take_next0 s k (by omega)] at hd
      rcases List.mem_append.1 hd with h | h
      · exact hal d h
      · obtain rfl : d = s.getD k 0 := by simpa using h
        exact hc
    · obtain rfl : k = s.length := by omega
      rw [List.take_length] at hal
      refine hI _ ⟨([], s), ?_, by simp, by dsimp only; omega⟩ (by ((with_reducible show wk _ _); repeat' (first | exact trivial | exact eqSV_refl _ | (refine eqI ?_) | (refine eqS ?_) | (with_reducible exact rfl) | apply And.intro | exact Nat.zero_lt_one | (with_reducible assumption) | ((show (_ : Int) = _); omega) | rfl)))
      rw [hT, RfP.cutAt_none 33 s hal]
theorem ReadRef_any (s : List UInt8) (w : World) : Calls Tryz.prog 12 #[.string (bstr s)] w (RefPost w (RfP.parseP s)) := by
  by_cases h : 500 < s.length
  · exact ReadRef_long s w h
  · by_cases h2 : s = RfP.refTxt
    · exact ReadRef_bad s w h2
    · exact ReadRef_rest s w (by omega) h2
end Go.Proofs.YtmodjglbjempkaaGreatDoor
