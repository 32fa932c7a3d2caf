/- Patterns, the program: small letters for capitals. Patterns, the program: a pattern's parts. -/
import Derived.Test.YtlccmanncfbdkaaDoorPGA
import Derived.Test.YtlccmanncfbdkaaDoorPGD
set_option linter.unusedSimpArgs false
set_option linter.unusedVariables false
namespace Go.Proofs.YtlccmanncfbdkaaDoor
open Go.RowKit
open Sym
attribute [local irreducible] Calls Sym.AggEq ExP.nd ExP.dig ExP.upd ExP.writeF ExP.writeE
theorem VaP.low_len (s : List UInt8) : (VaP.low s).length = s.length := by simp [VaP.low]
theorem VaP.lowC_nat (c : UInt8) : (VaP.lowC c).toNat = if 65 ≤ c.toNat ∧ c.toNat ≤ 90 then c.toNat + 32 else c.toNat := by
  unfold VaP.lowC
  have h1 : (65 ≤ c ∧ c ≤ 90) ↔ (65 ≤ c.toNat ∧ c.toNat ≤ 90) := by rw [UInt8.le_iff_toNat_le, UInt8.le_iff_toNat_le]; rfl
  by_cases h : 65 ≤ c.toNat ∧ c.toNat ≤ 90
  · rw [if_pos (h1.2 h), if_pos h, UInt8.toNat_add]
    have : (32 : UInt8).toNat = 32 := rfl
    omega
  · rw [if_neg (fun h' => h (h1.1 h')), if_neg h]
/-- so many letters done -/
def VaP.mixL (s : List UInt8) (i : Nat) : List UInt8 := VaP.low (s.take i) ++ s.drop i
theorem VaP.mixL_len (s : List UInt8) (i : Nat) : (VaP.mixL s i).length = s.length := by
  unfold VaP.mixL; rw [List.length_append, VaP.low_len, List.length_take, List.length_drop]; omega
theorem VaP.mixL_at (s : List UInt8) (i : Nat) (h : i < s.length) : (VaP.mixL s i)[i]? = some (s.getD i 0) := by
  unfold VaP.mixL
  rw [List.getElem?_append_right (by rw [VaP.low_len, List.length_take]; omega), VaP.low_len, List.length_take, Nat.min_eq_left (by omega), Nat.sub_self, List.getElem?_drop]
  simp [List.getD, h]
theorem VaP.mixL_next (s : List UInt8) (i : Nat) (h : i < s.length) : VaP.mixL s (i + 1) = (VaP.mixL s i).set i (VaP.lowC (s.getD i 0)) := by
  unfold VaP.mixL
  have e : s.drop i = s.getD i 0 :: s.drop (i + 1) := by rw [List.drop_eq_getElem_cons h]; simp [List.getD, h]
  rw [e, take_next0 s i h]
  unfold VaP.low
  rw [List.map_append, List.set_append_right _ _ (by simp; omega)]
  have : i - ((s.take i).map VaP.lowC).length = 0 := by simp; omega
  rw [this]
  simp
set_option maxRecDepth 100000 in
set_option maxHeartbeats 4000000 in
theorem vlower_any (s : List UInt8) (w : World) (hs : s.length ≤ 1000000) : Calls Tryd.prog 11 #[.string (bstr s)] w fun e w' => e = .returned (.string (bstr (VaP.low s))) ∧ Below w.heap.size w w' := by
  refine enter env_ok Tryd.func11 rfl Tryd.results11 Tryd.ntmps11 [100007] [] [.str s] (by simp [SV.oks, SV.ok]) (Nat.le_of_ble_eq_true rfl) w _ 1000 ?_
  repeat' (first | ((with_reducible first | show wpS _ _ _ _ | show putD _ _ _ _ | show putW _ _ _ _ | show splitG _ _ _ | show wpQ _ _ _ _ _ _ | show wpD _ _ _ _ _ _ _ | show wpX _ _ _ _ _ _ _ | show expX _ _ _ _ _ _ | show stepX _ _ _ _ | show keepR _ _ _ | show wpY _ _ _ _); conv => whnf) | ((with_reducible show RetN _ _ _); refine retB fun β => ?_) | ((with_reducible show _ ∧ _); first | (apply And.intro; (· intro h; exfalso; first | omega | (revert h; decide)); intro _) | (apply And.intro; rotate_left; (· intro h; exfalso; first | omega | (revert h; decide)); intro _) | (refine ⟨fun _ => ?_, fun _ => ?_⟩) | (apply And.intro; · kernel_rfl) | (apply And.intro; · (show inK _ _; unfold inK; omega)) | (apply And.intro; · (show (_ : Int) ≤ 9223372036854775807; (try simp only [List.length_append, List.length_drop, List.length_take, List.length_cons, List.length_nil]); omega))) | ((with_reducible show AllBe _); refine allBe fun βe => ?_; conv => whnf) | ((with_reducible show bothX _ _); refine bothI ?_ ?_; conv => whnf) | (with_reducible exact trivial) | ((with_reducible show CallN _ _ _ _ _ _ _ _); refine call_of env_ok rfl 1000 ?_) | ((with_reducible show XopN _ _ _ _ _ _); refine xop_of env_ok rfl 1000 ?_) | ((with_reducible show CallX _ _ _ _ _ _); first | fail) | ((with_reducible show OpX _ _ _ _); first | (refine opx_strOwnF s rfl rfl Tryd.underlying9 Tryd.underlying39 Tryd.underlying5 (fun g cap => ?_))) | ((with_reducible show ∃ _ : SV, _); first | (refine ⟨_, ?ok, x_len Tryd.underlying39, ?_⟩; (case ok => exact fun _ _ => trivial))) | ((with_reducible show ∃ _, _); first | fail))
  refine loop env_ok rfl (T := {i : Nat // i ≤ s.length}) (fun t => ⟨[(3, .any (.slice (some ⟨g, 0, none⟩) s.length cap)), (8, .any (.slice (some ⟨g, 0, none⟩) s.length cap)), (9, .int .i64 (s.length : Nat)), (10, .int .i64 (t.1 : Nat))], [(0, true, .blob (OwnF 5 g s.length (bvals (VaP.mixL s t.1))))], 1, 30⟩) (fun t => s.length - t.1) ⟨0, Nat.zero_le _⟩ 1000 [] [] (fun _ => Nat.zero_le _) (by ((with_reducible show wk _ _); repeat' (first | exact trivial | exact eqSV_refl _ | (refine eqI ?_) | (refine eqS ?_) | (with_reducible exact rfl) | apply And.intro | exact Nat.zero_lt_one | exact Nat.le_of_ble_eq_true rfl | (with_reducible assumption) | ((show (_ : Int) = _); (try dsimp only); omega) | ((show eqSV _ _); simp [eqSV, isB, bval, *]; done) | rfl)); all_goals exact fun b x h => h) (fun t I hI => ?_)
  obtain ⟨i, hi⟩ := t
  dsimp only
  by_cases hlt : i < s.length
  · have hat := VaP.mixL_at s i hlt
    have hnx := VaP.mixL_next s i hlt
    have hln := VaP.lowC_nat (s.getD i 0)
    generalize s.getD i 0 = c at *
    have hv : (bvals (VaP.mixL s i))[i]? = some (.int .u8 (c.toNat : Int)) := by simp [bvals, hat]
    have hset : 65 ≤ c.toNat ∧ c.toNat ≤ 90 → (bvals (VaP.mixL s i)).set i (.int .u8 ((c.toNat + 32 : Nat) : Int)) = bvals (VaP.mixL s (i + 1)) := fun h => by
      rw [hnx]
      rw [if_pos h] at hln
      simp [bvals, List.map_set, hln]
    have hkeep : ¬ (65 ≤ c.toNat ∧ c.toNat ≤ 90) → bvals (VaP.mixL s i) = bvals (VaP.mixL s (i + 1)) := fun h => by
      rw [hnx]
      rw [if_neg h] at hln
      have : VaP.lowC c = c := UInt8.toNat_inj.1 hln
      rw [this]
      congr 1
      apply List.ext_getElem?
      intro j
      rw [List.getElem?_set]
      split
      · rename_i hj; subst hj; rw [hat]; simp; rw [VaP.mixL_len]; exact hlt
      · rfl
    have hc := c.toNat_lt
    generalize bvals (VaP.mixL s i) = XS at *
    generalize hYS : bvals (VaP.mixL s (i + 1)) = YS at *
    generalize c.toNat = k at *
    repeat' (first | ((with_reducible first | show wpS _ _ _ _ | show putD _ _ _ _ | show putW _ _ _ _ | show splitG _ _ _ | show wpQ _ _ _ _ _ _ | show wpD _ _ _ _ _ _ _ | show wpX _ _ _ _ _ _ _ | show expX _ _ _ _ _ _ | show stepX _ _ _ _ | show keepR _ _ _ | show wpY _ _ _ _); conv => whnf) | ((with_reducible show RetN _ _ _); refine retB fun β => ?_) | ((with_reducible show _ ∧ _); first | (apply And.intro; (· intro h; exfalso; first | omega | (revert h; decide)); intro _) | (apply And.intro; rotate_left; (· intro h; exfalso; first | omega | (revert h; decide)); intro _) | (refine ⟨fun _ => ?_, fun _ => ?_⟩) | (apply And.intro; · kernel_rfl) | (apply And.intro; · (show inK _ _; unfold inK; omega)) | (apply And.intro; · (show (_ : Int) ≤ 9223372036854775807; (try simp only [List.length_append, List.length_drop, List.length_take, List.length_cons, List.length_nil]); omega))) | ((with_reducible show AllBe _); refine allBe fun βe => ?_; conv => whnf) | ((with_reducible show bothX _ _); refine bothI ?_ ?_; conv => whnf) | (with_reducible exact trivial) | ((with_reducible show CallN _ _ _ _ _ _ _ _); refine call_of env_ok rfl 1000 ?_) | ((with_reducible show XopN _ _ _ _ _ _); refine xop_of env_ok rfl 1000 ?_) | ((with_reducible show CallX _ _ _ _ _ _); first | fail) | ((with_reducible show OpX _ _ _ _); first | (refine opx_storeF env_ok 0 (v := .int .u8 ((k : Int) + 32)) (u := .int .u8 ((k + 32 : Nat) : Int)) rfl rfl rfl rfl (fun β => by simp [SV.den]) rfl rfl (by omega) ?_)) | ((with_reducible show ∃ _ : SV, _); first | (refine ⟨_, ?ok, x_index (j := i) (by omega) Tryd.underlying39 (fun w => Tryd.sizeOf5 w) (by omega), ?_⟩; (case ok => exact fun _ _ => rfl)) | (refine ⟨.int .u8 (k : Int), fun _ _ => trivial, x_loadOF 0 (.int .u8 (k : Int)) (fun w => Tryd.isAgg5 w) rfl (fun β => by rw [Nat.mul_one]; exact hv), ?_⟩)) | ((with_reducible show ∃ _, _); first | fail))
    all_goals first | (exfalso; omega) | (rw [Nat.mul_one, hset (by omega)]; refine hI _ ⟨i + 1, by omega⟩ (by dsimp only; omega) (by ((with_reducible show wk _ _); repeat' (first | exact trivial | exact eqSV_refl _ | (refine eqI ?_) | (refine eqS ?_) | (with_reducible exact rfl) | apply And.intro | exact Nat.zero_lt_one | exact Nat.le_of_ble_eq_true rfl | (with_reducible assumption) | ((show (_ : Int) = _); (try dsimp only); omega) | ((show eqSV _ _); simp [eqSV, isB, bval, *]; done) | rfl)); all_goals exact fun b x h => by dsimp only; rw [hYS]; exact h); done) | (rw [hkeep (by omega)]; refine hI _ ⟨i + 1, by omega⟩ (by dsimp only; omega) (by ((with_reducible show wk _ _); repeat' (first | exact trivial | exact eqSV_refl _ | (refine eqI ?_) | (refine eqS ?_) | (with_reducible exact rfl) | apply And.intro | exact Nat.zero_lt_one | exact Nat.le_of_ble_eq_true rfl | (with_reducible assumption) | ((show (_ : Int) = _); (try dsimp only); omega) | ((show eqSV _ _); simp [eqSV, isB, bval, *]; done) | rfl)); all_goals exact fun b x h => by dsimp only; rw [hYS]; exact h); done) | trace_state
  · have e : VaP.mixL s i = VaP.low s := by
      unfold VaP.mixL
      rw [List.take_of_length_le (by omega), List.drop_eq_nil_of_le (by omega), List.append_nil]
    rw [e]
    repeat' (first | ((with_reducible first | show wpS _ _ _ _ | show putD _ _ _ _ | show putW _ _ _ _ | show splitG _ _ _ | show wpQ _ _ _ _ _ _ | show wpD _ _ _ _ _ _ _ | show wpX _ _ _ _ _ _ _ | show expX _ _ _ _ _ _ | show stepX _ _ _ _ | show keepR _ _ _ | show wpY _ _ _ _); conv => whnf) | ((with_reducible show RetN _ _ _); refine retB fun β => ?_) | ((with_reducible show _ ∧ _); first | (apply And.intro; (· intro h; exfalso; first | omega | (revert h; decide)); intro _) | (apply And.intro; rotate_left; (· intro h; exfalso; first | omega | (revert h; decide)); intro _) | (refine ⟨fun _ => ?_, fun _ => ?_⟩) | (apply And.intro; · kernel_rfl) | (apply And.intro; · (show inK _ _; unfold inK; omega)) | (apply And.intro; · (show (_ : Int) ≤ 9223372036854775807; (try simp only [List.length_append, List.length_drop, List.length_take, List.length_cons, List.length_nil]); omega))) | ((with_reducible show AllBe _); refine allBe fun βe => ?_; conv => whnf) | ((with_reducible show bothX _ _); refine bothI ?_ ?_; conv => whnf) | (with_reducible exact trivial) | ((with_reducible show CallN _ _ _ _ _ _ _ _); refine call_of env_ok rfl 1000 ?_) | ((with_reducible show XopN _ _ _ _ _ _); refine xop_of env_ok rfl 1000 ?_) | ((with_reducible show CallX _ _ _ _ _ _); first | fail) | ((with_reducible show OpX _ _ _ _); first | fail) | ((with_reducible show ∃ _ : SV, _); first | (refine ⟨_, ?ok, x_bytesStrOF 0 (VaP.low s) Tryd.underlying39 Tryd.underlying5 Tryd.underlying9 rfl (VaP.low_len s).symm, ?_⟩; (case ok => exact fun _ _ => trivial))) | ((with_reducible show ∃ _, _); first | fail))
    all_goals first | (exfalso; omega) | rfl | trace_state
end Go.Proofs.YtlccmanncfbdkaaDoor
namespace Go.Proofs.YtlccmanncfbdkaaDoor
open Go.RowKit
open Sym
attribute [local irreducible] Calls Sym.AggEq
def XF (w : World) : Prop := Lib.Utf8Tabs 0 1 w
theorem XF.below {w w' : World} (h : XF w) (hb : Below w.heap.size w w') : XF w' :=
  ⟨fun c hc => (hb.cell (World.block_lt_of_cell? _ _ (h.1 c hc))).trans (h.1 c hc), fun i hi => ⟨(hb.cell (World.block_lt_of_cell? _ _ (h.2 i hi).1)).trans (h.2 i hi).1, (hb.cell (World.block_lt_of_cell? _ _ (h.2 i hi).2)).trans (h.2 i hi).2⟩⟩
theorem decode_any (s : List UInt8) (w : World) (hw : XF w) : Calls Tryd.prog 13 #[.string (bstr s)] w fun e w' => e = .returned (.tuple #[.int .i32 ((VaP.dec s).1 : Nat), .int .i64 ((VaP.dec s).2 : Nat)]) ∧ Below w.heap.size w w' := Tryd.utf8_DecodeRuneInString (bstr s) w hw
namespace FtP
/-- a part as it lies in memory -/
def pvc (c : Int) : List Value := [.int .i32 c, .bool (decide (c = 63)), .bool (decide (c = 42))]
def pv : Pc → List Value
  | .one => pvc 63
  | .many => pvc 42
  | .ch u => [.int .i32 (code u), .bool false, .bool false]
def pvs (l : List Pc) : List Value := l.flatMap pv
theorem pv_len (p : Pc) : (pv p).length = 3 := by cases p <;> rfl
theorem pvs_len (l : List Pc) : (pvs l).length = l.length * 3 := by
  induction l with
  | nil => rfl
  | cons p r ih => unfold pvs at ih ⊢; rw [List.flatMap_cons, List.length_append, pv_len, ih, List.length_cons]; omega
theorem pvs_add (l : List Pc) (p : Pc) : pvs (l ++ [p]) = pvs l ++ pv p := by unfold pvs; simp
theorem pvs_get : ∀ (l : List Pc) (k : Nat) (p : Pc), l[k]? = some p → ∀ j, j < 3 → (pvs l)[k * 3 + j]? = (pv p)[j]?
  | [], k, p, h, j, hj => by simp at h
  | q :: r, 0, p, h, j, hj => by
    have : q = p := by simpa using h
    subst this
    unfold pvs
    rw [List.flatMap_cons, List.getElem?_append_left (by rw [pv_len]; omega)]
    congr 1; omega
  | q :: r, k + 1, p, h, j, hj => by
    have := pvs_get r k p (by simpa using h) j hj
    unfold pvs at this ⊢
    rw [List.flatMap_cons, List.getElem?_append_right (by rw [pv_len]; omega), pv_len, ← this]
    congr 1; omega
theorem isCh63 : isCh [63] := isCh_one (by decide)
theorem isCh42 : isCh [42] := isCh_one (by decide)
theorem isCh126 : isCh [126] := isCh_one (by decide)
theorem code63 : code [63] = 63 := code_one (by decide)
theorem code42 : code [42] = 42 := code_one (by decide)
theorem code126 : code [126] = 126 := code_one (by decide)
theorem pv1 {u : Str} (h : isCh u) : pv (pc1 u) = pvc (code u) := by
  unfold pc1
  have e1 := code_iff h isCh63
  have e2 := code_iff h isCh42
  rw [code63] at e1
  rw [code42] at e2
  by_cases h1 : u = [63]
  · rw [if_pos h1, e1.2 h1]; rfl
  · by_cases h2 : u = [42]
    · rw [if_neg h1, if_pos h2, e2.2 h2]; rfl
    · rw [if_neg h1, if_neg h2]
      unfold pv pvc
      rw [decide_eq_false (fun h => h1 (e1.1 h)), decide_eq_false (fun h => h2 (e2.1 h))]
theorem pcs_plain {u : Str} {r : List Str} (h : u = [126] → ∀ v, r.head? = some v → esc v = false) : pcs (u :: r) = pc1 u :: pcs r := by
  cases r with
  | nil => rfl
  | cons v r =>
    conv => lhs; unfold pcs
    rw [if_neg (fun e => by have := h e.1 v rfl; rw [e.2] at this; cases this)]
theorem pcs_esc {v : Str} {r : List Str} (h : esc v = true) : pcs ([126] :: v :: r) = .ch v :: pcs r := by
  conv => lhs; unfold pcs
  rw [if_pos ⟨rfl, h⟩]
theorem head_ascii {s : Str} {b : UInt8} (hb : b.toNat < 128) (h : (chars s).head? = some [b]) : ∃ r, s = b :: r := by
  cases s with
  | nil => cases h
  | cons c r =>
    rw [chars_step (by simp)] at h
    simp only [List.head?_cons, Option.some.injEq] at h
    have hd := VaP.dec_len (s := c :: r) (by simp)
    obtain ⟨n, hn⟩ : ∃ n, (VaP.dec (c :: r)).2 = n + 1 := ⟨(VaP.dec (c :: r)).2 - 1, by omega⟩
    rw [hn] at h
    simp only [List.take_succ_cons, List.cons.injEq] at h
    exact ⟨r, by rw [h.1]⟩
end FtP
structure PcT where
  st : Bool
  rem : List UInt8
  n : Nat
  out : List FtP.Pc
  g : Nat
  cap : Nat
def PcA (s : List UInt8) (t : PcT) : Prop := t.n = t.out.length ∧ t.n + t.rem.length ≤ s.length ∧ FtP.pcs (FtP.chars s) = t.out ++ FtP.pcs (FtP.chars t.rem) ∧ (t.st = false → t.out = [])
abbrev pcJ (t : PcT) : St := match t.st with
  | false => ⟨[(3, .any (.slice none 0 0)), (4, .str t.rem)], [], 0, 68⟩
  | true => ⟨[(3, .any (.slice (some ⟨t.g, 0, none⟩) t.n t.cap)), (4, .str t.rem)], [(2, true, .blob (OwnS 35 3 t.g t.n t.cap (FtP.pvs t.out)))], 3, 68⟩
theorem pcInfo : (Tryd.prog.info? 35).map (fun i => (i.zero, i.size, i.bytes)) = some (some (.agg #[.int .i32 0, .bool false, .bool false]), 3, 8) := by kernel_rfl
/-- parts, new, or none -/
def PcOut (l : List FtP.Pc) (w : World) (e : Ending) (w' : World) : Prop := Below w.heap.size w w' ∧ ∃ t : Option Addr × Nat, e = .returned (.slice t.1 l.length t.2) ∧ SlAt t.1 (FtP.pvs l) w' ∧ FreshX t.1 (FtP.pvs l) w
set_option maxRecDepth 100000 in
set_option maxHeartbeats 4000000 in
theorem pieces_any (s : List UInt8) (w : World) (hs : s.length ≤ 1000) (hw : XF w) : Calls Tryd.prog 7 #[.string (bstr s)] w (PcOut (FtP.pcs (FtP.chars (VaP.low s))) w) := by
  obtain ⟨i0, hi, hz0, hz1, hz2⟩ := info_parts pcInfo
  have hu := Tryd.underlying24
  have hsz := fun w => Tryd.sizeOf35 w
  have hzv := fun w => Tryd.zeroValue35 w
  have L0 := fun w => vlower_any s w (by omega)
  have D := fun (t : List UInt8) (w' : World) (h : BW w w') => decode_any t w' (hw.below h)
  have hl := VaP.low_len s
  generalize VaP.low s = s' at *
  have hl' : s'.length ≤ 1000 := by omega
  refine yE Tryd.func7 rfl Tryd.results7 Tryd.ntmps7 [] [] [.str s] w ?_
  repeat' (first | refine yX ?_ | (apply And.intro <;> intro _) | apply bothI | refine retB fun β => ?_ | intro βe | refine yK (.str s') (fun β w hm => L0 w) ?_ | exact trivial)
  refine yZ (T := {t : PcT // PcA s' t}) (fun t => pcJ t.1) (fun t => t.1.rem.length) ⟨⟨false, s', 0, [], 0, 0⟩, rfl, by dsimp only; omega, rfl, fun _ => rfl⟩ [] [] (fun t I hI => ?_)
  obtain ⟨⟨st, rem, n, out, g, cap⟩, q1, q2, q3, q4⟩ := t
  dsimp only at q1 q2 q3 q4 ⊢
  by_cases h0 : rem = []
  · subst h0
    have q3 : FtP.pcs (FtP.chars s') = out := q3.trans (by rw [FtP.chars_nil]; exact List.append_nil out)
    rw [q3]
    cases st
    · obtain rfl := q4 rfl
      dsimp only [pcJ]
      repeat' (first | refine yX ?_ | (apply And.intro <;> intro _) | apply bothI | refine retB fun β => ?_ | intro βe | fail | exact trivial)
      all_goals first | (exfalso; simp_all; done) | exact ret fun β w' hm => ⟨hm.below, (none, 0), rfl, sl_nil _ _, fun h => absurd rfl h⟩
    · dsimp only [pcJ]
      repeat' (first | refine yX ?_ | (apply And.intro <;> intro _) | apply bothI | refine retB fun β => ?_ | intro βe | fail | exact trivial)
      all_goals first | (exfalso; simp_all; done) | skip
      refine ret fun β w' hm => ?_
      obtain ⟨r1, -, -, r4⟩ := hm.row 2 _ _ rfl
      exact ⟨hm.below, (some ⟨g, 0, none⟩, cap), by rw [← q1]; rfl, r1.2.slAt r1.1, fun _ ad e => by cases e; rw [← r1.2.1]; exact r4 rfl⟩
  · have hst := FtP.chars_step h0
    have hd := VaP.dec_len h0
    have hch := FtP.isCh_take h0
    have hcode := FtP.code_take h0
    have hb := FtP.bad_high h0
    have D1 := D rem
    have hcd : FtP.code rem = if VaP.dec rem = (65533, 1) then -(VaP.bt rem 0 : Int) else ((VaP.dec rem).1 : Int) := rfl
    obtain ⟨c, k, hck⟩ : ∃ c k, VaP.dec rem = (c, k) := ⟨_, _, rfl⟩
    rw [hck] at hst hd hch hcode hb D1 hcd
    dsimp only at hst hd hch hcode D1 hcd
    have hbt : VaP.bt rem 0 = (rem.getD 0 0).toNat := rfl
    have h63 := FtP.code_iff hch FtP.isCh126
    rw [FtP.code126, hcode] at h63
    have hpv := FtP.pv1 hch
    rw [hcode] at hpv
    by_cases hbad : c = 65533 ∧ k = 1
    · obtain ⟨rfl, rfl⟩ := hbad
      rw [if_pos rfl] at hcd
      have hb := hb rfl
      rw [hbt] at hcd hb
      have h256 := (rem.getD 0 0).toNat_lt
      have hcd : FtP.code rem = 0 - ((rem.getD 0 0).toNat : Int) := by omega
      have hp := FtP.pcs_plain (u := rem.take 1) (r := FtP.chars (rem.drop 1)) (fun e => by have := h63.2 e; omega)
      rw [← hst] at hp
      generalize FtP.pc1 (rem.take 1) = p at *
      rw [hcd] at hpv
      have hrow : ∀ l, FtP.pvs (l ++ [p]) = FtP.pvs l ++ FtP.pvc (0 - ((rem.getD 0 0).toNat : Int)) := fun l => by rw [FtP.pvs_add, hpv]
      have hlen : (rem.drop 1).length = rem.length - 1 := List.length_drop
      have hnext : FtP.pcs (FtP.chars s') = (out ++ [p]) ++ FtP.pcs (FtP.chars (rem.drop 1)) := by rw [q3, hp]; simp
      cases st
      · obtain rfl := q4 rfl
        dsimp only [pcJ]
        repeat' (first | refine yX ?_ | (apply And.intro <;> intro _) | apply bothI | refine retB fun β => ?_ | intro βe | (refine ⟨0, rfl, by omega, ?_⟩) | (refine ⟨1, rfl, by omega, ?_⟩) | refine yK (.tup [.int .i32 (65533 : Nat), .int .i64 (1 : Nat)]) (fun β w hm => D1 w hm.below) ?_ | (refine opx_build1 (sz := 3) rfl rfl rfl (xs := FtP.pvc (0 - ((rem.getD 0 0).toNat : Int))) (fun β => rfl) rfl (by omega) (by omega) hu hsz hzv (fun g1 => ?_)) | (refine opx_append0 (sz := 3) 1 rfl hu hi hz0 hz1 rfl (by omega) rfl rfl rfl (by unfold maxLen; omega) (by rw [hz2]; omega) (by simp [Value.oneCell', FtP.pvc]) (by omega) (fun g2 cap2 => ?_)) | exact trivial)
        all_goals first | (exfalso; simp_all; done) | (refine hI _ ⟨⟨true, rem.drop 1, 1, [p], g2, cap2⟩, rfl, by dsimp only; omega, hnext, fun h => by cases h⟩ (by dsimp only; omega) (by ((with_reducible show wk _ _); repeat' (first | exact trivial | exact eqSV_refl _ | refine eqI ?_ | refine eqS ?_ | apply And.intro | exact yV | fail)); all_goals exact fun b x h => by rw [show FtP.pvs [p] = _ from hrow []]; exact h); done) | trace_state
      · dsimp only [pcJ]
        repeat' (first | refine yX ?_ | (apply And.intro <;> intro _) | apply bothI | refine retB fun β => ?_ | intro βe | (refine ⟨0, rfl, by omega, ?_⟩) | (refine ⟨1, rfl, by omega, ?_⟩) | refine yK (.tup [.int .i32 (65533 : Nat), .int .i64 (1 : Nat)]) (fun β w hm => D1 w hm.below) ?_ | (refine opx_build1 (sz := 3) rfl rfl rfl (xs := FtP.pvc (0 - ((rem.getD 0 0).toNat : Int))) (fun β => rfl) rfl (by omega) (by omega) hu hsz hzv (fun g1 => ?_)) | (refine opx_append (sz := 3) 2 4 rfl hu hi hz0 hz1 rfl (by omega) rfl rfl rfl rfl (by unfold maxLen; omega) (by rw [hz2]; omega) (by simp [Value.oneCell', FtP.pvc]) (by kernel_rfl) (Nat.zero_le _) (fun g2 cap2 => ?_)) | exact trivial)
        all_goals first | (exfalso; simp_all; done) | (refine hI _ ⟨⟨true, rem.drop 1, n + 1, out ++ [p], g2, cap2⟩, by dsimp only; rw [q1]; simp, by dsimp only; omega, hnext, fun h => by cases h⟩ (by dsimp only; omega) (by ((with_reducible show wk _ _); repeat' (first | exact trivial | exact eqSV_refl _ | refine eqI ?_ | refine eqS ?_ | apply And.intro | exact yV | fail)); all_goals exact fun b x h => by rw [hrow out]; exact h); done) | trace_state
    · have hcd : FtP.code rem = (c : Int) := by rw [hcd, if_neg (fun e => hbad (by cases e; exact ⟨rfl, rfl⟩))]
      rw [hcd] at hpv h63
      have hc32 := VaP.dec_lt h0
      rw [hck] at hc32
      dsimp only at hc32
      have h256 := ((rem.drop k).getD 0 0).toNat_lt
      have hlen : (rem.drop k).length = rem.length - k := List.length_drop
      by_cases hE : c = 126 ∧ (rem.drop k).length ≠ 0 ∧ (((rem.drop k).getD 0 0).toNat = 63 ∨ ((rem.drop k).getD 0 0).toNat = 42 ∨ ((rem.drop k).getD 0 0).toNat = 126)
      · obtain ⟨hc126, hne, hx⟩ := hE
        have hp : FtP.pcs (FtP.chars rem) = .ch [(rem.drop k).getD 0 0] :: FtP.pcs (FtP.chars ((rem.drop k).drop 1)) := by
          rw [hst, h63.1 (by omega)]
          obtain ⟨x, r, hr⟩ : ∃ x r, rem.drop k = x :: r := by
            cases hq : rem.drop k with
            | nil => rw [hq] at hne; exact absurd rfl hne
            | cons x r => exact ⟨x, r, rfl⟩
          rw [hr] at hx ⊢
          have hx : x.toNat = 63 ∨ x.toNat = 42 ∨ x.toNat = 126 := hx
          rw [FtP.chars_ascii (by omega)]
          refine FtP.pcs_esc ?_
          have e : x = 63 ∨ x = 42 ∨ x = 126 := hx.imp (fun h => UInt8.toNat_inj.1 h) (Or.imp (fun h => UInt8.toNat_inj.1 h) (fun h => UInt8.toNat_inj.1 h))
          rcases e with rfl | rfl | rfl <;> rfl
        have hrow : ∀ l, FtP.pvs (l ++ [.ch [(rem.drop k).getD 0 0]]) = FtP.pvs l ++ [.int .i32 (((rem.drop k).getD 0 0).toNat : Int), .bool false, .bool false] := fun l => by
          rw [FtP.pvs_add]
          show _ ++ [Value.int .i32 (FtP.code [(rem.drop k).getD 0 0]), .bool false, .bool false] = _
          rw [FtP.code_one (by omega)]
        have hnext : FtP.pcs (FtP.chars s') = (out ++ [.ch [(rem.drop k).getD 0 0]]) ++ FtP.pcs (FtP.chars ((rem.drop k).drop 1)) := by rw [q3, hp]; simp
        have hlen2 : ((rem.drop k).drop 1).length = (rem.drop k).length - 1 := List.length_drop
        have hne2 : ¬ rem.drop k = [] := fun e => hne (by rw [e]; rfl)
        generalize hpe : FtP.Pc.ch [(rem.drop k).getD 0 0] = p at *
        cases st
        · obtain rfl := q4 rfl
          dsimp only [pcJ]
          repeat' (first | refine yX ?_ | (apply And.intro <;> intro _) | apply bothI | refine retB fun β => ?_ | intro βe | (refine ⟨k, rfl, by omega, ?_⟩) | (refine ⟨0, rfl, by omega, ?_⟩) | (refine ⟨1, rfl, by omega, ?_⟩) | refine yK (.tup [.int .i32 (c : Nat), .int .i64 (k : Nat)]) (fun β w hm => D1 w hm.below) ?_ | (refine opx_build1 (sz := 3) rfl rfl rfl (xs := [.int .i32 (((rem.drop k).getD 0 0).toNat : Int), .bool false, .bool false]) (fun β => rfl) rfl (by omega) (by omega) hu hsz hzv (fun g1 => ?_)) | (refine opx_append0 (sz := 3) 1 rfl hu hi hz0 hz1 rfl (by omega) rfl rfl rfl (by unfold maxLen; omega) (by rw [hz2]; omega) (by simp [Value.oneCell']) (by omega) (fun g2 cap2 => ?_)) | exact trivial)
          all_goals first | (exfalso; simp_all; done) | (exfalso; omega) | (refine hI _ ⟨⟨true, (rem.drop k).drop 1, 1, [p], g2, cap2⟩, rfl, by dsimp only; omega, hnext, fun h => by cases h⟩ (by dsimp only; omega) (by ((with_reducible show wk _ _); repeat' (first | exact trivial | exact eqSV_refl _ | refine eqI ?_ | refine eqS ?_ | apply And.intro | exact yV | fail)); all_goals exact fun b x h => by rw [show FtP.pvs [p] = _ from hrow []]; exact h); done) | trace_state
        · dsimp only [pcJ]
          repeat' (first | refine yX ?_ | (apply And.intro <;> intro _) | apply bothI | refine retB fun β => ?_ | intro βe | (refine ⟨k, rfl, by omega, ?_⟩) | (refine ⟨0, rfl, by omega, ?_⟩) | (refine ⟨1, rfl, by omega, ?_⟩) | refine yK (.tup [.int .i32 (c : Nat), .int .i64 (k : Nat)]) (fun β w hm => D1 w hm.below) ?_ | (refine opx_build1 (sz := 3) rfl rfl rfl (xs := [.int .i32 (((rem.drop k).getD 0 0).toNat : Int), .bool false, .bool false]) (fun β => rfl) rfl (by omega) (by omega) hu hsz hzv (fun g1 => ?_)) | (refine opx_append (sz := 3) 2 4 rfl hu hi hz0 hz1 rfl (by omega) rfl rfl rfl rfl (by unfold maxLen; omega) (by rw [hz2]; omega) (by simp [Value.oneCell']) (by kernel_rfl) (Nat.zero_le _) (fun g2 cap2 => ?_)) | exact trivial)
          all_goals first | (exfalso; simp_all; done) | (exfalso; omega) | (refine hI _ ⟨⟨true, (rem.drop k).drop 1, n + 1, out ++ [p], g2, cap2⟩, by dsimp only; rw [q1]; simp, by dsimp only; omega, hnext, fun h => by cases h⟩ (by dsimp only; omega) (by ((with_reducible show wk _ _); repeat' (first | exact trivial | exact eqSV_refl _ | refine eqI ?_ | refine eqS ?_ | apply And.intro | exact yV | fail)); all_goals exact fun b x h => by rw [hrow out]; exact h); done) | trace_state
      · have hp := FtP.pcs_plain (u := rem.take k) (r := FtP.chars (rem.drop k)) (fun e v hv => by
          have hc126 : (c : Int) = 126 := h63.2 e
          unfold FtP.esc
          rw [Bool.or_eq_false_iff, Bool.or_eq_false_iff]
          refine ⟨⟨decide_eq_false fun e => ?_, decide_eq_false fun e => ?_⟩, decide_eq_false fun e => ?_⟩ <;>
            (subst e; obtain ⟨r, hr⟩ := FtP.head_ascii (by decide) hv; exact hE ⟨by omega, by rw [hr]; simp, by rw [hr]; simp [List.getD]⟩))
        rw [← hst] at hp
        generalize FtP.pc1 (rem.take k) = p at *
        have hrow : ∀ l, FtP.pvs (l ++ [p]) = FtP.pvs l ++ FtP.pvc (c : Int) := fun l => by rw [FtP.pvs_add, hpv]
        have hnext : FtP.pcs (FtP.chars s') = (out ++ [p]) ++ FtP.pcs (FtP.chars (rem.drop k)) := by rw [q3, hp]; simp
        have hE1 : c = 126 → ¬ rem.drop k = [] → ((rem.drop k).getD 0 0).toNat ≠ 63 ∧ ((rem.drop k).getD 0 0).toNat ≠ 42 ∧ ((rem.drop k).getD 0 0).toNat ≠ 126 := fun h1 h2 => by
          have h3 : (rem.drop k).length ≠ 0 := fun e => h2 (List.eq_nil_of_length_eq_zero e)
          omega
        cases st
        · obtain rfl := q4 rfl
          dsimp only [pcJ]
          repeat' (first | refine yX ?_ | (apply And.intro <;> intro _) | apply bothI | refine retB fun β => ?_ | intro βe | (refine ⟨k, rfl, by omega, ?_⟩) | (refine ⟨0, rfl, List.length_pos_iff.2 (by assumption), ?_⟩) | ((with_reducible show ∃ _, _); exfalso; have := hE1 (by omega) (by assumption); omega) | refine yK (.tup [.int .i32 (c : Nat), .int .i64 (k : Nat)]) (fun β w hm => D1 w hm.below) ?_ | (refine opx_build1 (sz := 3) rfl rfl rfl (xs := FtP.pvc (c : Int)) (fun β => rfl) rfl (by omega) (by omega) hu hsz hzv (fun g1 => ?_)) | (refine opx_append0 (sz := 3) 1 rfl hu hi hz0 hz1 rfl (by omega) rfl rfl rfl (by unfold maxLen; omega) (by rw [hz2]; omega) (by simp [Value.oneCell', FtP.pvc]) (by omega) (fun g2 cap2 => ?_)) | exact trivial)
          all_goals first | (exfalso; simp_all; done) | (refine hI _ ⟨⟨true, rem.drop k, 1, [p], g2, cap2⟩, rfl, by dsimp only; omega, hnext, fun h => by cases h⟩ (by dsimp only; omega) (by ((with_reducible show wk _ _); repeat' (first | exact trivial | exact eqSV_refl _ | refine eqI ?_ | refine eqS ?_ | apply And.intro | exact yV | fail)); all_goals exact fun b x h => by rw [show FtP.pvs [p] = _ from hrow []]; exact h); done) | trace_state
        · dsimp only [pcJ]
          repeat' (first | refine yX ?_ | (apply And.intro <;> intro _) | apply bothI | refine retB fun β => ?_ | intro βe | (refine ⟨k, rfl, by omega, ?_⟩) | (refine ⟨0, rfl, List.length_pos_iff.2 (by assumption), ?_⟩) | ((with_reducible show ∃ _, _); exfalso; have := hE1 (by omega) (by assumption); omega) | refine yK (.tup [.int .i32 (c : Nat), .int .i64 (k : Nat)]) (fun β w hm => D1 w hm.below) ?_ | (refine opx_build1 (sz := 3) rfl rfl rfl (xs := FtP.pvc (c : Int)) (fun β => rfl) rfl (by omega) (by omega) hu hsz hzv (fun g1 => ?_)) | (refine opx_append (sz := 3) 2 4 rfl hu hi hz0 hz1 rfl (by omega) rfl rfl rfl rfl (by unfold maxLen; omega) (by rw [hz2]; omega) (by simp [Value.oneCell', FtP.pvc]) (by kernel_rfl) (Nat.zero_le _) (fun g2 cap2 => ?_)) | exact trivial)
          all_goals first | (exfalso; simp_all; done) | (refine hI _ ⟨⟨true, rem.drop k, n + 1, out ++ [p], g2, cap2⟩, by dsimp only; rw [q1]; simp, by dsimp only; omega, hnext, fun h => by cases h⟩ (by dsimp only; omega) (by ((with_reducible show wk _ _); repeat' (first | exact trivial | exact eqSV_refl _ | refine eqI ?_ | refine eqS ?_ | apply And.intro | exact yV | fail)); all_goals exact fun b x h => by rw [hrow out]; exact h); done) | trace_state
end Go.Proofs.YtlccmanncfbdkaaDoor
