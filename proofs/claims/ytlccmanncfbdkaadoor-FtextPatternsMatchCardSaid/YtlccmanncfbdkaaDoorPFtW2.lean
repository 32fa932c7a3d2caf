/- Patterns, the program: a pattern held against a text, by sets of places. -/
import Derived.Test.YtlccmanncfbdkaaDoorPGE
import Derived.Test.YtlccmanncfbdkaaDoorPSz28
set_option linter.unusedSimpArgs false
set_option linter.unusedVariables false
namespace Go.Proofs.YtlccmanncfbdkaaDoor
open Go.RowKit
open Sym
attribute [local irreducible] Calls Sym.AggEq
namespace FtP
theorem manyAt_get {l : List Pc} {k : Nat} {p : Pc} (h : l[k]? = some p) : manyAt l k = p.isMany := by unfold manyAt; rw [h]
theorem fitsAt_get {l : List Pc} {k : Nat} {p : Pc} {c : Str} (h : l[k]? = some p) : fitsAt l k c = p.fits c := by unfold fitsAt; rw [h]
def p0 : Pc → Int
  | .one => 63
  | .many => 42
  | .ch u => code u
def p1 : Pc → Bool
  | .one => true
  | _ => false
theorem pv_eq (p : Pc) : pv p = [.int .i32 (p0 p), .bool (p1 p), .bool p.isMany] := by cases p <;> rfl
theorem p_fits {p : Pc} {c : Str} (hc : isCh c) (hp : ∀ u, p = .ch u → isCh u) (hm : p.isMany = false) : p.fits c = (p1 p || decide (p0 p = code c)) := by
  cases p with
  | one => rfl
  | many => cases hm
  | ch u =>
    show decide (u = c) = (false || decide (code u = code c))
    rw [Bool.false_or, decide_eq_decide]
    exact (code_iff (hp u rfl) hc).symm
def stepB (l : List Pc) (c : Str) (k j : Nat) : Bool := (decide (j = k) && manyAt l k) || (decide (j = k + 1) && fitsAt l k c)
end FtP
theorem addr_add (a : Addr) (x y : Nat) : (a.add x).add y = a.add (x + y) := by
  unfold Addr.add
  by_cases hx : x = 0 <;> by_cases hy : y = 0 <;> simp [hx, hy, Nat.add_assoc]
theorem FtP.clS_succ (l : List FtP.Pc) (C : Nat → Bool) (n j : Nat) : FtP.clS l C (n + 1) j = if FtP.clS l C n n && FtP.manyAt l n then decide (j = n + 1) || FtP.clS l C n j else FtP.clS l C n j := rfl
theorem FtP.can_le {l : List FtP.Pc} {cs : List FtP.Str} {i k : Nat} {p : Prop} (h : FtP.can l cs i k = true) (f : k ≤ l.length → p) : p := f (by
  rcases Nat.lt_or_ge l.length k with h1 | h1
  · rw [FtP.can_far h1] at h; cases h
  · exact h1)
theorem FtP.get_one {l : List FtP.Pc} {k : Nat} (h : k < l.length) : l[k]? = some (l.getD k .one) := by simp [List.getD, h]
theorem FtP.or_yes {a : Bool} {p : Prop} [Decidable p] (h : a = true) : (a || decide p) = true := by rw [h]; rfl
theorem FtP.or_yes2 {a : Bool} {p : Prop} [Decidable p] (h : p) : (a || decide p) = true := by rw [decide_eq_true h]; simp
theorem FtP.or_no {a : Bool} {p : Prop} [Decidable p] (h : a = false) (h2 : ¬ p) : (a || decide p) = false := by rw [h, decide_eq_false h2]; rfl
theorem FtP.stepB_ge {l : List FtP.Pc} {c : FtP.Str} {k j : Nat} (h : l.length ≤ k) : FtP.stepB l c k j = false := by
  unfold FtP.stepB; rw [FtP.manyAt_ge h, FtP.fitsAt_ge h]; simp
theorem FtP.stepB_many {l : List FtP.Pc} {c : FtP.Str} {k j : Nat} (h : k < l.length) (hm : (l.getD k .one).isMany = true) : FtP.stepB l c k j = decide (j = k) := by
  have h1 : FtP.manyAt l k = true := by rw [FtP.manyAt_get (FtP.get_one h)]; exact hm
  unfold FtP.stepB; rw [h1, FtP.fits_many h1]; simp
theorem FtP.stepB_ch {l : List FtP.Pc} {c : FtP.Str} (hc : FtP.isCh c) (hch : ∀ p ∈ l, ∀ u, p = .ch u → FtP.isCh u) (k : Nat) (h : k < l.length) (hm : (l.getD k .one).isMany = false) (j : Nat) : FtP.stepB l c k j = (decide (j = k + 1) && (FtP.p1 (l.getD k .one) || decide (FtP.p0 (l.getD k .one) = FtP.code c))) := by
  have h1 : FtP.manyAt l k = false := by rw [FtP.manyAt_get (FtP.get_one h)]; exact hm
  unfold FtP.stepB
  rw [h1, FtP.fitsAt_get (FtP.get_one h), FtP.p_fits hc (hch _ (List.mem_of_getElem? (FtP.get_one h))) hm]
  simp
open FtP in
/-- what the places that have come lead to -/
def PA (es : Array MapEntry) (l : List Pc) (c : Str) (seen : Array Nat) (A : Nat → Bool) : Prop :=
  ∀ j, A j = true ↔ ∃ e ∈ es.toList, seen.contains e.born = true ∧ ∃ k : Nat, e.key = .int .i64 k ∧ stepB l c k j = true
open FtP in
theorem PA.nil {es : Array MapEntry} {l : List Pc} {c : Str} : PA es l c #[] (fun _ => false) := fun j => ⟨(fun h => by cases h), (fun ⟨e, _, h, _⟩ => by simp at h)⟩
theorem key_inj {a b : Nat} (h : Value.int .i64 (a : Int) = .int .i64 (b : Int)) : a = b := by
  have : (a : Int) = b := by simpa using h
  omega
theorem born_inj {l : List MapEntry} (hn : (l.map (·.born)).Nodup) {e e' : MapEntry} (he : e ∈ l) (he' : e' ∈ l) (h : e.born = e'.born) : e = e' := by
  induction l with
  | nil => cases he
  | cons x r ih =>
    simp only [List.map_cons, List.nodup_cons] at hn
    rcases List.mem_cons.1 he with rfl | h1
    · rcases List.mem_cons.1 he' with rfl | h2
      · rfl
      · exact absurd (h ▸ List.mem_map.2 ⟨e', h2, rfl⟩) hn.1
    · rcases List.mem_cons.1 he' with rfl | h2
      · exact absurd (h ▸ List.mem_map.2 ⟨e, h1, rfl⟩) hn.1
      · exact ih hn.2 h1 h2
open FtP in
theorem PA.push {es : Array MapEntry} {l : List Pc} {c : Str} {seen : Array Nat} {A A' : Nat → Bool} (h : PA es l c seen A) (hn : (es.toList.map (·.born)).Nodup) {e : MapEntry} {k : Nat} (he : e ∈ es.toList) (hk : e.key = .int .i64 k) (hA : ∀ j, A' j = (stepB l c k j || A j)) : PA es l c (seen.push e.born) A' := fun j => by
  rw [hA, Bool.or_eq_true, h j]
  constructor
  · rintro (h1 | ⟨e', h1, h2, h3⟩)
    · exact ⟨e, he, by simp, k, hk, h1⟩
    · exact ⟨e', h1, by simp at h2 ⊢; exact .inl h2, h3⟩
  · rintro ⟨e', h1, h2, k', h3, h4⟩
    by_cases hs : seen.contains e'.born = true
    · exact .inr ⟨e', h1, hs, k', h3, h4⟩
    · have hb : e'.born = e.born := by simp at h2 hs; exact h2.resolve_left hs
      obtain rfl := born_inj hn h1 he hb
      rw [hk] at h3
      obtain rfl := key_inj h3
      exact .inl h4
open FtP in
theorem PA.all {es : Array MapEntry} {clock : Nat} {C : Nat → Bool} {l : List Pc} {c : Str} {seen : Array Nat} {A : Nat → Bool} (h : PA es l c seen A) (hM : MI es clock C) (hs : ∀ x ∈ es.toList, seen.contains x.born = true) : A = nxt l C c := by
  funext j
  rw [Bool.eq_iff_iff, h j]
  have hn : nxt l C c j = true ↔ ∃ k, C k = true ∧ stepB l c k j = true := by
    unfold nxt stepB
    cases j with
    | zero =>
      simp only [Bool.or_false, Bool.and_eq_true, Bool.or_eq_true, decide_eq_true_eq]
      constructor
      · rintro ⟨h1, h2⟩; exact ⟨0, h1, .inl ⟨rfl, h2⟩⟩
      · rintro ⟨k, h1, ⟨rfl, h2⟩ | ⟨h2, _⟩⟩
        · exact ⟨h1, h2⟩
        · omega
    | succ q =>
      simp only [Bool.and_eq_true, Bool.or_eq_true, decide_eq_true_eq]
      constructor
      · rintro (⟨h1, h2⟩ | ⟨h1, h2⟩)
        · exact ⟨q + 1, h1, .inl ⟨rfl, h2⟩⟩
        · exact ⟨q, h1, .inr ⟨rfl, h2⟩⟩
      · rintro ⟨k, h1, ⟨rfl, h2⟩ | ⟨h2, h3⟩⟩
        · exact .inl ⟨h1, h2⟩
        · obtain rfl : q = k := by omega
          exact .inr ⟨h1, h3⟩
  rw [hn]
  constructor
  · rintro ⟨e, h1, _, k, h2, h3⟩
    obtain ⟨k', e1, _, e2⟩ := hM.ent e h1
    rw [h2] at e1
    obtain rfl := key_inj e1
    exact ⟨k, e2, h3⟩
  · rintro ⟨k, h1, h2⟩
    obtain ⟨e, he, hk⟩ := hM.all k h1
    exact ⟨e, he, hs e he, k, hk, h2⟩
set_option maxRecDepth 100000 in
set_option maxHeartbeats 4000000 in
theorem run_any (a : Option Addr) (cap : Nat) (l : List FtP.Pc) (s : List UInt8) (w : World) (hl : l.length ≤ 1000) (hs : s.length ≤ 1000) (hch : ∀ p ∈ l, ∀ u, p = .ch u → FtP.isCh u) (hA : SlAt a (FtP.pvs l) w) (hw : XF w) :
    Calls Tryd.prog 6 #[.slice a l.length cap, .string (bstr s), .bool true] w fun e w' => e = .returned (.bool (FtP.matchP l (FtP.chars (VaP.low s)))) ∧ Below w.heap.size w w' := by
  have hu := Tryd.underlying24
  have hsz := fun w => Tryd.sizeOf35 w
  have hsome : 0 < l.length → ∃ ad, a = some ad := fun h => SlAt.some hA (fun e => by have := congrArg List.length e; rw [FtP.pvs_len] at this; simp only [List.length_nil] at this; omega)
  have hread : ∀ ad, a = some ad → ∀ k p, l[k]? = some p → ∀ w', Below w.heap.size w w' → w'.cell? ((ad.add (k * 3)).add 0) = some (.int .i32 (FtP.p0 p)) ∧ w'.cell? ((ad.add (k * 3)).add 1) = some (.bool (FtP.p1 p)) ∧ w'.cell? ((ad.add (k * 3)).add 2) = some (.bool p.isMany) := fun ad e k p hp w' hb => by
    subst e
    have hj := fun j hj => FtP.pvs_get l k p hp j hj
    rw [FtP.pv_eq] at hj
    rw [addr_add, addr_add, addr_add]
    exact ⟨sl_read hA (i := k * 3) (hj 0 (by omega)) w' hb, sl_read hA (i := k * 3 + 1) (hj 1 (by omega)) w' hb, sl_read hA (i := k * 3 + 2) (hj 2 (by omega)) w' hb⟩
  have L0 := fun w => vlower_any s w (by omega)
  have D := fun (t : List UInt8) (w' : World) (h : BW w w') => decode_any t w' (hw.below h)
  have hlen := VaP.low_len s
  generalize VaP.low s = s' at *
  have CF1 := Tryd.func12
  have CF2 := Tryd.results12
  have CF3 := Tryd.ntmps12
  refine yE Tryd.func6 rfl Tryd.results6 Tryd.ntmps6 [100021, 100034, 100060] [] [.any (.slice a l.length cap), .str s, .lit true] w ?_
  repeat' (first | refine yX ?_ | (apply And.intro <;> intro _) | apply bothI | refine retB fun β => ?_ | intro βe | refine yK (.str s') (fun β w hm => L0 w) ?_ | (refine opx_makeMap rfl (fun g => ?_)) | (refine opx_mapPut 0 (k := 0) (.inr rfl) Tryd.underlying30 Tryd.underlying3 rfl rfl rfl rfl rfl MI.empty (fun e1 c1 hM1 => ?_)) | (refine inlineX env_ok CF1 rfl CF2 CF3 (by kernel_rfl) rfl ⟨rfl, rfl, trivial⟩ (Nat.le_of_ble_eq_true rfl) (T := {t : Array MapEntry × Nat // MI t.1 t.2 (FtP.clS l (fun j => decide (j = 0)) l.length)}) (fun _ => .any (.map (some g))) (fun t => [(0, true, .blob (MapX g t.1.1 t.1.2))]) [100013] [] 1000 (fun R' β0 hR => ?_) (fun t => ?_)) | exact trivial)
  · have hM1 : MI e1 c1 (FtP.clS l (fun j => decide (j = 0)) 0) := by
      have : (fun j => decide (j = 0) || false) = FtP.clS l (fun j => decide (j = 0)) 0 := by funext j; simp [FtP.clS]
      rw [← this]; exact hM1
    repeat' (first | refine yX ?_ | (apply And.intro <;> intro _) | apply bothI | refine retB fun β => ?_ | intro βe | refine yO (x_len hu) ?_ | exact trivial)
    refine loop env_ok rfl (T := {t : Nat × Array MapEntry × Nat // t.1 ≤ l.length ∧ MI t.2.1 t.2.2 (FtP.clS l (fun j => decide (j = 0)) t.1)}) (fun t => ⟨[(0, .any (.slice a l.length cap)), (1, .any (.map (some g))), (7, .int .i64 (l.length : Nat)), (8, .int .i64 (t.1.1 : Nat))], (0, true, .blob (MapX g t.1.2.1 t.1.2.2)) :: [], 1, 26⟩) (fun t => l.length - t.1.1) ⟨(0, e1, c1), Nat.zero_le _, hM1⟩ 1000 [100013] [] (fun _ => Nat.le_refl _) (by ((with_reducible show wk _ _); repeat' (first | exact trivial | exact eqSV_refl _ | refine eqI ?_ | refine eqS ?_ | apply And.intro | exact yV | fail)); all_goals exact fun b x h => h) (fun t I hI => ?_)
    obtain ⟨⟨k, ek, ck⟩, hk, hM⟩ := t
    dsimp only at hk hM ⊢
    by_cases hlt : k < l.length
    · obtain ⟨ad, rfl⟩ := hsome (by omega)
      obtain ⟨p, hp⟩ : ∃ p, l[k]? = some p := ⟨l[k], List.getElem?_eq_getElem hlt⟩
      have hld := hread ad rfl k p hp
      have hm := FtP.manyAt_get hp
      have hnew : FtP.clS l (fun j => decide (j = 0)) k k = true → FtP.manyAt l k = true → (fun j => decide (j = k + 1) || FtP.clS l (fun j => decide (j = 0)) k j) = FtP.clS l (fun j => decide (j = 0)) (k + 1) := fun h1 h2 => by funext j; rw [FtP.clS_succ, h1, h2]; rfl
      have hold : ¬ (FtP.clS l (fun j => decide (j = 0)) k k = true ∧ FtP.manyAt l k = true) → FtP.clS l (fun j => decide (j = 0)) k = FtP.clS l (fun j => decide (j = 0)) (k + 1) := fun h => by funext j; rw [FtP.clS_succ, if_neg (by simpa using h)]
      repeat' (first | refine yX ?_ | (apply And.intro <;> intro _) | apply bothI | refine retB fun β => ?_ | intro βe | (refine opx_mapGet 0 (k := k) rfl Tryd.underlying30 Tryd.underlying3 (fun w => Tryd.zeroValue4 w) rfl rfl rfl rfl hM ?_) | refine yN (j := k) hu hsz ?_ | refine yO (x_field Tryd.underlying35 rfl (fun w => Tryd.sizeOf4 w) (by decide)) ?_ | refine yO (v := .bool p.isMany) (x_load1 (fun w => Tryd.isAgg4 w) (fun w' hb β => (hld w' hb).2.2)) ?_ | (refine opx_mapPut 0 (k := k + 1) (.inl rfl) Tryd.underlying30 Tryd.underlying3 rfl rfl (by omega) rfl rfl hM (fun e2 c2 hM2 => ?_)) | exact trivial)
      all_goals first | (exfalso; omega) | (refine hI _ ⟨(k + 1, e2, c2), by dsimp only; omega, by dsimp only; rw [← hnew (by assumption) (by rw [hm]; assumption)]; exact hM2⟩ (by dsimp only; omega) (by ((with_reducible show wk _ _); repeat' (first | exact trivial | exact eqSV_refl _ | refine eqI ?_ | refine eqS ?_ | apply And.intro | exact yV | fail)); all_goals exact fun b x h => h); done) | (refine hI _ ⟨(k + 1, ek, ck), by dsimp only; omega, by dsimp only; rw [← hold (fun h => by rw [hm] at h; simp_all)]; exact hM⟩ (by dsimp only; omega) (by ((with_reducible show wk _ _); repeat' (first | exact trivial | exact eqSV_refl _ | refine eqI ?_ | refine eqS ?_ | apply And.intro | exact yV | fail)); all_goals exact fun b x h => h); done) | trace_state
    · obtain rfl : k = l.length := by omega
      repeat' (first | refine yX ?_ | (apply And.intro <;> intro _) | apply bothI | refine retB fun β => ?_ | intro βe | fail | exact trivial)
      all_goals first | (exfalso; omega) | exact hR ⟨(ek, ck), hM⟩ _ _ (by unfold wkV; refine ⟨rfl, eqSV_refl _, rfl, ?_⟩; repeat' (first | exact trivial | apply And.intro | exact Nat.zero_lt_one | exact Nat.le_of_ble_eq_true rfl | exact fun b x h => h | rfl | fail)) | trace_state
  · obtain ⟨⟨e0, c0⟩, hM0⟩ := t
    rw [FtP.can_start (cs := FtP.chars s')] at hM0
    have hcn : (FtP.chars s').length ≤ s'.length := FtP.chars_len _ _ (Nat.le_refl _)
    have hcc := FtP.chars_ch _ s' (Nat.le_refl _)
    generalize hcs : FtP.chars s' = cs at *
    repeat' (first | refine yX ?_ | (apply And.intro <;> intro _) | apply bothI | refine retB fun β => ?_ | intro βe | fail | exact trivial)
    refine yZ (T := {t : Nat × List UInt8 × Nat × Array MapEntry × Nat // t.1 ≤ cs.length ∧ FtP.chars t.2.1 = cs.drop t.1 ∧ t.2.1.length ≤ 1000 ∧ MI t.2.2.2.1 t.2.2.2.2 (FtP.can l cs t.1)}) (fun t => ⟨[(0, .any (.slice a l.length cap)), (1, .str t.1.2.1), (2, .lit true), (7, .any (.map (some t.1.2.2.1)))], [(0, true, .blob (MapX t.1.2.2.1 t.1.2.2.2.1 t.1.2.2.2.2))], 1, 96⟩) (fun t => cs.length - t.1.1) ⟨(0, s', g, e0, c0), Nat.zero_le _, hcs, by dsimp only; omega, hM0⟩ [100021, 100034, 100060] [] (fun t I hI => ?_) (by ((with_reducible show wk _ _); repeat' (first | exact trivial | exact eqSV_refl _ | refine eqI ?_ | refine eqS ?_ | apply And.intro | exact yV | fail)); all_goals exact fun b x h => h)
    obtain ⟨⟨i, rem, g, es, clock⟩, hi, hrem, hrl, hM⟩ := t
    dsimp only at hi hrem hrl hM ⊢
    by_cases h0 : rem = []
    · subst h0
      have hin : i = cs.length := by
        have := congrArg List.length hrem
        rw [FtP.chars_nil, List.length_drop] at this
        simp only [List.length_nil] at this
        omega
      have hres : FtP.can l cs i l.length = FtP.matchP l cs := by rw [FtP.can_end, hin]; rfl
      have hfalse : ¬ FtP.can l cs i l.length = true → FtP.matchP l cs = false := fun h => by rw [← hres]; simpa using h
      repeat' (first | refine yX ?_ | (apply And.intro <;> intro _) | apply bothI | refine retB fun β => ?_ | intro βe | refine yO (x_len hu) ?_ | (refine opx_mapGet 0 (k := l.length) rfl Tryd.underlying30 Tryd.underlying3 (fun w => Tryd.zeroValue4 w) rfl rfl rfl rfl hM ?_) | exact trivial)
      all_goals first | (exfalso; simp_all; done) | (simp only [SV.den]; rw [← hres]; congr 1; symm; assumption) | (simp only [SV.den]; rw [hfalse (by simp_all)]; done) | trace_state
    · have hst := FtP.chars_step h0
      have hd := VaP.dec_len h0
      have hch2 := FtP.isCh_take h0
      have hcode := FtP.code_take h0
      have hc32 := VaP.dec_lt h0
      have D1 := D rem
      have hcd : FtP.code rem = if VaP.dec rem = (65533, 1) then -((rem.getD 0 0).toNat : Int) else ((VaP.dec rem).1 : Int) := rfl
      obtain ⟨c, kn, hck⟩ : ∃ c k, VaP.dec rem = (c, k) := ⟨_, _, rfl⟩
      rw [hck] at hst hd hch2 hcode D1 hcd hc32
      dsimp only at hst hd hch2 hcode D1 hcd hc32
      generalize hu0 : rem.take kn = u at *
      have h256 := (rem.getD 0 0).toNat_lt
      have hdr : cs.drop i = u :: FtP.chars (rem.drop kn) := by rw [← hrem, hst]
      have hilt : i < cs.length := by
        rcases Nat.lt_or_ge i cs.length with h1 | h1
        · exact h1
        · rw [List.drop_eq_nil_of_le h1] at hdr; cases hdr
      have hcs2 : cs[i]? = some u ∧ FtP.chars (rem.drop kn) = cs.drop (i + 1) := by
        rw [List.drop_eq_getElem_cons hilt] at hdr
        simp only [List.cons.injEq] at hdr
        exact ⟨by rw [List.getElem?_eq_getElem hilt, hdr.1], hdr.2.symm⟩
      have hstep := FtP.can_step (l := l) hcs2.1
      have hcv1 : c = 65533 → kn = 1 → FtP.code rem = 0 - ((rem.getD 0 0).toNat : Int) := fun h1 h2 => by rw [hcd, if_pos (by rw [h1, h2])]; omega
      have hcv2 : ¬ (c = 65533 ∧ kn = 1) → FtP.code rem = (c : Int) := fun h => by rw [hcd, if_neg (fun e => h (by cases e; exact ⟨rfl, rfl⟩))]
      have hF := FtP.stepB_ch hch2 hch
      rw [hcode] at hF
      by_cases hbad : c = 65533 ∧ kn = 1
      · have hcv := hcv1 hbad.1 hbad.2
        by_cases hl0 : 0 < l.length
        · obtain ⟨ad, rfl⟩ := hsome hl0
          repeat' (first | refine yX ?_ | (apply And.intro <;> intro _) | apply bothI | refine retB fun β => ?_ | intro βe | (refine ⟨0, rfl, by omega, ?_⟩) | (refine ⟨kn, rfl, by omega, ?_⟩) | (refine opx_mapGet 0 (k := l.length) rfl Tryd.underlying30 Tryd.underlying3 (fun w => Tryd.zeroValue4 w) rfl rfl rfl rfl hM ?_) | (refine opx_mapLen 0 rfl Tryd.underlying30 rfl rfl ?_) | refine yO (x_len hu) ?_ | refine yK (.tup [.int .i32 (c : Nat), .int .i64 (kn : Nat)]) (fun β w hm => D1 w hm.below) ?_ | (refine opx_makeMap rfl (fun g2 => ?_)) | (refine opx_range 0 rfl Tryd.underlying30 rfl rfl ?_) | exact trivial)
          all_goals first | (exfalso; simp_all; done) | (exfalso; omega) | (simp only [SV.den]; rw [FtP.match_none hi (hM.size0.1 (by omega))]; done) | skip
          all_goals refine yZ (T := {t : Array Nat × Array MapEntry × Nat × (Nat → Bool) // MI t.2.1 t.2.2.1 t.2.2.2 ∧ PA es l u t.1 t.2.2.2}) (fun t => ⟨[(0, .any (.slice (some ad) l.length cap)), (1, .str (rem.drop kn)), (2, .lit true), (8, .int .i32 (FtP.code rem)), (10, .any (.map (some g2))), (57, .ptr 2 0)], [(2, true, .blob (IterX g clock t.1.1 clock)), (1, true, .blob (MapX g2 t.1.2.1 t.1.2.2.1)), (0, true, .blob (MapX g es clock))], 3, 96⟩) (fun t => (leftOf es t.1.1).size) ⟨(#[], #[], 0, fun _ => false), MI.empty, PA.nil⟩ [100021, 100034, 100060] [] (fun t I2 hI2 => ?_) (by ((with_reducible show wk _ _); repeat' (first | exact trivial | exact eqSV_refl _ | refine eqI ?_ | refine eqS ?_ | apply And.intro | exact yV | fail)); all_goals exact fun b x h => h)
          all_goals obtain ⟨⟨seen, es2, clock2, A⟩, hM2, hPA⟩ := t
          all_goals dsimp only at hM2 hPA ⊢
          all_goals repeat' (first | refine yX ?_ | (apply And.intro <;> intro _) | apply bothI | refine retB fun β => ?_ | intro βe | (refine opx_next 0 2 rfl rfl rfl rfl hM (Nat.le_refl _) (Nat.le_refl _) (fun hall => ?_) (fun e he k hk hSk hlt => FtP.can_le hSk fun hkl => ?_)) | (refine opx_entry 0 2 rfl rfl rfl rfl hM he hk ?_) | refine yO (x_len hu) ?_ | refine yN (j := k) hu hsz ?_ | refine yO (x_field Tryd.underlying35 rfl (fun w => Tryd.sizeOf4 w) (by decide)) ?_ | refine yO (x_field Tryd.underlying35 rfl (fun w => Tryd.sizeOf21 w) (by decide)) ?_ | refine yO (v := .bool (l.getD k .one).isMany) (x_load1 (fun w => Tryd.isAgg4 w) (fun w' hb β => (hread _ rfl k _ (FtP.get_one (by omega)) w' hb).2.2)) ?_ | refine yO (v := .bool (FtP.p1 (l.getD k .one))) (x_load1 (fun w => Tryd.isAgg4 w) (fun w' hb β => (hread _ rfl k _ (FtP.get_one (by omega)) w' hb).2.1)) ?_ | refine yO (v := .int .i32 (FtP.p0 (l.getD k .one))) (x_load1 (fun w => Tryd.isAgg21 w) (fun w' hb β => (hread _ rfl k _ (FtP.get_one (by omega)) w' hb).1)) ?_ | (refine opx_mapPut 1 (k := k) (.inl rfl) Tryd.underlying30 Tryd.underlying3 rfl rfl rfl rfl rfl hM2 (fun e2 c2 hM3 => ?_)) | (refine opx_mapPut 1 (k := k + 1) (.inl rfl) Tryd.underlying30 Tryd.underlying3 rfl rfl (by omega) rfl rfl hM2 (fun e2 c2 hM3 => ?_)) | (refine inlineX env_ok CF1 rfl CF2 CF3 (by kernel_rfl) rfl ⟨rfl, rfl, trivial⟩ (Nat.le_of_ble_eq_true rfl) (T := {t : Array MapEntry × Nat // MI t.1 t.2 (FtP.clS l A l.length)}) (fun _ => .any (.map (some g2))) (fun t => [(1, true, .blob (MapX g2 t.1.1 t.1.2)), (2, true, .blob (IterX g clock seen clock))]) [100013] [] 1000 (fun R' β0 hR => ?_) (fun t => ?_)) | exact trivial)
          all_goals first
            | (refine hI2 _ ⟨(seen.push e.born, es2, clock2, A), hM2, PA.push hPA hM.nodup he hk (fun j => by rw [FtP.stepB_ge (by omega)]; rfl)⟩ hlt (by ((with_reducible show wk _ _); repeat' (first | exact trivial | exact eqSV_refl _ | refine eqI ?_ | refine eqS ?_ | apply And.intro | exact yV | fail)); all_goals exact fun b x h => h); done)
            | (refine hI2 _ ⟨(seen.push e.born, e2, c2, fun j => decide (j = k) || A j), hM3, PA.push hPA hM.nodup he hk (fun j => by show (decide (j = k) || A j) = _; rw [FtP.stepB_many (by omega) (by assumption)])⟩ hlt (by ((with_reducible show wk _ _); repeat' (first | exact trivial | exact eqSV_refl _ | refine eqI ?_ | refine eqS ?_ | apply And.intro | exact yV | fail)); all_goals exact fun b x h => h); done)
            | (refine hI2 _ ⟨(seen.push e.born, e2, c2, fun j => decide (j = k + 1) || A j), hM3, PA.push hPA hM.nodup he hk (fun j => by show (decide (j = k + 1) || A j) = _; rw [hF k (by omega) (by assumption), FtP.or_yes (by assumption), Bool.and_true])⟩ hlt (by ((with_reducible show wk _ _); repeat' (first | exact trivial | exact eqSV_refl _ | refine eqI ?_ | refine eqS ?_ | apply And.intro | exact yV | fail)); all_goals exact fun b x h => h); done)
            | (refine hI2 _ ⟨(seen.push e.born, e2, c2, fun j => decide (j = k + 1) || A j), hM3, PA.push hPA hM.nodup he hk (fun j => by show (decide (j = k + 1) || A j) = _; rw [hF k (by omega) (by assumption), FtP.or_yes2 (by assumption), Bool.and_true])⟩ hlt (by ((with_reducible show wk _ _); repeat' (first | exact trivial | exact eqSV_refl _ | refine eqI ?_ | refine eqS ?_ | apply And.intro | exact yV | fail)); all_goals exact fun b x h => h); done)
            | (refine hI2 _ ⟨(seen.push e.born, es2, clock2, A), hM2, PA.push hPA hM.nodup he hk (fun j => by show A j = _; rw [hF k (by omega) (by assumption), FtP.or_no (by assumption) (by assumption), Bool.and_false, Bool.false_or])⟩ hlt (by ((with_reducible show wk _ _); repeat' (first | exact trivial | exact eqSV_refl _ | refine eqI ?_ | refine eqS ?_ | apply And.intro | exact yV | fail)); all_goals exact fun b x h => h); done)
            | (refine back_take 0 1 2 rfl rfl rfl rfl rfl (Nat.zero_le _) rfl ?_; refine hI _ ⟨(i + 1, rem.drop kn, g2, t.1.1, t.1.2), by dsimp only; omega, hcs2.2, by dsimp only; rw [List.length_drop]; omega, by rw [← hstep, ← PA.all hPA hM hall]; exact t.2⟩ (by dsimp only; omega) (by ((with_reducible show wk _ _); repeat' (first | exact trivial | exact eqSV_refl _ | refine eqI ?_ | refine eqS ?_ | apply And.intro | exact yV | fail)); all_goals exact fun b x h => h); done)
            | skip
          all_goals have hM1 : MI es2 clock2 (FtP.clS l A 0) := hM2
          all_goals
            repeat' (first | refine yX ?_ | (apply And.intro <;> intro _) | apply bothI | refine retB fun β => ?_ | intro βe | refine yO (x_len hu) ?_ | exact trivial)
            refine loop env_ok rfl (T := {t : Nat × Array MapEntry × Nat // t.1 ≤ l.length ∧ MI t.2.1 t.2.2 (FtP.clS l (A) t.1)}) (fun t => ⟨[(0, .any (.slice (some ad) l.length cap)), (1, .any (.map (some g2))), (7, .int .i64 (l.length : Nat)), (8, .int .i64 (t.1.1 : Nat))], (1, true, .blob (MapX g2 t.1.2.1 t.1.2.2)) :: [(2, true, .blob (IterX g clock seen clock))], 3, 26⟩) (fun t => l.length - t.1.1) ⟨(0, es2, clock2), Nat.zero_le _, hM1⟩ 1000 [100013] [] (fun _ => Nat.le_refl _) (by ((with_reducible show wk _ _); repeat' (first | exact trivial | exact eqSV_refl _ | refine eqI ?_ | refine eqS ?_ | apply And.intro | exact yV | fail)); all_goals exact fun b x h => h) (fun t I hI => ?_)
            obtain ⟨⟨k, ek, ck⟩, hk, hM⟩ := t
            dsimp only at hk hM ⊢
            by_cases hlt : k < l.length
            · skip
              obtain ⟨p, hp⟩ : ∃ p, l[k]? = some p := ⟨l[k], List.getElem?_eq_getElem hlt⟩
              have hld := hread ad rfl k p hp
              have hm := FtP.manyAt_get hp
              have hnew : FtP.clS l (A) k k = true → FtP.manyAt l k = true → (fun j => decide (j = k + 1) || FtP.clS l (A) k j) = FtP.clS l (A) (k + 1) := fun h1 h2 => by funext j; rw [FtP.clS_succ, h1, h2]; rfl
              have hold : ¬ (FtP.clS l (A) k k = true ∧ FtP.manyAt l k = true) → FtP.clS l (A) k = FtP.clS l (A) (k + 1) := fun h => by funext j; rw [FtP.clS_succ, if_neg (by simpa using h)]
              repeat' (first | refine yX ?_ | (apply And.intro <;> intro _) | apply bothI | refine retB fun β => ?_ | intro βe | (refine opx_mapGet 1 (k := k) rfl Tryd.underlying30 Tryd.underlying3 (fun w => Tryd.zeroValue4 w) rfl rfl rfl rfl hM ?_) | refine yN (j := k) hu hsz ?_ | refine yO (x_field Tryd.underlying35 rfl (fun w => Tryd.sizeOf4 w) (by decide)) ?_ | refine yO (v := .bool p.isMany) (x_load1 (fun w => Tryd.isAgg4 w) (fun w' hb β => (hld w' hb).2.2)) ?_ | (refine opx_mapPut 1 (k := k + 1) (.inl rfl) Tryd.underlying30 Tryd.underlying3 rfl rfl (by omega) rfl rfl hM (fun e2 c2 hM2 => ?_)) | exact trivial)
              all_goals first | (exfalso; omega) | (refine hI _ ⟨(k + 1, e2, c2), by dsimp only; omega, by dsimp only; rw [← hnew (by assumption) (by rw [hm]; assumption)]; exact hM2⟩ (by dsimp only; omega) (by ((with_reducible show wk _ _); repeat' (first | exact trivial | exact eqSV_refl _ | refine eqI ?_ | refine eqS ?_ | apply And.intro | exact yV | fail)); all_goals exact fun b x h => h); done) | (refine hI _ ⟨(k + 1, ek, ck), by dsimp only; omega, by dsimp only; rw [← hold (fun h => by rw [hm] at h; simp_all)]; exact hM⟩ (by dsimp only; omega) (by ((with_reducible show wk _ _); repeat' (first | exact trivial | exact eqSV_refl _ | refine eqI ?_ | refine eqS ?_ | apply And.intro | exact yV | fail)); all_goals exact fun b x h => h); done) | trace_state
            · obtain rfl : k = l.length := by omega
              repeat' (first | refine yX ?_ | (apply And.intro <;> intro _) | apply bothI | refine retB fun β => ?_ | intro βe | fail | exact trivial)
              all_goals first | (exfalso; omega) | exact hR ⟨(ek, ck), hM⟩ _ _ (by unfold wkV; refine ⟨rfl, eqSV_refl _, rfl, ?_⟩; repeat' (first | exact trivial | apply And.intro | exact Nat.zero_lt_one | exact Nat.le_of_ble_eq_true rfl | exact fun b x h => h | rfl | fail)) | trace_state
        · skip
          repeat' (first | refine yX ?_ | (apply And.intro <;> intro _) | apply bothI | refine retB fun β => ?_ | intro βe | (refine ⟨0, rfl, by omega, ?_⟩) | (refine ⟨kn, rfl, by omega, ?_⟩) | (refine opx_mapGet 0 (k := l.length) rfl Tryd.underlying30 Tryd.underlying3 (fun w => Tryd.zeroValue4 w) rfl rfl rfl rfl hM ?_) | (refine opx_mapLen 0 rfl Tryd.underlying30 rfl rfl ?_) | refine yO (x_len hu) ?_ | refine yK (.tup [.int .i32 (c : Nat), .int .i64 (kn : Nat)]) (fun β w hm => D1 w hm.below) ?_ | (refine opx_makeMap rfl (fun g2 => ?_)) | (refine opx_range 0 rfl Tryd.underlying30 rfl rfl ?_) | exact trivial)
          all_goals first | (exfalso; simp_all; done) | (exfalso; omega) | (simp only [SV.den]; rw [FtP.match_none hi (hM.size0.1 (by omega))]; done) | skip
          all_goals refine yZ (T := {t : Array Nat × Array MapEntry × Nat × (Nat → Bool) // MI t.2.1 t.2.2.1 t.2.2.2 ∧ PA es l u t.1 t.2.2.2}) (fun t => ⟨[(0, .any (.slice a l.length cap)), (1, .str (rem.drop kn)), (2, .lit true), (8, .int .i32 (FtP.code rem)), (10, .any (.map (some g2))), (57, .ptr 2 0)], [(2, true, .blob (IterX g clock t.1.1 clock)), (1, true, .blob (MapX g2 t.1.2.1 t.1.2.2.1)), (0, true, .blob (MapX g es clock))], 3, 96⟩) (fun t => (leftOf es t.1.1).size) ⟨(#[], #[], 0, fun _ => false), MI.empty, PA.nil⟩ [100021, 100034, 100060] [] (fun t I2 hI2 => ?_) (by ((with_reducible show wk _ _); repeat' (first | exact trivial | exact eqSV_refl _ | refine eqI ?_ | refine eqS ?_ | apply And.intro | exact yV | fail)); all_goals exact fun b x h => h)
          all_goals obtain ⟨⟨seen, es2, clock2, A⟩, hM2, hPA⟩ := t
          all_goals dsimp only at hM2 hPA ⊢
          all_goals repeat' (first | refine yX ?_ | (apply And.intro <;> intro _) | apply bothI | refine retB fun β => ?_ | intro βe | (refine opx_next 0 2 rfl rfl rfl rfl hM (Nat.le_refl _) (Nat.le_refl _) (fun hall => ?_) (fun e he k hk hSk hlt => FtP.can_le hSk fun hkl => ?_)) | (refine opx_entry 0 2 rfl rfl rfl rfl hM he hk ?_) | refine yO (x_len hu) ?_ | refine yN (j := k) hu hsz ?_ | refine yO (x_field Tryd.underlying35 rfl (fun w => Tryd.sizeOf4 w) (by decide)) ?_ | refine yO (x_field Tryd.underlying35 rfl (fun w => Tryd.sizeOf21 w) (by decide)) ?_ | refine yO (v := .bool (l.getD k .one).isMany) (x_load1 (fun w => Tryd.isAgg4 w) (fun w' hb β => (hread _ rfl k _ (FtP.get_one (by omega)) w' hb).2.2)) ?_ | refine yO (v := .bool (FtP.p1 (l.getD k .one))) (x_load1 (fun w => Tryd.isAgg4 w) (fun w' hb β => (hread _ rfl k _ (FtP.get_one (by omega)) w' hb).2.1)) ?_ | refine yO (v := .int .i32 (FtP.p0 (l.getD k .one))) (x_load1 (fun w => Tryd.isAgg21 w) (fun w' hb β => (hread _ rfl k _ (FtP.get_one (by omega)) w' hb).1)) ?_ | (refine opx_mapPut 1 (k := k) (.inl rfl) Tryd.underlying30 Tryd.underlying3 rfl rfl rfl rfl rfl hM2 (fun e2 c2 hM3 => ?_)) | (refine opx_mapPut 1 (k := k + 1) (.inl rfl) Tryd.underlying30 Tryd.underlying3 rfl rfl (by omega) rfl rfl hM2 (fun e2 c2 hM3 => ?_)) | (refine inlineX env_ok CF1 rfl CF2 CF3 (by kernel_rfl) rfl ⟨rfl, rfl, trivial⟩ (Nat.le_of_ble_eq_true rfl) (T := {t : Array MapEntry × Nat // MI t.1 t.2 (FtP.clS l A l.length)}) (fun _ => .any (.map (some g2))) (fun t => [(1, true, .blob (MapX g2 t.1.1 t.1.2)), (2, true, .blob (IterX g clock seen clock))]) [100013] [] 1000 (fun R' β0 hR => ?_) (fun t => ?_)) | exact trivial)
          all_goals first
            | (refine hI2 _ ⟨(seen.push e.born, es2, clock2, A), hM2, PA.push hPA hM.nodup he hk (fun j => by rw [FtP.stepB_ge (by omega)]; rfl)⟩ hlt (by ((with_reducible show wk _ _); repeat' (first | exact trivial | exact eqSV_refl _ | refine eqI ?_ | refine eqS ?_ | apply And.intro | exact yV | fail)); all_goals exact fun b x h => h); done)
            | (refine hI2 _ ⟨(seen.push e.born, e2, c2, fun j => decide (j = k) || A j), hM3, PA.push hPA hM.nodup he hk (fun j => by show (decide (j = k) || A j) = _; rw [FtP.stepB_many (by omega) (by assumption)])⟩ hlt (by ((with_reducible show wk _ _); repeat' (first | exact trivial | exact eqSV_refl _ | refine eqI ?_ | refine eqS ?_ | apply And.intro | exact yV | fail)); all_goals exact fun b x h => h); done)
            | (refine hI2 _ ⟨(seen.push e.born, e2, c2, fun j => decide (j = k + 1) || A j), hM3, PA.push hPA hM.nodup he hk (fun j => by show (decide (j = k + 1) || A j) = _; rw [hF k (by omega) (by assumption), FtP.or_yes (by assumption), Bool.and_true])⟩ hlt (by ((with_reducible show wk _ _); repeat' (first | exact trivial | exact eqSV_refl _ | refine eqI ?_ | refine eqS ?_ | apply And.intro | exact yV | fail)); all_goals exact fun b x h => h); done)
            | (refine hI2 _ ⟨(seen.push e.born, e2, c2, fun j => decide (j = k + 1) || A j), hM3, PA.push hPA hM.nodup he hk (fun j => by show (decide (j = k + 1) || A j) = _; rw [hF k (by omega) (by assumption), FtP.or_yes2 (by assumption), Bool.and_true])⟩ hlt (by ((with_reducible show wk _ _); repeat' (first | exact trivial | exact eqSV_refl _ | refine eqI ?_ | refine eqS ?_ | apply And.intro | exact yV | fail)); all_goals exact fun b x h => h); done)
            | (refine hI2 _ ⟨(seen.push e.born, es2, clock2, A), hM2, PA.push hPA hM.nodup he hk (fun j => by show A j = _; rw [hF k (by omega) (by assumption), FtP.or_no (by assumption) (by assumption), Bool.and_false, Bool.false_or])⟩ hlt (by ((with_reducible show wk _ _); repeat' (first | exact trivial | exact eqSV_refl _ | refine eqI ?_ | refine eqS ?_ | apply And.intro | exact yV | fail)); all_goals exact fun b x h => h); done)
            | (refine back_take 0 1 2 rfl rfl rfl rfl rfl (Nat.zero_le _) rfl ?_; refine hI _ ⟨(i + 1, rem.drop kn, g2, t.1.1, t.1.2), by dsimp only; omega, hcs2.2, by dsimp only; rw [List.length_drop]; omega, by rw [← hstep, ← PA.all hPA hM hall]; exact t.2⟩ (by dsimp only; omega) (by ((with_reducible show wk _ _); repeat' (first | exact trivial | exact eqSV_refl _ | refine eqI ?_ | refine eqS ?_ | apply And.intro | exact yV | fail)); all_goals exact fun b x h => h); done)
            | skip
          all_goals have hM1 : MI es2 clock2 (FtP.clS l A 0) := hM2
          all_goals
            repeat' (first | refine yX ?_ | (apply And.intro <;> intro _) | apply bothI | refine retB fun β => ?_ | intro βe | refine yO (x_len hu) ?_ | exact trivial)
            refine loop env_ok rfl (T := {t : Nat × Array MapEntry × Nat // t.1 ≤ l.length ∧ MI t.2.1 t.2.2 (FtP.clS l (A) t.1)}) (fun t => ⟨[(0, .any (.slice a l.length cap)), (1, .any (.map (some g2))), (7, .int .i64 (l.length : Nat)), (8, .int .i64 (t.1.1 : Nat))], (1, true, .blob (MapX g2 t.1.2.1 t.1.2.2)) :: [(2, true, .blob (IterX g clock seen clock))], 3, 26⟩) (fun t => l.length - t.1.1) ⟨(0, es2, clock2), Nat.zero_le _, hM1⟩ 1000 [100013] [] (fun _ => Nat.le_refl _) (by ((with_reducible show wk _ _); repeat' (first | exact trivial | exact eqSV_refl _ | refine eqI ?_ | refine eqS ?_ | apply And.intro | exact yV | fail)); all_goals exact fun b x h => h) (fun t I hI => ?_)
            obtain ⟨⟨k, ek, ck⟩, hk, hM⟩ := t
            dsimp only at hk hM ⊢
            by_cases hlt : k < l.length
            · obtain ⟨ad, rfl⟩ := hsome (by omega)
              obtain ⟨p, hp⟩ : ∃ p, l[k]? = some p := ⟨l[k], List.getElem?_eq_getElem hlt⟩
              have hld := hread ad rfl k p hp
              have hm := FtP.manyAt_get hp
              have hnew : FtP.clS l (A) k k = true → FtP.manyAt l k = true → (fun j => decide (j = k + 1) || FtP.clS l (A) k j) = FtP.clS l (A) (k + 1) := fun h1 h2 => by funext j; rw [FtP.clS_succ, h1, h2]; rfl
              have hold : ¬ (FtP.clS l (A) k k = true ∧ FtP.manyAt l k = true) → FtP.clS l (A) k = FtP.clS l (A) (k + 1) := fun h => by funext j; rw [FtP.clS_succ, if_neg (by simpa using h)]
              repeat' (first | refine yX ?_ | (apply And.intro <;> intro _) | apply bothI | refine retB fun β => ?_ | intro βe | (refine opx_mapGet 1 (k := k) rfl Tryd.underlying30 Tryd.underlying3 (fun w => Tryd.zeroValue4 w) rfl rfl rfl rfl hM ?_) | refine yN (j := k) hu hsz ?_ | refine yO (x_field Tryd.underlying35 rfl (fun w => Tryd.sizeOf4 w) (by decide)) ?_ | refine yO (v := .bool p.isMany) (x_load1 (fun w => Tryd.isAgg4 w) (fun w' hb β => (hld w' hb).2.2)) ?_ | (refine opx_mapPut 1 (k := k + 1) (.inl rfl) Tryd.underlying30 Tryd.underlying3 rfl rfl (by omega) rfl rfl hM (fun e2 c2 hM2 => ?_)) | exact trivial)
              all_goals first | (exfalso; omega) | (refine hI _ ⟨(k + 1, e2, c2), by dsimp only; omega, by dsimp only; rw [← hnew (by assumption) (by rw [hm]; assumption)]; exact hM2⟩ (by dsimp only; omega) (by ((with_reducible show wk _ _); repeat' (first | exact trivial | exact eqSV_refl _ | refine eqI ?_ | refine eqS ?_ | apply And.intro | exact yV | fail)); all_goals exact fun b x h => h); done) | (refine hI _ ⟨(k + 1, ek, ck), by dsimp only; omega, by dsimp only; rw [← hold (fun h => by rw [hm] at h; simp_all)]; exact hM⟩ (by dsimp only; omega) (by ((with_reducible show wk _ _); repeat' (first | exact trivial | exact eqSV_refl _ | refine eqI ?_ | refine eqS ?_ | apply And.intro | exact yV | fail)); all_goals exact fun b x h => h); done) | trace_state
            · obtain rfl : k = l.length := by omega
              repeat' (first | refine yX ?_ | (apply And.intro <;> intro _) | apply bothI | refine retB fun β => ?_ | intro βe | fail | exact trivial)
              all_goals first | (exfalso; omega) | exact hR ⟨(ek, ck), hM⟩ _ _ (by unfold wkV; refine ⟨rfl, eqSV_refl _, rfl, ?_⟩; repeat' (first | exact trivial | apply And.intro | exact Nat.zero_lt_one | exact Nat.le_of_ble_eq_true rfl | exact fun b x h => h | rfl | fail)) | trace_state
      · have hcv := hcv2 hbad
        by_cases hl0 : 0 < l.length
        · obtain ⟨ad, rfl⟩ := hsome hl0
          repeat' (first | refine yX ?_ | (apply And.intro <;> intro _) | apply bothI | refine retB fun β => ?_ | intro βe | (refine ⟨0, rfl, by omega, ?_⟩) | (refine ⟨kn, rfl, by omega, ?_⟩) | (refine opx_mapGet 0 (k := l.length) rfl Tryd.underlying30 Tryd.underlying3 (fun w => Tryd.zeroValue4 w) rfl rfl rfl rfl hM ?_) | (refine opx_mapLen 0 rfl Tryd.underlying30 rfl rfl ?_) | refine yO (x_len hu) ?_ | refine yK (.tup [.int .i32 (c : Nat), .int .i64 (kn : Nat)]) (fun β w hm => D1 w hm.below) ?_ | (refine opx_makeMap rfl (fun g2 => ?_)) | (refine opx_range 0 rfl Tryd.underlying30 rfl rfl ?_) | exact trivial)
          all_goals first | (exfalso; simp_all; done) | (exfalso; omega) | (simp only [SV.den]; rw [FtP.match_none hi (hM.size0.1 (by omega))]; done) | skip
          all_goals refine yZ (T := {t : Array Nat × Array MapEntry × Nat × (Nat → Bool) // MI t.2.1 t.2.2.1 t.2.2.2 ∧ PA es l u t.1 t.2.2.2}) (fun t => ⟨[(0, .any (.slice (some ad) l.length cap)), (1, .str (rem.drop kn)), (2, .lit true), (8, .int .i32 (FtP.code rem)), (10, .any (.map (some g2))), (57, .ptr 2 0)], [(2, true, .blob (IterX g clock t.1.1 clock)), (1, true, .blob (MapX g2 t.1.2.1 t.1.2.2.1)), (0, true, .blob (MapX g es clock))], 3, 96⟩) (fun t => (leftOf es t.1.1).size) ⟨(#[], #[], 0, fun _ => false), MI.empty, PA.nil⟩ [100021, 100034, 100060] [] (fun t I2 hI2 => ?_) (by ((with_reducible show wk _ _); repeat' (first | exact trivial | exact eqSV_refl _ | refine eqI ?_ | refine eqS ?_ | apply And.intro | exact yV | fail)); all_goals exact fun b x h => h)
          all_goals obtain ⟨⟨seen, es2, clock2, A⟩, hM2, hPA⟩ := t
          all_goals dsimp only at hM2 hPA ⊢
          all_goals repeat' (first | refine yX ?_ | (apply And.intro <;> intro _) | apply bothI | refine retB fun β => ?_ | intro βe | (refine opx_next 0 2 rfl rfl rfl rfl hM (Nat.le_refl _) (Nat.le_refl _) (fun hall => ?_) (fun e he k hk hSk hlt => FtP.can_le hSk fun hkl => ?_)) | (refine opx_entry 0 2 rfl rfl rfl rfl hM he hk ?_) | refine yO (x_len hu) ?_ | refine yN (j := k) hu hsz ?_ | refine yO (x_field Tryd.underlying35 rfl (fun w => Tryd.sizeOf4 w) (by decide)) ?_ | refine yO (x_field Tryd.underlying35 rfl (fun w => Tryd.sizeOf21 w) (by decide)) ?_ | refine yO (v := .bool (l.getD k .one).isMany) (x_load1 (fun w => Tryd.isAgg4 w) (fun w' hb β => (hread _ rfl k _ (FtP.get_one (by omega)) w' hb).2.2)) ?_ | refine yO (v := .bool (FtP.p1 (l.getD k .one))) (x_load1 (fun w => Tryd.isAgg4 w) (fun w' hb β => (hread _ rfl k _ (FtP.get_one (by omega)) w' hb).2.1)) ?_ | refine yO (v := .int .i32 (FtP.p0 (l.getD k .one))) (x_load1 (fun w => Tryd.isAgg21 w) (fun w' hb β => (hread _ rfl k _ (FtP.get_one (by omega)) w' hb).1)) ?_ | (refine opx_mapPut 1 (k := k) (.inl rfl) Tryd.underlying30 Tryd.underlying3 rfl rfl rfl rfl rfl hM2 (fun e2 c2 hM3 => ?_)) | (refine opx_mapPut 1 (k := k + 1) (.inl rfl) Tryd.underlying30 Tryd.underlying3 rfl rfl (by omega) rfl rfl hM2 (fun e2 c2 hM3 => ?_)) | (refine inlineX env_ok CF1 rfl CF2 CF3 (by kernel_rfl) rfl ⟨rfl, rfl, trivial⟩ (Nat.le_of_ble_eq_true rfl) (T := {t : Array MapEntry × Nat // MI t.1 t.2 (FtP.clS l A l.length)}) (fun _ => .any (.map (some g2))) (fun t => [(1, true, .blob (MapX g2 t.1.1 t.1.2)), (2, true, .blob (IterX g clock seen clock))]) [100013] [] 1000 (fun R' β0 hR => ?_) (fun t => ?_)) | exact trivial)
          all_goals first
            | (refine hI2 _ ⟨(seen.push e.born, es2, clock2, A), hM2, PA.push hPA hM.nodup he hk (fun j => by rw [FtP.stepB_ge (by omega)]; rfl)⟩ hlt (by ((with_reducible show wk _ _); repeat' (first | exact trivial | exact eqSV_refl _ | refine eqI ?_ | refine eqS ?_ | apply And.intro | exact yV | fail)); all_goals exact fun b x h => h); done)
            | (refine hI2 _ ⟨(seen.push e.born, e2, c2, fun j => decide (j = k) || A j), hM3, PA.push hPA hM.nodup he hk (fun j => by show (decide (j = k) || A j) = _; rw [FtP.stepB_many (by omega) (by assumption)])⟩ hlt (by ((with_reducible show wk _ _); repeat' (first | exact trivial | exact eqSV_refl _ | refine eqI ?_ | refine eqS ?_ | apply And.intro | exact yV | fail)); all_goals exact fun b x h => h); done)
            | (refine hI2 _ ⟨(seen.push e.born, e2, c2, fun j => decide (j = k + 1) || A j), hM3, PA.push hPA hM.nodup he hk (fun j => by show (decide (j = k + 1) || A j) = _; rw [hF k (by omega) (by assumption), FtP.or_yes (by assumption), Bool.and_true])⟩ hlt (by ((with_reducible show wk _ _); repeat' (first | exact trivial | exact eqSV_refl _ | refine eqI ?_ | refine eqS ?_ | apply And.intro | exact yV | fail)); all_goals exact fun b x h => h); done)
            | (refine hI2 _ ⟨(seen.push e.born, e2, c2, fun j => decide (j = k + 1) || A j), hM3, PA.push hPA hM.nodup he hk (fun j => by show (decide (j = k + 1) || A j) = _; rw [hF k (by omega) (by assumption), FtP.or_yes2 (by assumption), Bool.and_true])⟩ hlt (by ((with_reducible show wk _ _); repeat' (first | exact trivial | exact eqSV_refl _ | refine eqI ?_ | refine eqS ?_ | apply And.intro | exact yV | fail)); all_goals exact fun b x h => h); done)
            | (refine hI2 _ ⟨(seen.push e.born, es2, clock2, A), hM2, PA.push hPA hM.nodup he hk (fun j => by show A j = _; rw [hF k (by omega) (by assumption), FtP.or_no (by assumption) (by assumption), Bool.and_false, Bool.false_or])⟩ hlt (by ((with_reducible show wk _ _); repeat' (first | exact trivial | exact eqSV_refl _ | refine eqI ?_ | refine eqS ?_ | apply And.intro | exact yV | fail)); all_goals exact fun b x h => h); done)
            | (refine back_take 0 1 2 rfl rfl rfl rfl rfl (Nat.zero_le _) rfl ?_; refine hI _ ⟨(i + 1, rem.drop kn, g2, t.1.1, t.1.2), by dsimp only; omega, hcs2.2, by dsimp only; rw [List.length_drop]; omega, by rw [← hstep, ← PA.all hPA hM hall]; exact t.2⟩ (by dsimp only; omega) (by ((with_reducible show wk _ _); repeat' (first | exact trivial | exact eqSV_refl _ | refine eqI ?_ | refine eqS ?_ | apply And.intro | exact yV | fail)); all_goals exact fun b x h => h); done)
            | skip
          all_goals have hM1 : MI es2 clock2 (FtP.clS l A 0) := hM2
          all_goals
            repeat' (first | refine yX ?_ | (apply And.intro <;> intro _) | apply bothI | refine retB fun β => ?_ | intro βe | refine yO (x_len hu) ?_ | exact trivial)
            refine loop env_ok rfl (T := {t : Nat × Array MapEntry × Nat // t.1 ≤ l.length ∧ MI t.2.1 t.2.2 (FtP.clS l (A) t.1)}) (fun t => ⟨[(0, .any (.slice (some ad) l.length cap)), (1, .any (.map (some g2))), (7, .int .i64 (l.length : Nat)), (8, .int .i64 (t.1.1 : Nat))], (1, true, .blob (MapX g2 t.1.2.1 t.1.2.2)) :: [(2, true, .blob (IterX g clock seen clock))], 3, 26⟩) (fun t => l.length - t.1.1) ⟨(0, es2, clock2), Nat.zero_le _, hM1⟩ 1000 [100013] [] (fun _ => Nat.le_refl _) (by ((with_reducible show wk _ _); repeat' (first | exact trivial | exact eqSV_refl _ | refine eqI ?_ | refine eqS ?_ | apply And.intro | exact yV | fail)); all_goals exact fun b x h => h) (fun t I hI => ?_)
            obtain ⟨⟨k, ek, ck⟩, hk, hM⟩ := t
            dsimp only at hk hM ⊢
            by_cases hlt : k < l.length
            · skip
              obtain ⟨p, hp⟩ : ∃ p, l[k]? = some p := ⟨l[k], List.getElem?_eq_getElem hlt⟩
              have hld := hread ad rfl k p hp
              have hm := FtP.manyAt_get hp
              have hnew : FtP.clS l (A) k k = true → FtP.manyAt l k = true → (fun j => decide (j = k + 1) || FtP.clS l (A) k j) = FtP.clS l (A) (k + 1) := fun h1 h2 => by funext j; rw [FtP.clS_succ, h1, h2]; rfl
              have hold : ¬ (FtP.clS l (A) k k = true ∧ FtP.manyAt l k = true) → FtP.clS l (A) k = FtP.clS l (A) (k + 1) := fun h => by funext j; rw [FtP.clS_succ, if_neg (by simpa using h)]
              repeat' (first | refine yX ?_ | (apply And.intro <;> intro _) | apply bothI | refine retB fun β => ?_ | intro βe | (refine opx_mapGet 1 (k := k) rfl Tryd.underlying30 Tryd.underlying3 (fun w => Tryd.zeroValue4 w) rfl rfl rfl rfl hM ?_) | refine yN (j := k) hu hsz ?_ | refine yO (x_field Tryd.underlying35 rfl (fun w => Tryd.sizeOf4 w) (by decide)) ?_ | refine yO (v := .bool p.isMany) (x_load1 (fun w => Tryd.isAgg4 w) (fun w' hb β => (hld w' hb).2.2)) ?_ | (refine opx_mapPut 1 (k := k + 1) (.inl rfl) Tryd.underlying30 Tryd.underlying3 rfl rfl (by omega) rfl rfl hM (fun e2 c2 hM2 => ?_)) | exact trivial)
              all_goals first | (exfalso; omega) | (refine hI _ ⟨(k + 1, e2, c2), by dsimp only; omega, by dsimp only; rw [← hnew (by assumption) (by rw [hm]; assumption)]; exact hM2⟩ (by dsimp only; omega) (by ((with_reducible show wk _ _); repeat' (first | exact trivial | exact eqSV_refl _ | refine eqI ?_ | refine eqS ?_ | apply And.intro | exact yV | fail)); all_goals exact fun b x h => h); done) | (refine hI _ ⟨(k + 1, ek, ck), by dsimp only; omega, by dsimp only; rw [← hold (fun h => by rw [hm] at h; simp_all)]; exact hM⟩ (by dsimp only; omega) (by ((with_reducible show wk _ _); repeat' (first | exact trivial | exact eqSV_refl _ | refine eqI ?_ | refine eqS ?_ | apply And.intro | exact yV | fail)); all_goals exact fun b x h => h); done) | trace_state
            · obtain rfl : k = l.length := by omega
              repeat' (first | refine yX ?_ | (apply And.intro <;> intro _) | apply bothI | refine retB fun β => ?_ | intro βe | fail | exact trivial)
              all_goals first | (exfalso; omega) | exact hR ⟨(ek, ck), hM⟩ _ _ (by unfold wkV; refine ⟨rfl, eqSV_refl _, rfl, ?_⟩; repeat' (first | exact trivial | apply And.intro | exact Nat.zero_lt_one | exact Nat.le_of_ble_eq_true rfl | exact fun b x h => h | rfl | fail)) | trace_state
        · skip
          repeat' (first | refine yX ?_ | (apply And.intro <;> intro _) | apply bothI | refine retB fun β => ?_ | intro βe | (refine ⟨0, rfl, by omega, ?_⟩) | (refine ⟨kn, rfl, by omega, ?_⟩) | (refine opx_mapGet 0 (k := l.length) rfl Tryd.underlying30 Tryd.underlying3 (fun w => Tryd.zeroValue4 w) rfl rfl rfl rfl hM ?_) | (refine opx_mapLen 0 rfl Tryd.underlying30 rfl rfl ?_) | refine yO (x_len hu) ?_ | refine yK (.tup [.int .i32 (c : Nat), .int .i64 (kn : Nat)]) (fun β w hm => D1 w hm.below) ?_ | (refine opx_makeMap rfl (fun g2 => ?_)) | (refine opx_range 0 rfl Tryd.underlying30 rfl rfl ?_) | exact trivial)
          all_goals first | (exfalso; simp_all; done) | (exfalso; omega) | (simp only [SV.den]; rw [FtP.match_none hi (hM.size0.1 (by omega))]; done) | skip
          all_goals refine yZ (T := {t : Array Nat × Array MapEntry × Nat × (Nat → Bool) // MI t.2.1 t.2.2.1 t.2.2.2 ∧ PA es l u t.1 t.2.2.2}) (fun t => ⟨[(0, .any (.slice a l.length cap)), (1, .str (rem.drop kn)), (2, .lit true), (8, .int .i32 (FtP.code rem)), (10, .any (.map (some g2))), (57, .ptr 2 0)], [(2, true, .blob (IterX g clock t.1.1 clock)), (1, true, .blob (MapX g2 t.1.2.1 t.1.2.2.1)), (0, true, .blob (MapX g es clock))], 3, 96⟩) (fun t => (leftOf es t.1.1).size) ⟨(#[], #[], 0, fun _ => false), MI.empty, PA.nil⟩ [100021, 100034, 100060] [] (fun t I2 hI2 => ?_) (by ((with_reducible show wk _ _); repeat' (first | exact trivial | exact eqSV_refl _ | refine eqI ?_ | refine eqS ?_ | apply And.intro | exact yV | fail)); all_goals exact fun b x h => h)
          all_goals obtain ⟨⟨seen, es2, clock2, A⟩, hM2, hPA⟩ := t
          all_goals dsimp only at hM2 hPA ⊢
          all_goals repeat' (first | refine yX ?_ | (apply And.intro <;> intro _) | apply bothI | refine retB fun β => ?_ | intro βe | (refine opx_next 0 2 rfl rfl rfl rfl hM (Nat.le_refl _) (Nat.le_refl _) (fun hall => ?_) (fun e he k hk hSk hlt => FtP.can_le hSk fun hkl => ?_)) | (refine opx_entry 0 2 rfl rfl rfl rfl hM he hk ?_) | refine yO (x_len hu) ?_ | refine yN (j := k) hu hsz ?_ | refine yO (x_field Tryd.underlying35 rfl (fun w => Tryd.sizeOf4 w) (by decide)) ?_ | refine yO (x_field Tryd.underlying35 rfl (fun w => Tryd.sizeOf21 w) (by decide)) ?_ | refine yO (v := .bool (l.getD k .one).isMany) (x_load1 (fun w => Tryd.isAgg4 w) (fun w' hb β => (hread _ rfl k _ (FtP.get_one (by omega)) w' hb).2.2)) ?_ | refine yO (v := .bool (FtP.p1 (l.getD k .one))) (x_load1 (fun w => Tryd.isAgg4 w) (fun w' hb β => (hread _ rfl k _ (FtP.get_one (by omega)) w' hb).2.1)) ?_ | refine yO (v := .int .i32 (FtP.p0 (l.getD k .one))) (x_load1 (fun w => Tryd.isAgg21 w) (fun w' hb β => (hread _ rfl k _ (FtP.get_one (by omega)) w' hb).1)) ?_ | (refine opx_mapPut 1 (k := k) (.inl rfl) Tryd.underlying30 Tryd.underlying3 rfl rfl rfl rfl rfl hM2 (fun e2 c2 hM3 => ?_)) | (refine opx_mapPut 1 (k := k + 1) (.inl rfl) Tryd.underlying30 Tryd.underlying3 rfl rfl (by omega) rfl rfl hM2 (fun e2 c2 hM3 => ?_)) | (refine inlineX env_ok CF1 rfl CF2 CF3 (by kernel_rfl) rfl ⟨rfl, rfl, trivial⟩ (Nat.le_of_ble_eq_true rfl) (T := {t : Array MapEntry × Nat // MI t.1 t.2 (FtP.clS l A l.length)}) (fun _ => .any (.map (some g2))) (fun t => [(1, true, .blob (MapX g2 t.1.1 t.1.2)), (2, true, .blob (IterX g clock seen clock))]) [100013] [] 1000 (fun R' β0 hR => ?_) (fun t => ?_)) | exact trivial)
          all_goals first
            | (refine hI2 _ ⟨(seen.push e.born, es2, clock2, A), hM2, PA.push hPA hM.nodup he hk (fun j => by rw [FtP.stepB_ge (by omega)]; rfl)⟩ hlt (by ((with_reducible show wk _ _); repeat' (first | exact trivial | exact eqSV_refl _ | refine eqI ?_ | refine eqS ?_ | apply And.intro | exact yV | fail)); all_goals exact fun b x h => h); done)
            | (refine hI2 _ ⟨(seen.push e.born, e2, c2, fun j => decide (j = k) || A j), hM3, PA.push hPA hM.nodup he hk (fun j => by show (decide (j = k) || A j) = _; rw [FtP.stepB_many (by omega) (by assumption)])⟩ hlt (by ((with_reducible show wk _ _); repeat' (first | exact trivial | exact eqSV_refl _ | refine eqI ?_ | refine eqS ?_ | apply And.intro | exact yV | fail)); all_goals exact fun b x h => h); done)
            | (refine hI2 _ ⟨(seen.push e.born, e2, c2, fun j => decide (j = k + 1) || A j), hM3, PA.push hPA hM.nodup he hk (fun j => by show (decide (j = k + 1) || A j) = _; rw [hF k (by omega) (by assumption), FtP.or_yes (by assumption), Bool.and_true])⟩ hlt (by ((with_reducible show wk _ _); repeat' (first | exact trivial | exact eqSV_refl _ | refine eqI ?_ | refine eqS ?_ | apply And.intro | exact yV | fail)); all_goals exact fun b x h => h); done)
            | (refine hI2 _ ⟨(seen.push e.born, e2, c2, fun j => decide (j = k + 1) || A j), hM3, PA.push hPA hM.nodup he hk (fun j => by show (decide (j = k + 1) || A j) = _; rw [hF k (by omega) (by assumption), FtP.or_yes2 (by assumption), Bool.and_true])⟩ hlt (by ((with_reducible show wk _ _); repeat' (first | exact trivial | exact eqSV_refl _ | refine eqI ?_ | refine eqS ?_ | apply And.intro | exact yV | fail)); all_goals exact fun b x h => h); done)
            | (refine hI2 _ ⟨(seen.push e.born, es2, clock2, A), hM2, PA.push hPA hM.nodup he hk (fun j => by show A j = _; rw [hF k (by omega) (by assumption), FtP.or_no (by assumption) (by assumption), Bool.and_false, Bool.false_or])⟩ hlt (by ((with_reducible show wk _ _); repeat' (first | exact trivial | exact eqSV_refl _ | refine eqI ?_ | refine eqS ?_ | apply And.intro | exact yV | fail)); all_goals exact fun b x h => h); done)
            | (refine back_take 0 1 2 rfl rfl rfl rfl rfl (Nat.zero_le _) rfl ?_; refine hI _ ⟨(i + 1, rem.drop kn, g2, t.1.1, t.1.2), by dsimp only; omega, hcs2.2, by dsimp only; rw [List.length_drop]; omega, by rw [← hstep, ← PA.all hPA hM hall]; exact t.2⟩ (by dsimp only; omega) (by ((with_reducible show wk _ _); repeat' (first | exact trivial | exact eqSV_refl _ | refine eqI ?_ | refine eqS ?_ | apply And.intro | exact yV | fail)); all_goals exact fun b x h => h); done)
            | skip
          all_goals have hM1 : MI es2 clock2 (FtP.clS l A 0) := hM2
          all_goals
            repeat' (first | refine yX ?_ | (apply And.intro <;> intro _) | apply bothI | refine retB fun β => ?_ | intro βe | refine yO (x_len hu) ?_ | exact trivial)
            refine loop env_ok rfl (T := {t : Nat × Array MapEntry × Nat // t.1 ≤ l.length ∧ MI t.2.1 t.2.2 (FtP.clS l (A) t.1)}) (fun t => ⟨[(0, .any (.slice a l.length cap)), (1, .any (.map (some g2))), (7, .int .i64 (l.length : Nat)), (8, .int .i64 (t.1.1 : Nat))], (1, true, .blob (MapX g2 t.1.2.1 t.1.2.2)) :: [(2, true, .blob (IterX g clock seen clock))], 3, 26⟩) (fun t => l.length - t.1.1) ⟨(0, es2, clock2), Nat.zero_le _, hM1⟩ 1000 [100013] [] (fun _ => Nat.le_refl _) (by ((with_reducible show wk _ _); repeat' (first | exact trivial | exact eqSV_refl _ | refine eqI ?_ | refine eqS ?_ | apply And.intro | exact yV | fail)); all_goals exact fun b x h => h) (fun t I hI => ?_)
            obtain ⟨⟨k, ek, ck⟩, hk, hM⟩ := t
            dsimp only at hk hM ⊢
            by_cases hlt : k < l.length
            · obtain ⟨ad, rfl⟩ := hsome (by omega)
              obtain ⟨p, hp⟩ : ∃ p, l[k]? = some p := ⟨l[k], List.getElem?_eq_getElem hlt⟩
              have hld := hread ad rfl k p hp
              have hm := FtP.manyAt_get hp
              have hnew : FtP.clS l (A) k k = true → FtP.manyAt l k = true → (fun j => decide (j = k + 1) || FtP.clS l (A) k j) = FtP.clS l (A) (k + 1) := fun h1 h2 => by funext j; rw [FtP.clS_succ, h1, h2]; rfl
              have hold : ¬ (FtP.clS l (A) k k = true ∧ FtP.manyAt l k = true) → FtP.clS l (A) k = FtP.clS l (A) (k + 1) := fun h => by funext j; rw [FtP.clS_succ, if_neg (by simpa using h)]
              repeat' (first | refine yX ?_ | (apply And.intro <;> intro _) | apply bothI | refine retB fun β => ?_ | intro βe | (refine opx_mapGet 1 (k := k) rfl Tryd.underlying30 Tryd.underlying3 (fun w => Tryd.zeroValue4 w) rfl rfl rfl rfl hM ?_) | refine yN (j := k) hu hsz ?_ | refine yO (x_field Tryd.underlying35 rfl (fun w => Tryd.sizeOf4 w) (by decide)) ?_ | refine yO (v := .bool p.isMany) (x_load1 (fun w => Tryd.isAgg4 w) (fun w' hb β => (hld w' hb).2.2)) ?_ | (refine opx_mapPut 1 (k := k + 1) (.inl rfl) Tryd.underlying30 Tryd.underlying3 rfl rfl (by omega) rfl rfl hM (fun e2 c2 hM2 => ?_)) | exact trivial)
              all_goals first | (exfalso; omega) | (refine hI _ ⟨(k + 1, e2, c2), by dsimp only; omega, by dsimp only; rw [← hnew (by assumption) (by rw [hm]; assumption)]; exact hM2⟩ (by dsimp only; omega) (by ((with_reducible show wk _ _); repeat' (first | exact trivial | exact eqSV_refl _ | refine eqI ?_ | refine eqS ?_ | apply And.intro | exact yV | fail)); all_goals exact fun b x h => h); done) | (refine hI _ ⟨(k + 1, ek, ck), by dsimp only; omega, by dsimp only; rw [← hold (fun h => by rw [hm] at h; simp_all)]; exact hM⟩ (by dsimp only; omega) (by ((with_reducible show wk _ _); repeat' (first | exact trivial | exact eqSV_refl _ | refine eqI ?_ | refine eqS ?_ | apply And.intro | exact yV | fail)); all_goals exact fun b x h => h); done) | trace_state
            · obtain rfl : k = l.length := by omega
              repeat' (first | refine yX ?_ | (apply And.intro <;> intro _) | apply bothI | refine retB fun β => ?_ | intro βe | fail | exact trivial)
              all_goals first | (exfalso; omega) | exact hR ⟨(ek, ck), hM⟩ _ _ (by unfold wkV; refine ⟨rfl, eqSV_refl _, rfl, ?_⟩; repeat' (first | exact trivial | apply And.intro | exact Nat.zero_lt_one | exact Nat.le_of_ble_eq_true rfl | exact fun b x h => h | rfl | fail)) | trace_state
end Go.Proofs.YtlccmanncfbdkaaDoor
