/- Patterns, the reference: a pattern held against a text: the walk. -/
import Derived.Test.YtlccmanncfbdkaaDoorPFtR2
set_option linter.unusedSimpArgs false
set_option linter.unusedVariables false
namespace Go.Proofs.YtlccmanncfbdkaaDoor
open Go.RowKit
open Sym
attribute [local irreducible] Calls Sym.AggEq
open FtP (S sm upto sv pcs pc1 escB matchP)
def fitC (cs : List FtP.Str) (p : FtP.Pc) (i : Nat) : Bool := match cs[i]? with
  | some c => p.fits c
  | none => false
def nfB (f q : Nat → Bool) (i j : Nat) : Bool := decide (0 < j ∧ j ≤ i) && (f (j - 1) && q (j - 1))
def nfA (f : Nat → Bool) (i j : Nat) : Bool := decide (j < i) && upto f j
theorem nfB_zero {f q : Nat → Bool} {n : Nat} : List.replicate n (Value.bool false) = bv (nfB f q 0) n := by
  rw [bv_zero]; apply bv_ext; intro j _; unfold nfB; simp; omega
theorem nfA_zero {f : Nat → Bool} {n : Nat} : List.replicate n (Value.bool false) = bv (nfA f 0) n := by
  rw [bv_zero]; apply bv_ext; intro j _; unfold nfA; simp
theorem nfB_keep {f q : Nat → Bool} {i n : Nat} (h : ¬ (f i = true ∧ q i = true)) : bv (nfB f q i) n = bv (nfB f q (i + 1)) n := by
  apply bv_ext; intro j _
  unfold nfB
  by_cases e : j = i + 1
  · subst e
    have : (f i && q i) = false := by cases h1 : f i <;> cases h2 : q i <;> simp_all
    rw [show i + 1 - 1 = i by omega, this]; simp
  · have : (0 < j ∧ j ≤ i) ↔ (0 < j ∧ j ≤ i + 1) := by omega
    simp only [this]
theorem nfB_set {f q : Nat → Bool} {i n : Nat} (h1 : f i = true) (h2 : q i = true) : (bv (nfB f q i) n).set ((i + 1) * 1) (.bool true) = bv (nfB f q (i + 1)) n := by
  rw [Nat.mul_one, bv_set]
  apply bv_ext; intro j _
  unfold nfB
  by_cases e : j = i + 1
  · subst e
    rw [if_pos rfl, show i + 1 - 1 = i by omega, h1, h2]; simp
  · rw [if_neg e]
    have : (0 < j ∧ j ≤ i) ↔ (0 < j ∧ j ≤ i + 1) := by omega
    simp only [this]
theorem nfA_set {f : Nat → Bool} {i n : Nat} {b : Bool} (h : b = sm f (i + 1)) : (bv (nfA f i) n).set (i * 1) (.bool b) = bv (nfA f (i + 1)) n := by
  rw [Nat.mul_one, bv_set, h, FtP.sm_upto]
  apply bv_ext; intro j _
  unfold nfA
  by_cases e : j = i
  · subst e; rw [if_pos rfl]; simp
  · rw [if_neg e]
    have : (j < i) ↔ (j < i + 1) := by omega
    simp only [this]
theorem nfB_end {l : List FtP.Pc} {cs : List FtP.Str} {k : Nat} {p : FtP.Pc} (hp : l[k]? = some p) (hm : p.isMany = false) : bv (nfB (S l cs k) (fitC cs p) cs.length) (cs.length + 1) = bv (S l cs (k + 1)) (cs.length + 1) := by
  apply bv_ext; intro j hj
  rw [FtP.S_next hp, hm]
  unfold nfB fitC
  have : (0 < j ∧ j ≤ cs.length) ↔ 0 < j := by omega
  simp only [this]
  rfl
theorem nfA_end {l : List FtP.Pc} {cs : List FtP.Str} {k : Nat} {p : FtP.Pc} (hp : l[k]? = some p) (hm : p.isMany = true) : bv (nfA (S l cs k) (cs.length + 1)) (cs.length + 1) = bv (S l cs (k + 1)) (cs.length + 1) := by
  apply bv_ext; intro j hj
  rw [FtP.S_next hp, hm]
  unfold nfA
  simp [hj]
namespace Sym
theorem x_fromE {C : Ctx} {G : Blobs} {x lo : Operand} {t e : TypeId} {sz : Nat} {a A : Option Addr} {len cap j : Nat} {kd : IntKind} {i : Int} (hA : A = if cap = j then a else a.map (·.add (j * sz))) (hi0 : i = (j : Nat)) (ht : C.P.underlying t = some (.slice e)) (hs : ∀ w, (sizeOf e).run C.P w = .ok sz w) (hj : j ≤ len) :
    ExtN C G (.slice t x (some lo) none none) [.any (.slice a len cap), .int kd i] (.any (.slice A (len - j) (cap - j))) := by
  rw [hA]; exact x_from hi0 ht hs hj
end Sym
structure MaT where
  k : Nat
  q : List FtP.Str
  A : Option Addr
  m : Nat
  C : Nat
  g : Nat
  cap : Nat
set_option maxRecDepth 100000 in
set_option maxHeartbeats 8000000 in
theorem rmatches_any (A : Option Addr) (C : Nat) (ps : List FtP.Str) (B : Option Addr) (cB : Nat) (cs : List FtP.Str) (w : World) (hps : ps.length ≤ 1000) (hcs : cs.length ≤ 1000) (hC : ps.length ≤ C) (hA : SlAt A (sv ps) w) (hB : SlAt B (sv cs) w) :
    Calls Tryd.prog 8 #[.slice A ps.length C, .slice B cs.length cB] w fun e w' => e = .returned (.bool (matchP (pcs ps) cs)) ∧ Below w.heap.size w w' := by
  obtain ⟨i0, hi, hz0, hz1, hz2⟩ := info_parts boolInfo
  have hu := Tryd.underlying27
  have hsz := fun w => Tryd.sizeOf9 w
  have hub := Tryd.underlying36
  have hsb := fun w => Tryd.sizeOf4 w
  have hl0 : pcs ps = (pcs ps).drop 0 := rfl
  generalize hl : pcs ps = l at hl0 ⊢
  refine yE Tryd.func8 rfl Tryd.results8 Tryd.ntmps8 [] [] [.any (.slice A ps.length C), .any (.slice B cs.length cB)] w ?_
  repeat' (first | refine yX ?_ | (apply And.intro <;> intro _) | apply bothI | refine retB fun β => ?_ | intro βe | refine yO (x_len hu) ?_ | (refine opx_make (m := cs.length + 1) rfl (by omega) rfl rfl hub hi hz0 hz1 rfl (by rw [hz2]; omega) (by unfold maxLen; omega) (fun g => ?_)) | refine yN (j := 0) hub hsb ?_ | (refine opx_store env_ok 0 (p := 0 * 1) (v := .lit true) (u := .bool true) rfl rfl rfl rfl (fun β => rfl) rfl rfl (by omega) ?_) | exact trivial)
  have hst : (List.replicate (cs.length + 1) (Value.bool false)).set (0 * 1) (.bool true) = bv (S l cs 0) (cs.length + 1) := by
    rw [bv_zero, Nat.zero_mul, bv_set]
    apply bv_ext; intro j _
    cases j <;> simp [S]
  refine yZ (T := {t : Nat × List FtP.Str × Option Addr × Nat × Nat × Nat × Nat // pcs t.2.1 = l.drop t.1 ∧ t.1 ≤ l.length ∧ SlAt t.2.2.1 (sv t.2.1) w ∧ t.2.2.2.1 = t.2.1.length ∧ t.2.2.2.1 ≤ t.2.2.2.2.1 ∧ t.2.2.2.1 ≤ 1000}) (fun t => ⟨[(0, .any (.slice t.1.2.2.1 t.1.2.2.2.1 t.1.2.2.2.2.1)), (1, .any (.slice B cs.length cB)), (5, .any (.slice (some ⟨t.1.2.2.2.2.2.1, 0, none⟩) (cs.length + 1) t.1.2.2.2.2.2.2))], [(0, true, .blob (OwnS 4 1 t.1.2.2.2.2.2.1 (cs.length + 1) t.1.2.2.2.2.2.2 (bv (S l cs t.1.1) (cs.length + 1))))], 1, 120⟩) (fun t => t.1.2.2.2.1) ⟨(0, ps, A, ps.length, C, g, cs.length + 1), hl.trans hl0, Nat.zero_le _, hA, rfl, hC, hps⟩ [] [] (fun t I hI => ?_) (by ((with_reducible show wk _ _); repeat' (first | exact trivial | exact eqSV_refl _ | refine eqI ?_ | refine eqS ?_ | apply And.intro | exact yV | fail)); all_goals exact fun b x h => by dsimp only; rw [← hst]; exact h)
  obtain ⟨⟨k, q, A, m, C, g, cap⟩, hq, hk, hA, hm, hmC, hm1⟩ := t
  dsimp only at hq hk hA hm hmC hm1 ⊢
  cases q with
  | nil =>
    have hm0 : m = 0 := hm
    have hkl : k = l.length := by
      have := congrArg List.length hq
      rw [List.length_drop] at this
      simp [pcs] at this
      omega
    have hfb := bv_get (f := S l cs k) (n := cs.length + 1) (i := cs.length) (by omega)
    repeat' (first | refine yX ?_ | (apply And.intro <;> intro _) | apply bothI | refine retB fun β => ?_ | intro βe | refine yO (x_len hu) ?_ | refine yN (j := cs.length) hub hsb ?_ | refine yO (v := .bool (S l cs k cs.length)) (x_loadO 0 (.bool (S l cs k cs.length)) (fun w => Tryd.isAgg4 w) rfl (fun β => by rw [Nat.mul_one]; exact hfb)) ?_ | exact trivial)
    all_goals first | (exfalso; omega) | (subst hkl; rfl) | trace_state
  | cons u r =>
    have hmr : m = r.length + 1 := hm
    obtain ⟨ad, rfl⟩ := SlAt.some hA (by simp [sv])
    have hcu : ∀ w', Below w.heap.size w w' → w'.cell? (ad.add (0 * 1)) = some (.string (bstr u)) := sl_read hA (i := 0 * 1) (by simp [sv])
    have hA2' := SlAt.rest hA (by omega : r.length + 1 ≤ C)
    obtain ⟨A2, hA2⟩ : ∃ A2, A2 = (if C = 1 then some ad else (some ad).map (·.add (1 * 1))) := ⟨_, rfl⟩
    rw [← hA2] at hA2'
    generalize hf : S l cs k = f at *
    have hpk : ∀ p r2, pcs (u :: r) = p :: pcs r2 → l[k]? = some p ∧ pcs r2 = l.drop (k + 1) ∧ k < l.length := fun p r2 e => by
      rw [hq] at e
      have hlt : k < l.length := by
        rcases Nat.lt_or_ge k l.length with h1 | h1
        · exact h1
        · rw [List.drop_eq_nil_of_le h1] at e; cases e
      rw [List.drop_eq_getElem_cons hlt] at e
      simp only [List.cons.injEq] at e
      exact ⟨by rw [List.getElem?_eq_getElem hlt, e.1], e.2.symm, hlt⟩
    rcases FtP.pcs_head u r with ⟨hE, v, r', rfl, hpc⟩ | ⟨hE, hpc⟩
    · obtain ⟨hp, hdr, hklt⟩ := hpk _ _ hpc
      obtain ⟨ad2, rfl⟩ := SlAt.some hA2' (by simp [sv])
      have hcv : ∀ w', Below w.heap.size w w' → w'.cell? (ad2.add (0 * 1)) = some (.string (bstr v)) := sl_read hA2' (i := 0 * 1) (by simp [sv])
      have hsl := SlAt.rest hA2' (C := C - 1) (by simp at hmr; omega)
      obtain ⟨A3, hA3⟩ : ∃ A3, A3 = (if C - 1 = 1 then some ad2 else (some ad2).map (·.add (1 * 1))) := ⟨_, rfl⟩
      rw [← hA3] at hsl
      have hmr2 : m = r'.length + 2 := by simp at hmr; omega
      obtain ⟨hu126, hv⟩ : u = [126] ∧ (v = [63] ∨ v = [42] ∨ v = [126]) := by
        have h1 : (decide (u = [126]) && FtP.esc v) = true := hE
        simp only [Bool.and_eq_true, decide_eq_true_eq, FtP.esc, Bool.or_eq_true] at h1
        exact ⟨h1.1, by rcases h1.2 with (h | h) | h <;> simp [h]⟩
      subst hu126
      have hfit : ∀ c', FtP.Pc.fits (.ch v) c' = (decide (v = c') || (decide (v = [63]) && !true)) := fun c' => by simp [FtP.Pc.fits]
      have hpm : FtP.Pc.isMany (.ch v) = false := rfl
      rcases hv with rfl | rfl | rfl
      · generalize FtP.Pc.ch [63] = p at *
        repeat' (first | refine yX ?_ | (apply And.intro <;> intro _) | apply bothI | refine retB fun β => ?_ | intro βe | refine yO (x_len hu) ?_ | refine yO (x_len hub) ?_ | refine yN (j := 0) hu hsz ?_ | refine yO (v := .str [126]) (x_load1 (fun w => Tryd.isAgg9 w) (fun w' hb β => hcu w' hb)) ?_ | refine yO (x_fromE (j := 1) hA2 rfl hu hsz (by omega)) ?_ | refine yO (v := .str [63]) (x_load1 (fun w => Tryd.isAgg9 w) (fun w' hb β => hcv w' hb)) ?_ | refine yO (x_fromE (j := 1) hA3 rfl hu hsz (by omega)) ?_ | (refine opx_make (m := cs.length + 1) rfl (by omega) rfl rfl hub hi hz0 hz1 rfl (by rw [hz2]; omega) (by unfold maxLen; omega) (fun g2 => ?_)) | exact trivial)
        all_goals first | (exfalso; omega) | skip
        refine yZ (T := {i : Nat // i ≤ cs.length}) (fun t => ⟨[(0, .any (.slice A3 (m - 1 - 1) (C - 1 - 1))), (1, .any (.slice B cs.length cB)), (5, .any (.slice (some ⟨g, 0, none⟩) (cs.length + 1) cap)), (6, .any (.slice (some ⟨g2, 0, none⟩) (cs.length + 1) (cs.length + 1))), (7, .str [63]), (8, .lit true), (85, .int .i64 (cs.length : Nat)), (86, .int .i64 (t.1 : Nat))], [(1, true, .blob (OwnS 4 1 g2 (cs.length + 1) (cs.length + 1) (bv (nfB f (fitC cs p) t.1) (cs.length + 1)))), (0, true, .blob (OwnS 4 1 g (cs.length + 1) cap (bv f (cs.length + 1))))], 2, 120⟩) (fun t => cs.length - t.1) ⟨0, Nat.zero_le _⟩ [] [] (fun t I2 hI2 => ?_) (by ((with_reducible show wk _ _); repeat' (first | exact trivial | exact eqSV_refl _ | refine eqI ?_ | refine eqS ?_ | apply And.intro | exact yV | fail)); all_goals first | exact fun b x h => h | exact fun b x h => by rw [← nfB_zero]; exact h)
        obtain ⟨i, hin⟩ := t
        dsimp only at hin ⊢
        by_cases hlt : i < cs.length
        · obtain ⟨c', hc'⟩ : ∃ c', cs[i]? = some c' := ⟨cs[i], List.getElem?_eq_getElem hlt⟩
          obtain ⟨adB, rfl⟩ := SlAt.some hB (fun e => by have := congrArg List.length e; simp [FtP.sv] at this; simp [this] at hlt)
          have hcB := sl_read hB (FtP.sv_get hc')
          have hfi : fitC cs p i = (decide ([63] = c') || (decide (([63] : List UInt8) = [63]) && !true)) := by unfold fitC; rw [hc']; exact hfit c'
          have hset := nfB_set (f := f) (q := fitC cs p) (i := i) (n := cs.length + 1)
          have hkeep := nfB_keep (f := f) (q := fitC cs p) (i := i) (n := cs.length + 1)
          have hfb := bv_get (f := f) (n := cs.length + 1) (i := i) (by omega)
          repeat' (first | refine yX ?_ | (apply And.intro <;> intro _) | apply bothI | refine retB fun β => ?_ | intro βe | refine yO (x_len hu) ?_ | refine yN (j := i) hub hsb ?_ | refine yN (j := i) hu hsz ?_ | refine yN (j := i + 1) hub hsb ?_ | refine yO (v := .bool (f i)) (x_loadO 0 (.bool (f i)) (fun w => Tryd.isAgg4 w) rfl (fun β => by rw [Nat.mul_one]; exact hfb)) ?_ | refine yO (v := .str c') (x_load1 (fun w => Tryd.isAgg9 w) (fun w' hb β => by rw [Nat.mul_one]; exact hcB w' hb)) ?_ | (refine opx_store env_ok 1 (p := (i + 1) * 1) (v := .lit true) (u := .bool true) rfl rfl rfl rfl (fun β => rfl) rfl rfl (by omega) ?_) | exact trivial)
          all_goals first | (exfalso; omega) | (refine hI2 _ ⟨i + 1, by omega⟩ (by dsimp only; omega) (by ((with_reducible show wk _ _); repeat' (first | exact trivial | exact eqSV_refl _ | refine eqI ?_ | refine eqS ?_ | apply And.intro | exact yV | fail)); all_goals first | exact fun b x h => h | (intro b x h; rw [hset] at h; (· exact h); (· assumption); (· rw [hfi]; simp [*])) | (intro b x h; rw [hkeep] at h; (· exact h); (· intro hh; obtain ⟨z1, z2⟩ := hh; rw [hfi] at z2; first | (exact absurd (z1.symm.trans (by assumption : f i = false)) (by decide)) | (simp only [Bool.or_eq_true, Bool.and_eq_true, decide_eq_true_eq] at z2; rcases z2 with z2 | ⟨z2, z3⟩; (· contradiction); (· first | contradiction | exact absurd z3 (by decide)))))); done) | trace_state
        · obtain rfl : i = cs.length := by omega
          repeat' (first | refine yX ?_ | (apply And.intro <;> intro _) | apply bothI | refine retB fun β => ?_ | intro βe | refine yO (x_len hu) ?_ | exact trivial)
          all_goals first | (exfalso; omega) | skip
          refine back_take1 0 1 rfl rfl (Nat.zero_le _) rfl ?_
          refine hI _ ⟨(k + 1, r', A3, m - 1 - 1, C - 1 - 1, g2, cs.length + 1), hdr, by dsimp only; omega, hsl, by dsimp only; omega, by dsimp only; omega, by dsimp only; omega⟩ (by dsimp only; omega) (by ((with_reducible show wk _ _); repeat' (first | exact trivial | exact eqSV_refl _ | refine eqI ?_ | refine eqS ?_ | apply And.intro | exact yV | fail)); all_goals first | exact fun b x h => h | exact fun b x h => by dsimp only; rw [← nfB_end hp hpm, hf]; exact h)
      · generalize FtP.Pc.ch [42] = p at *
        repeat' (first | refine yX ?_ | (apply And.intro <;> intro _) | apply bothI | refine retB fun β => ?_ | intro βe | refine yO (x_len hu) ?_ | refine yO (x_len hub) ?_ | refine yN (j := 0) hu hsz ?_ | refine yO (v := .str [126]) (x_load1 (fun w => Tryd.isAgg9 w) (fun w' hb β => hcu w' hb)) ?_ | refine yO (x_fromE (j := 1) hA2 rfl hu hsz (by omega)) ?_ | refine yO (v := .str [42]) (x_load1 (fun w => Tryd.isAgg9 w) (fun w' hb β => hcv w' hb)) ?_ | refine yO (x_fromE (j := 1) hA3 rfl hu hsz (by omega)) ?_ | (refine opx_make (m := cs.length + 1) rfl (by omega) rfl rfl hub hi hz0 hz1 rfl (by rw [hz2]; omega) (by unfold maxLen; omega) (fun g2 => ?_)) | exact trivial)
        all_goals first | (exfalso; omega) | skip
        refine yZ (T := {i : Nat // i ≤ cs.length}) (fun t => ⟨[(0, .any (.slice A3 (m - 1 - 1) (C - 1 - 1))), (1, .any (.slice B cs.length cB)), (5, .any (.slice (some ⟨g, 0, none⟩) (cs.length + 1) cap)), (6, .any (.slice (some ⟨g2, 0, none⟩) (cs.length + 1) (cs.length + 1))), (7, .str [42]), (8, .lit true), (85, .int .i64 (cs.length : Nat)), (86, .int .i64 (t.1 : Nat))], [(1, true, .blob (OwnS 4 1 g2 (cs.length + 1) (cs.length + 1) (bv (nfB f (fitC cs p) t.1) (cs.length + 1)))), (0, true, .blob (OwnS 4 1 g (cs.length + 1) cap (bv f (cs.length + 1))))], 2, 120⟩) (fun t => cs.length - t.1) ⟨0, Nat.zero_le _⟩ [] [] (fun t I2 hI2 => ?_) (by ((with_reducible show wk _ _); repeat' (first | exact trivial | exact eqSV_refl _ | refine eqI ?_ | refine eqS ?_ | apply And.intro | exact yV | fail)); all_goals first | exact fun b x h => h | exact fun b x h => by rw [← nfB_zero]; exact h)
        obtain ⟨i, hin⟩ := t
        dsimp only at hin ⊢
        by_cases hlt : i < cs.length
        · obtain ⟨c', hc'⟩ : ∃ c', cs[i]? = some c' := ⟨cs[i], List.getElem?_eq_getElem hlt⟩
          obtain ⟨adB, rfl⟩ := SlAt.some hB (fun e => by have := congrArg List.length e; simp [FtP.sv] at this; simp [this] at hlt)
          have hcB := sl_read hB (FtP.sv_get hc')
          have hfi : fitC cs p i = (decide ([42] = c') || (decide (([42] : List UInt8) = [63]) && !true)) := by unfold fitC; rw [hc']; exact hfit c'
          have hset := nfB_set (f := f) (q := fitC cs p) (i := i) (n := cs.length + 1)
          have hkeep := nfB_keep (f := f) (q := fitC cs p) (i := i) (n := cs.length + 1)
          have hfb := bv_get (f := f) (n := cs.length + 1) (i := i) (by omega)
          repeat' (first | refine yX ?_ | (apply And.intro <;> intro _) | apply bothI | refine retB fun β => ?_ | intro βe | refine yO (x_len hu) ?_ | refine yN (j := i) hub hsb ?_ | refine yN (j := i) hu hsz ?_ | refine yN (j := i + 1) hub hsb ?_ | refine yO (v := .bool (f i)) (x_loadO 0 (.bool (f i)) (fun w => Tryd.isAgg4 w) rfl (fun β => by rw [Nat.mul_one]; exact hfb)) ?_ | refine yO (v := .str c') (x_load1 (fun w => Tryd.isAgg9 w) (fun w' hb β => by rw [Nat.mul_one]; exact hcB w' hb)) ?_ | (refine opx_store env_ok 1 (p := (i + 1) * 1) (v := .lit true) (u := .bool true) rfl rfl rfl rfl (fun β => rfl) rfl rfl (by omega) ?_) | exact trivial)
          all_goals first | (exfalso; omega) | (refine hI2 _ ⟨i + 1, by omega⟩ (by dsimp only; omega) (by ((with_reducible show wk _ _); repeat' (first | exact trivial | exact eqSV_refl _ | refine eqI ?_ | refine eqS ?_ | apply And.intro | exact yV | fail)); all_goals first | exact fun b x h => h | (intro b x h; rw [hset] at h; (· exact h); (· assumption); (· rw [hfi]; simp [*])) | (intro b x h; rw [hkeep] at h; (· exact h); (· intro hh; obtain ⟨z1, z2⟩ := hh; rw [hfi] at z2; first | (exact absurd (z1.symm.trans (by assumption : f i = false)) (by decide)) | (simp only [Bool.or_eq_true, Bool.and_eq_true, decide_eq_true_eq] at z2; rcases z2 with z2 | ⟨z2, z3⟩; (· contradiction); (· first | contradiction | exact absurd z3 (by decide)))))); done) | trace_state
        · obtain rfl : i = cs.length := by omega
          repeat' (first | refine yX ?_ | (apply And.intro <;> intro _) | apply bothI | refine retB fun β => ?_ | intro βe | refine yO (x_len hu) ?_ | exact trivial)
          all_goals first | (exfalso; omega) | skip
          refine back_take1 0 1 rfl rfl (Nat.zero_le _) rfl ?_
          refine hI _ ⟨(k + 1, r', A3, m - 1 - 1, C - 1 - 1, g2, cs.length + 1), hdr, by dsimp only; omega, hsl, by dsimp only; omega, by dsimp only; omega, by dsimp only; omega⟩ (by dsimp only; omega) (by ((with_reducible show wk _ _); repeat' (first | exact trivial | exact eqSV_refl _ | refine eqI ?_ | refine eqS ?_ | apply And.intro | exact yV | fail)); all_goals first | exact fun b x h => h | exact fun b x h => by dsimp only; rw [← nfB_end hp hpm, hf]; exact h)
      · generalize FtP.Pc.ch [126] = p at *
        repeat' (first | refine yX ?_ | (apply And.intro <;> intro _) | apply bothI | refine retB fun β => ?_ | intro βe | refine yO (x_len hu) ?_ | refine yO (x_len hub) ?_ | refine yN (j := 0) hu hsz ?_ | refine yO (v := .str [126]) (x_load1 (fun w => Tryd.isAgg9 w) (fun w' hb β => hcu w' hb)) ?_ | refine yO (x_fromE (j := 1) hA2 rfl hu hsz (by omega)) ?_ | refine yO (v := .str [126]) (x_load1 (fun w => Tryd.isAgg9 w) (fun w' hb β => hcv w' hb)) ?_ | refine yO (x_fromE (j := 1) hA3 rfl hu hsz (by omega)) ?_ | (refine opx_make (m := cs.length + 1) rfl (by omega) rfl rfl hub hi hz0 hz1 rfl (by rw [hz2]; omega) (by unfold maxLen; omega) (fun g2 => ?_)) | exact trivial)
        all_goals first | (exfalso; omega) | skip
        refine yZ (T := {i : Nat // i ≤ cs.length}) (fun t => ⟨[(0, .any (.slice A3 (m - 1 - 1) (C - 1 - 1))), (1, .any (.slice B cs.length cB)), (5, .any (.slice (some ⟨g, 0, none⟩) (cs.length + 1) cap)), (6, .any (.slice (some ⟨g2, 0, none⟩) (cs.length + 1) (cs.length + 1))), (7, .str [126]), (8, .lit true), (85, .int .i64 (cs.length : Nat)), (86, .int .i64 (t.1 : Nat))], [(1, true, .blob (OwnS 4 1 g2 (cs.length + 1) (cs.length + 1) (bv (nfB f (fitC cs p) t.1) (cs.length + 1)))), (0, true, .blob (OwnS 4 1 g (cs.length + 1) cap (bv f (cs.length + 1))))], 2, 120⟩) (fun t => cs.length - t.1) ⟨0, Nat.zero_le _⟩ [] [] (fun t I2 hI2 => ?_) (by ((with_reducible show wk _ _); repeat' (first | exact trivial | exact eqSV_refl _ | refine eqI ?_ | refine eqS ?_ | apply And.intro | exact yV | fail)); all_goals first | exact fun b x h => h | exact fun b x h => by rw [← nfB_zero]; exact h)
        obtain ⟨i, hin⟩ := t
        dsimp only at hin ⊢
        by_cases hlt : i < cs.length
        · obtain ⟨c', hc'⟩ : ∃ c', cs[i]? = some c' := ⟨cs[i], List.getElem?_eq_getElem hlt⟩
          obtain ⟨adB, rfl⟩ := SlAt.some hB (fun e => by have := congrArg List.length e; simp [FtP.sv] at this; simp [this] at hlt)
          have hcB := sl_read hB (FtP.sv_get hc')
          have hfi : fitC cs p i = (decide ([126] = c') || (decide (([126] : List UInt8) = [63]) && !true)) := by unfold fitC; rw [hc']; exact hfit c'
          have hset := nfB_set (f := f) (q := fitC cs p) (i := i) (n := cs.length + 1)
          have hkeep := nfB_keep (f := f) (q := fitC cs p) (i := i) (n := cs.length + 1)
          have hfb := bv_get (f := f) (n := cs.length + 1) (i := i) (by omega)
          repeat' (first | refine yX ?_ | (apply And.intro <;> intro _) | apply bothI | refine retB fun β => ?_ | intro βe | refine yO (x_len hu) ?_ | refine yN (j := i) hub hsb ?_ | refine yN (j := i) hu hsz ?_ | refine yN (j := i + 1) hub hsb ?_ | refine yO (v := .bool (f i)) (x_loadO 0 (.bool (f i)) (fun w => Tryd.isAgg4 w) rfl (fun β => by rw [Nat.mul_one]; exact hfb)) ?_ | refine yO (v := .str c') (x_load1 (fun w => Tryd.isAgg9 w) (fun w' hb β => by rw [Nat.mul_one]; exact hcB w' hb)) ?_ | (refine opx_store env_ok 1 (p := (i + 1) * 1) (v := .lit true) (u := .bool true) rfl rfl rfl rfl (fun β => rfl) rfl rfl (by omega) ?_) | exact trivial)
          all_goals first | (exfalso; omega) | (refine hI2 _ ⟨i + 1, by omega⟩ (by dsimp only; omega) (by ((with_reducible show wk _ _); repeat' (first | exact trivial | exact eqSV_refl _ | refine eqI ?_ | refine eqS ?_ | apply And.intro | exact yV | fail)); all_goals first | exact fun b x h => h | (intro b x h; rw [hset] at h; (· exact h); (· assumption); (· rw [hfi]; simp [*])) | (intro b x h; rw [hkeep] at h; (· exact h); (· intro hh; obtain ⟨z1, z2⟩ := hh; rw [hfi] at z2; first | (exact absurd (z1.symm.trans (by assumption : f i = false)) (by decide)) | (simp only [Bool.or_eq_true, Bool.and_eq_true, decide_eq_true_eq] at z2; rcases z2 with z2 | ⟨z2, z3⟩; (· contradiction); (· first | contradiction | exact absurd z3 (by decide)))))); done) | trace_state
        · obtain rfl : i = cs.length := by omega
          repeat' (first | refine yX ?_ | (apply And.intro <;> intro _) | apply bothI | refine retB fun β => ?_ | intro βe | refine yO (x_len hu) ?_ | exact trivial)
          all_goals first | (exfalso; omega) | skip
          refine back_take1 0 1 rfl rfl (Nat.zero_le _) rfl ?_
          refine hI _ ⟨(k + 1, r', A3, m - 1 - 1, C - 1 - 1, g2, cs.length + 1), hdr, by dsimp only; omega, hsl, by dsimp only; omega, by dsimp only; omega, by dsimp only; omega⟩ (by dsimp only; omega) (by ((with_reducible show wk _ _); repeat' (first | exact trivial | exact eqSV_refl _ | refine eqI ?_ | refine eqS ?_ | apply And.intro | exact yV | fail)); all_goals first | exact fun b x h => h | exact fun b x h => by dsimp only; rw [← nfB_end hp hpm, hf]; exact h)
    · obtain ⟨hp, hdr, hklt⟩ := hpk _ _ hpc
      have hsl := hA2'
      by_cases hu42 : u = [42]
      · subst hu42
        have hpm : (pc1 [42]).isMany = true := rfl
        generalize pc1 [42] = p at *
        repeat' (first | refine yX ?_ | (apply And.intro <;> intro _) | apply bothI | refine retB fun β => ?_ | intro βe | refine yO (x_len hu) ?_ | refine yO (x_len hub) ?_ | refine yN (j := 0) hu hsz ?_ | refine yO (v := .str [42]) (x_load1 (fun w => Tryd.isAgg9 w) (fun w' hb β => hcu w' hb)) ?_ | refine yO (x_fromE (j := 1) hA2 rfl hu hsz (by omega)) ?_ | refine yO (v := .str [42]) (x_load1 (fun w => Tryd.isAgg9 w) (fun w' hb β => hcv w' hb)) ?_ | refine yO (x_fromE (j := 1) hA3 rfl hu hsz (by omega)) ?_ | (refine opx_make (m := cs.length + 1) rfl (by omega) rfl rfl hub hi hz0 hz1 rfl (by rw [hz2]; omega) (by unfold maxLen; omega) (fun g2 => ?_)) | exact trivial)
        all_goals first | (exfalso; omega) | (exfalso; contradiction) | skip
        have hsm0 : sm f 0 = false := rfl
        refine yZ (T := {i : Nat // i ≤ cs.length + 1}) (fun t => ⟨[(0, .any (.slice A2 (m - 1) (C - 1))), (1, .any (.slice B cs.length cB)), (5, .any (.slice (some ⟨g, 0, none⟩) (cs.length + 1) cap)), (6, .any (.slice (some ⟨g2, 0, none⟩) (cs.length + 1) (cs.length + 1))), (9, .bool (sm f t.1)), (68, .int .i64 ((cs.length + 1 : Nat) : Int)), (69, .int .i64 (t.1 : Nat))], [(1, true, .blob (OwnS 4 1 g2 (cs.length + 1) (cs.length + 1) (bv (nfA f t.1) (cs.length + 1)))), (0, true, .blob (OwnS 4 1 g (cs.length + 1) cap (bv f (cs.length + 1))))], 2, 120⟩) (fun t => cs.length + 1 - t.1) ⟨0, Nat.zero_le _⟩ [] [] (fun t I2 hI2 => ?_) (by ((with_reducible show wk _ _); repeat' (first | exact trivial | exact eqSV_refl _ | refine eqI ?_ | refine eqS ?_ | apply And.intro | exact yV | fail)); all_goals first | exact fun b x h => h | exact fun b x h => by rw [← nfA_zero]; exact h)
        obtain ⟨i, hin⟩ := t
        dsimp only at hin ⊢
        by_cases hlt : i < cs.length + 1
        · have hfb := bv_get (f := f) (n := cs.length + 1) (i := i) hlt
          have hs1 : sm f i = true → sm f (i + 1) = true := fun h => by unfold sm; rw [h]; rfl
          have hs0 : sm f i = false → sm f (i + 1) = f i := fun h => by unfold sm; rw [h]; rfl
          have hset := fun b => nfA_set (f := f) (i := i) (n := cs.length + 1) (b := b)
          repeat' (first | refine yX ?_ | (apply And.intro <;> intro _) | apply bothI | refine retB fun β => ?_ | intro βe | refine yO (x_len hub) ?_ | refine yN (j := i) hub hsb ?_ | refine yO (v := .bool (f i)) (x_loadO 0 (.bool (f i)) (fun w => Tryd.isAgg4 w) rfl (fun β => by rw [Nat.mul_one]; exact hfb)) ?_ | (refine opx_store env_ok 1 (p := i * 1) (v := .lit true) (u := .bool true) rfl rfl rfl rfl (fun β => rfl) rfl rfl (by omega) ?_) | (refine opx_store env_ok 1 (p := i * 1) (v := .bool (f i)) (u := .bool (f i)) rfl rfl rfl rfl (fun β => rfl) rfl rfl (by omega) ?_) | (refine opx_store env_ok 1 (p := i * 1) (v := .bool (sm f i)) (u := .bool (sm f i)) rfl rfl rfl rfl (fun β => rfl) rfl rfl (by omega) ?_) | exact trivial)
          all_goals first | (exfalso; omega) | (have hq := hs1 (by assumption); refine hI2 _ ⟨i + 1, by omega⟩ (by dsimp only; omega) (by ((with_reducible show wk _ _); repeat' (first | exact trivial | exact eqSV_refl _ | refine eqI ?_ | refine eqS ?_ | apply And.intro | exact yV | fail)); all_goals first | exact fun b x h => h | (intro b x h; rw [hset true hq.symm] at h; exact h)); done) | (have hq := hs0 (by assumption); refine hI2 _ ⟨i + 1, by omega⟩ (by dsimp only; omega) (by ((with_reducible show wk _ _); repeat' (first | exact trivial | exact eqSV_refl _ | refine eqI ?_ | refine eqS ?_ | apply And.intro | exact yV | fail)); all_goals first | exact fun b x h => h | (intro b x h; rw [hset (f i) hq.symm] at h; exact h)); done) | trace_state
        · obtain rfl : i = cs.length + 1 := by omega
          repeat' (first | refine yX ?_ | (apply And.intro <;> intro _) | apply bothI | refine retB fun β => ?_ | intro βe | refine yO (x_len hub) ?_ | exact trivial)
          all_goals first | (exfalso; omega) | skip
          refine back_take1 0 1 rfl rfl (Nat.zero_le _) rfl ?_
          refine hI _ ⟨(k + 1, r, A2, m - 1, C - 1, g2, cs.length + 1), hdr, by dsimp only; omega, hsl, by dsimp only; omega, by dsimp only; omega, by dsimp only; omega⟩ (by dsimp only; omega) (by ((with_reducible show wk _ _); repeat' (first | exact trivial | exact eqSV_refl _ | refine eqI ?_ | refine eqS ?_ | apply And.intro | exact yV | fail)); all_goals first | exact fun b x h => h | exact fun b x h => by dsimp only; rw [← nfA_end hp hpm, hf]; exact h)
      have hfit : ∀ c', (pc1 u).fits c' = (decide (u = c') || (decide (u = [63]) && !false)) := fun c' => by
        unfold pc1
        by_cases h63 : u = [63]
        · rw [if_pos h63]; simp [h63, FtP.Pc.fits]
        · rw [if_neg h63, if_neg hu42]; simp [h63, FtP.Pc.fits]
      have hpm : (pc1 u).isMany = false := by
        unfold pc1
        by_cases h63 : u = [63]
        · rw [if_pos h63]; rfl
        · rw [if_neg h63, if_neg hu42]; rfl
      generalize pc1 u = p at *
      by_cases hu126 : u = [126]
      · subst hu126
        rcases r with _ | ⟨v, r'⟩
        · have hm1' : m = 1 := hmr
          repeat' (first | refine yX ?_ | (apply And.intro <;> intro _) | apply bothI | refine retB fun β => ?_ | intro βe | refine yO (x_len hu) ?_ | refine yO (x_len hub) ?_ | refine yN (j := 0) hu hsz ?_ | refine yO (v := .str [126]) (x_load1 (fun w => Tryd.isAgg9 w) (fun w' hb β => hcu w' hb)) ?_ | refine yO (x_fromE (j := 1) hA2 rfl hu hsz (by omega)) ?_ | refine yO (v := .str [126]) (x_load1 (fun w => Tryd.isAgg9 w) (fun w' hb β => hcv w' hb)) ?_ | refine yO (x_fromE (j := 1) hA3 rfl hu hsz (by omega)) ?_ | (refine opx_make (m := cs.length + 1) rfl (by omega) rfl rfl hub hi hz0 hz1 rfl (by rw [hz2]; omega) (by unfold maxLen; omega) (fun g2 => ?_)) | exact trivial)
          all_goals first | (exfalso; omega) | (exfalso; contradiction) | skip
          refine yZ (T := {i : Nat // i ≤ cs.length}) (fun t => ⟨[(0, .any (.slice A2 (m - 1) (C - 1))), (1, .any (.slice B cs.length cB)), (5, .any (.slice (some ⟨g, 0, none⟩) (cs.length + 1) cap)), (6, .any (.slice (some ⟨g2, 0, none⟩) (cs.length + 1) (cs.length + 1))), (7, .str [126]), (8, .lit false), (85, .int .i64 (cs.length : Nat)), (86, .int .i64 (t.1 : Nat))], [(1, true, .blob (OwnS 4 1 g2 (cs.length + 1) (cs.length + 1) (bv (nfB f (fitC cs p) t.1) (cs.length + 1)))), (0, true, .blob (OwnS 4 1 g (cs.length + 1) cap (bv f (cs.length + 1))))], 2, 120⟩) (fun t => cs.length - t.1) ⟨0, Nat.zero_le _⟩ [] [] (fun t I2 hI2 => ?_) (by ((with_reducible show wk _ _); repeat' (first | exact trivial | exact eqSV_refl _ | refine eqI ?_ | refine eqS ?_ | apply And.intro | exact yV | fail)); all_goals first | exact fun b x h => h | exact fun b x h => by rw [← nfB_zero]; exact h)
          obtain ⟨i, hin⟩ := t
          dsimp only at hin ⊢
          by_cases hlt : i < cs.length
          · obtain ⟨c', hc'⟩ : ∃ c', cs[i]? = some c' := ⟨cs[i], List.getElem?_eq_getElem hlt⟩
            obtain ⟨adB, rfl⟩ := SlAt.some hB (fun e => by have := congrArg List.length e; simp [FtP.sv] at this; simp [this] at hlt)
            have hcB := sl_read hB (FtP.sv_get hc')
            have hfi : fitC cs p i = (decide ([126] = c') || (decide (([126] : List UInt8) = [63]) && !false)) := by unfold fitC; rw [hc']; exact hfit c'
            have hset := nfB_set (f := f) (q := fitC cs p) (i := i) (n := cs.length + 1)
            have hkeep := nfB_keep (f := f) (q := fitC cs p) (i := i) (n := cs.length + 1)
            have hfb := bv_get (f := f) (n := cs.length + 1) (i := i) (by omega)
            repeat' (first | refine yX ?_ | (apply And.intro <;> intro _) | apply bothI | refine retB fun β => ?_ | intro βe | refine yO (x_len hu) ?_ | refine yN (j := i) hub hsb ?_ | refine yN (j := i) hu hsz ?_ | refine yN (j := i + 1) hub hsb ?_ | refine yO (v := .bool (f i)) (x_loadO 0 (.bool (f i)) (fun w => Tryd.isAgg4 w) rfl (fun β => by rw [Nat.mul_one]; exact hfb)) ?_ | refine yO (v := .str c') (x_load1 (fun w => Tryd.isAgg9 w) (fun w' hb β => by rw [Nat.mul_one]; exact hcB w' hb)) ?_ | (refine opx_store env_ok 1 (p := (i + 1) * 1) (v := .lit true) (u := .bool true) rfl rfl rfl rfl (fun β => rfl) rfl rfl (by omega) ?_) | exact trivial)
            all_goals first | (exfalso; omega) | (refine hI2 _ ⟨i + 1, by omega⟩ (by dsimp only; omega) (by ((with_reducible show wk _ _); repeat' (first | exact trivial | exact eqSV_refl _ | refine eqI ?_ | refine eqS ?_ | apply And.intro | exact yV | fail)); all_goals first | exact fun b x h => h | (intro b x h; rw [hset] at h; (· exact h); (· assumption); (· rw [hfi]; simp [*])) | (intro b x h; rw [hkeep] at h; (· exact h); (· intro hh; obtain ⟨z1, z2⟩ := hh; rw [hfi] at z2; first | (exact absurd (z1.symm.trans (by assumption : f i = false)) (by decide)) | (simp only [Bool.or_eq_true, Bool.and_eq_true, decide_eq_true_eq] at z2; rcases z2 with z2 | ⟨z2, z3⟩; (· contradiction); (· first | contradiction | exact absurd z3 (by decide)))))); done) | trace_state
          · obtain rfl : i = cs.length := by omega
            repeat' (first | refine yX ?_ | (apply And.intro <;> intro _) | apply bothI | refine retB fun β => ?_ | intro βe | refine yO (x_len hu) ?_ | exact trivial)
            all_goals first | (exfalso; omega) | skip
            refine back_take1 0 1 rfl rfl (Nat.zero_le _) rfl ?_
            refine hI _ ⟨(k + 1, ([] : List FtP.Str), A2, m - 1, C - 1, g2, cs.length + 1), hdr, by dsimp only; omega, hsl, by dsimp only; omega, by dsimp only; omega, by dsimp only; omega⟩ (by dsimp only; omega) (by ((with_reducible show wk _ _); repeat' (first | exact trivial | exact eqSV_refl _ | refine eqI ?_ | refine eqS ?_ | apply And.intro | exact yV | fail)); all_goals first | exact fun b x h => h | exact fun b x h => by dsimp only; rw [← nfB_end hp hpm, hf]; exact h)
        · have hesc : FtP.esc v = false := by
            have h1 : (decide (([126] : FtP.Str) = [126]) && FtP.esc v) = false := hE
            simpa using h1
          simp only [FtP.esc, Bool.or_eq_false_iff, decide_eq_false_iff_not] at hesc
          obtain ⟨⟨hv63, hv42⟩, hv126⟩ := hesc
          obtain ⟨ad2, rfl⟩ := SlAt.some hA2' (by simp [sv])
          have hcv : ∀ w', Below w.heap.size w w' → w'.cell? (ad2.add (0 * 1)) = some (.string (bstr v)) := sl_read hA2' (i := 0 * 1) (by simp [sv])
          have hmr2 : m = r'.length + 2 := by simp at hmr; omega
          have hrl : (v :: r').length = r'.length + 1 := rfl
          repeat' (first | refine yX ?_ | (apply And.intro <;> intro _) | apply bothI | refine retB fun β => ?_ | intro βe | refine yO (x_len hu) ?_ | refine yO (x_len hub) ?_ | refine yN (j := 0) hu hsz ?_ | refine yO (v := .str [126]) (x_load1 (fun w => Tryd.isAgg9 w) (fun w' hb β => hcu w' hb)) ?_ | refine yO (x_fromE (j := 1) hA2 rfl hu hsz (by omega)) ?_ | refine yO (v := .str v) (x_load1 (fun w => Tryd.isAgg9 w) (fun w' hb β => hcv w' hb)) ?_ | refine yO (x_fromE (j := 1) hA3 rfl hu hsz (by omega)) ?_ | (refine opx_make (m := cs.length + 1) rfl (by omega) rfl rfl hub hi hz0 hz1 rfl (by rw [hz2]; omega) (by unfold maxLen; omega) (fun g2 => ?_)) | exact trivial)
          all_goals first | (exfalso; omega) | (exfalso; contradiction) | skip
          refine yZ (T := {i : Nat // i ≤ cs.length}) (fun t => ⟨[(0, .any (.slice (some ad2) (m - 1) (C - 1))), (1, .any (.slice B cs.length cB)), (5, .any (.slice (some ⟨g, 0, none⟩) (cs.length + 1) cap)), (6, .any (.slice (some ⟨g2, 0, none⟩) (cs.length + 1) (cs.length + 1))), (7, .str [126]), (8, .lit false), (85, .int .i64 (cs.length : Nat)), (86, .int .i64 (t.1 : Nat))], [(1, true, .blob (OwnS 4 1 g2 (cs.length + 1) (cs.length + 1) (bv (nfB f (fitC cs p) t.1) (cs.length + 1)))), (0, true, .blob (OwnS 4 1 g (cs.length + 1) cap (bv f (cs.length + 1))))], 2, 120⟩) (fun t => cs.length - t.1) ⟨0, Nat.zero_le _⟩ [] [] (fun t I2 hI2 => ?_) (by ((with_reducible show wk _ _); repeat' (first | exact trivial | exact eqSV_refl _ | refine eqI ?_ | refine eqS ?_ | apply And.intro | exact yV | fail)); all_goals first | exact fun b x h => h | exact fun b x h => by rw [← nfB_zero]; exact h)
          obtain ⟨i, hin⟩ := t
          dsimp only at hin ⊢
          by_cases hlt : i < cs.length
          · obtain ⟨c', hc'⟩ : ∃ c', cs[i]? = some c' := ⟨cs[i], List.getElem?_eq_getElem hlt⟩
            obtain ⟨adB, rfl⟩ := SlAt.some hB (fun e => by have := congrArg List.length e; simp [FtP.sv] at this; simp [this] at hlt)
            have hcB := sl_read hB (FtP.sv_get hc')
            have hfi : fitC cs p i = (decide ([126] = c') || (decide (([126] : List UInt8) = [63]) && !false)) := by unfold fitC; rw [hc']; exact hfit c'
            have hset := nfB_set (f := f) (q := fitC cs p) (i := i) (n := cs.length + 1)
            have hkeep := nfB_keep (f := f) (q := fitC cs p) (i := i) (n := cs.length + 1)
            have hfb := bv_get (f := f) (n := cs.length + 1) (i := i) (by omega)
            repeat' (first | refine yX ?_ | (apply And.intro <;> intro _) | apply bothI | refine retB fun β => ?_ | intro βe | refine yO (x_len hu) ?_ | refine yN (j := i) hub hsb ?_ | refine yN (j := i) hu hsz ?_ | refine yN (j := i + 1) hub hsb ?_ | refine yO (v := .bool (f i)) (x_loadO 0 (.bool (f i)) (fun w => Tryd.isAgg4 w) rfl (fun β => by rw [Nat.mul_one]; exact hfb)) ?_ | refine yO (v := .str c') (x_load1 (fun w => Tryd.isAgg9 w) (fun w' hb β => by rw [Nat.mul_one]; exact hcB w' hb)) ?_ | (refine opx_store env_ok 1 (p := (i + 1) * 1) (v := .lit true) (u := .bool true) rfl rfl rfl rfl (fun β => rfl) rfl rfl (by omega) ?_) | exact trivial)
            all_goals first | (exfalso; omega) | (refine hI2 _ ⟨i + 1, by omega⟩ (by dsimp only; omega) (by ((with_reducible show wk _ _); repeat' (first | exact trivial | exact eqSV_refl _ | refine eqI ?_ | refine eqS ?_ | apply And.intro | exact yV | fail)); all_goals first | exact fun b x h => h | (intro b x h; rw [hset] at h; (· exact h); (· assumption); (· rw [hfi]; simp [*])) | (intro b x h; rw [hkeep] at h; (· exact h); (· intro hh; obtain ⟨z1, z2⟩ := hh; rw [hfi] at z2; first | (exact absurd (z1.symm.trans (by assumption : f i = false)) (by decide)) | (simp only [Bool.or_eq_true, Bool.and_eq_true, decide_eq_true_eq] at z2; rcases z2 with z2 | ⟨z2, z3⟩; (· contradiction); (· first | contradiction | exact absurd z3 (by decide)))))); done) | trace_state
          · obtain rfl : i = cs.length := by omega
            repeat' (first | refine yX ?_ | (apply And.intro <;> intro _) | apply bothI | refine retB fun β => ?_ | intro βe | refine yO (x_len hu) ?_ | exact trivial)
            all_goals first | (exfalso; omega) | skip
            refine back_take1 0 1 rfl rfl (Nat.zero_le _) rfl ?_
            refine hI _ ⟨(k + 1, v :: r', some ad2, m - 1, C - 1, g2, cs.length + 1), hdr, by dsimp only; omega, hsl, by dsimp only; omega, by dsimp only; omega, by dsimp only; omega⟩ (by dsimp only; omega) (by ((with_reducible show wk _ _); repeat' (first | exact trivial | exact eqSV_refl _ | refine eqI ?_ | refine eqS ?_ | apply And.intro | exact yV | fail)); all_goals first | exact fun b x h => h | exact fun b x h => by dsimp only; rw [← nfB_end hp hpm, hf]; exact h)
      · repeat' (first | refine yX ?_ | (apply And.intro <;> intro _) | apply bothI | refine retB fun β => ?_ | intro βe | refine yO (x_len hu) ?_ | refine yO (x_len hub) ?_ | refine yN (j := 0) hu hsz ?_ | refine yO (v := .str u) (x_load1 (fun w => Tryd.isAgg9 w) (fun w' hb β => hcu w' hb)) ?_ | refine yO (x_fromE (j := 1) hA2 rfl hu hsz (by omega)) ?_ | refine yO (v := .str u) (x_load1 (fun w => Tryd.isAgg9 w) (fun w' hb β => hcv w' hb)) ?_ | refine yO (x_fromE (j := 1) hA3 rfl hu hsz (by omega)) ?_ | (refine opx_make (m := cs.length + 1) rfl (by omega) rfl rfl hub hi hz0 hz1 rfl (by rw [hz2]; omega) (by unfold maxLen; omega) (fun g2 => ?_)) | exact trivial)
        all_goals first | (exfalso; omega) | (exfalso; contradiction) | skip
        refine yZ (T := {i : Nat // i ≤ cs.length}) (fun t => ⟨[(0, .any (.slice A2 (m - 1) (C - 1))), (1, .any (.slice B cs.length cB)), (5, .any (.slice (some ⟨g, 0, none⟩) (cs.length + 1) cap)), (6, .any (.slice (some ⟨g2, 0, none⟩) (cs.length + 1) (cs.length + 1))), (7, .str u), (8, .lit false), (85, .int .i64 (cs.length : Nat)), (86, .int .i64 (t.1 : Nat))], [(1, true, .blob (OwnS 4 1 g2 (cs.length + 1) (cs.length + 1) (bv (nfB f (fitC cs p) t.1) (cs.length + 1)))), (0, true, .blob (OwnS 4 1 g (cs.length + 1) cap (bv f (cs.length + 1))))], 2, 120⟩) (fun t => cs.length - t.1) ⟨0, Nat.zero_le _⟩ [] [] (fun t I2 hI2 => ?_) (by ((with_reducible show wk _ _); repeat' (first | exact trivial | exact eqSV_refl _ | refine eqI ?_ | refine eqS ?_ | apply And.intro | exact yV | fail)); all_goals first | exact fun b x h => h | exact fun b x h => by rw [← nfB_zero]; exact h)
        obtain ⟨i, hin⟩ := t
        dsimp only at hin ⊢
        by_cases hlt : i < cs.length
        · obtain ⟨c', hc'⟩ : ∃ c', cs[i]? = some c' := ⟨cs[i], List.getElem?_eq_getElem hlt⟩
          obtain ⟨adB, rfl⟩ := SlAt.some hB (fun e => by have := congrArg List.length e; simp [FtP.sv] at this; simp [this] at hlt)
          have hcB := sl_read hB (FtP.sv_get hc')
          have hfi : fitC cs p i = (decide (u = c') || (decide ((u : List UInt8) = [63]) && !false)) := by unfold fitC; rw [hc']; exact hfit c'
          have hset := nfB_set (f := f) (q := fitC cs p) (i := i) (n := cs.length + 1)
          have hkeep := nfB_keep (f := f) (q := fitC cs p) (i := i) (n := cs.length + 1)
          have hfb := bv_get (f := f) (n := cs.length + 1) (i := i) (by omega)
          repeat' (first | refine yX ?_ | (apply And.intro <;> intro _) | apply bothI | refine retB fun β => ?_ | intro βe | refine yO (x_len hu) ?_ | refine yN (j := i) hub hsb ?_ | refine yN (j := i) hu hsz ?_ | refine yN (j := i + 1) hub hsb ?_ | refine yO (v := .bool (f i)) (x_loadO 0 (.bool (f i)) (fun w => Tryd.isAgg4 w) rfl (fun β => by rw [Nat.mul_one]; exact hfb)) ?_ | refine yO (v := .str c') (x_load1 (fun w => Tryd.isAgg9 w) (fun w' hb β => by rw [Nat.mul_one]; exact hcB w' hb)) ?_ | (refine opx_store env_ok 1 (p := (i + 1) * 1) (v := .lit true) (u := .bool true) rfl rfl rfl rfl (fun β => rfl) rfl rfl (by omega) ?_) | exact trivial)
          all_goals first | (exfalso; omega) | (refine hI2 _ ⟨i + 1, by omega⟩ (by dsimp only; omega) (by ((with_reducible show wk _ _); repeat' (first | exact trivial | exact eqSV_refl _ | refine eqI ?_ | refine eqS ?_ | apply And.intro | exact yV | fail)); all_goals first | exact fun b x h => h | (intro b x h; rw [hset] at h; (· exact h); (· assumption); (· rw [hfi]; simp [*])) | (intro b x h; rw [hkeep] at h; (· exact h); (· intro hh; obtain ⟨z1, z2⟩ := hh; rw [hfi] at z2; first | (exact absurd (z1.symm.trans (by assumption : f i = false)) (by decide)) | (simp only [Bool.or_eq_true, Bool.and_eq_true, decide_eq_true_eq] at z2; rcases z2 with z2 | ⟨z2, z3⟩; (· contradiction); (· first | contradiction | exact absurd z3 (by decide)))))); done) | trace_state
        · obtain rfl : i = cs.length := by omega
          repeat' (first | refine yX ?_ | (apply And.intro <;> intro _) | apply bothI | refine retB fun β => ?_ | intro βe | refine yO (x_len hu) ?_ | exact trivial)
          all_goals first | (exfalso; omega) | skip
          refine back_take1 0 1 rfl rfl (Nat.zero_le _) rfl ?_
          refine hI _ ⟨(k + 1, r, A2, m - 1, C - 1, g2, cs.length + 1), hdr, by dsimp only; omega, hsl, by dsimp only; omega, by dsimp only; omega, by dsimp only; omega⟩ (by dsimp only; omega) (by ((with_reducible show wk _ _); repeat' (first | exact trivial | exact eqSV_refl _ | refine eqI ?_ | refine eqS ?_ | apply And.intro | exact yV | fail)); all_goals first | exact fun b x h => h | exact fun b x h => by dsimp only; rw [← nfB_end hp hpm, hf]; exact h)
end Go.Proofs.YtlccmanncfbdkaaDoor
