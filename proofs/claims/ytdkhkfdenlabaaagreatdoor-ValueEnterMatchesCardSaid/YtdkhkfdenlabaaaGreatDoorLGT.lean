/- Values, the reference: SameValue of any two values. Values, the program: items copied; arrays made. Values, the reference: characters. Values, the reference: errors of values. Values, the reference: errors of arrays; every value. Values, the program: values compared (begun). Powers of the reference; mod. Powers of the program's numbers. Powers of the program's fractions. The law of operations. The law of powers. Values, the reference: makers of values. Values, the reference: texts divided. -/
import Derived.Test.YtdkhkfdenlabaaaGreatDoorLGG
import Derived.Test.YtdkhkfdenlabaaaGreatDoorLGS
import Derived.Test.YtdkhkfdenlabaaaGreatDoorLGJ
import Derived.Test.YtdkhkfdenlabaaaGreatDoorLGR
import Derived.Test.YtdkhkfdenlabaaaGreatDoorLGP
import Derived.Test.YtdkhkfdenlabaaaGreatDoorLVaW10
import Derived.Test.YtdkhkfdenlabaaaGreatDoorLGN
import Derived.Test.YtdkhkfdenlabaaaGreatDoorLGM
set_option linter.unusedSimpArgs false
set_option linter.unusedVariables false
set_option maxRecDepth 100000
set_option maxHeartbeats 64000000
namespace Go.Proofs.YtdkhkfdenlabaaaGreatDoor
open Go.RowKit
open Sym
attribute [local irreducible] Calls Sym.AggEq ExP.nd ExP.dig ExP.upd ExP.writeF ExP.writeE
theorem x_neBV {C : Ctx} {G : Blobs} {x y : Operand} {t u : TypeId} {va vb : SV} (a b c : Bool) (ha : ∀ β, va.den β = .bool a) (hb : ∀ β, vb.den β = .bool b) (hc : (a != b) = c) (ht : C.P.underlying t = some .bool) : ExtN C G (.binOp .neq t x y u) [va, vb] (.bool c) := by
 subst hc
 exact x_neBB a b ha hb ht
theorem rsame_step (t o : VaP.VT) (a b : Option Addr) (cap cap' : Nat) (w : World) (ps qs : Nat → Option Addr × Nat) (h1 : ItsIn t.items a ps w) (h2 : ItsIn o.items b qs w) (hl : t.items.length ≤ 9223372036854775807)
  (HG : ∀ i x y, t.items[i]? = some x → o.items[i]? = some y → ∀ w', BW w w' → QC 10 #[vtV x (ps i).1 (ps i).2, vtV y (qs i).1 (qs i).2] w' (.bool (VaP.same x y))) :
  QC 10 #[vtV t a cap, vtV o b cap'] w (.bool (VaP.same t o)) := by
 obtain ⟨hS, hN⟩ := VaP.same_cases t o
 have hLen : t.items.length ≠ o.items.length → VaP.same t o = false := fun h => by
  rw [VaP.same_false]
  intro e
  exact h (by rw [e])
 generalize VaP.same t o = S at *
 obtain ⟨k, ⟨n1, n2⟩, tx, on, cd, rw', cl, its⟩ := t
 obtain ⟨k2, ⟨m1, m2⟩, tx2, on2, cd2, rw2, cl2, its2⟩ := o
 unfold vtV at *
 dsimp only at *
 generalize hn : its.length = L1 at *
 generalize hn2 : its2.length = L2 at *
 obtain ⟨fz, hfz⟩ : ∃ fz, (n1 == m1 && n2 == m2) = fz := ⟨_, rfl⟩
 obtain ⟨oz, hoz⟩ : ∃ oz, (on != on2) = oz := ⟨_, rfl⟩
 have hF : (n1 = m1 ∧ n2 = m2) ↔ fz = true := by rw [← hfz]; simp
 have hO : (on = on2) ↔ oz = false := by rw [← hoz]; simp
 have hA : AggEq Tryz.prog 25 [.str n1, .str n2] [.str m1, .str m2] fz := by rw [← hfz]; exact fracAgg n1 n2 m1 m2
 rw [hF, hO] at hS hN
 refine yE Tryz.func10 rfl Tryz.results10 Tryz.ntmps10 [] [] [.agg [.int .i64 k, .str n1, .str n2, .str tx, .bool on, .int .i64 cd, .int .i64 rw', .int .i64 cl, .any (.slice a L1 cap)], .agg [.int .i64 k2, .str m1, .str m2, .str tx2, .bool on2, .int .i64 cd2, .int .i64 rw2, .int .i64 cl2, .any (.slice b L2 cap')]] w ?_
 repeat' (first | refine yX ?_ | (apply And.intro <;> intro _) | apply bothI | refine retB fun β => ?_ | intro βe | ((with_reducible show ∃ _ : SV, _); first | (refine ⟨.bool oz, ?ok, x_neBV on on2 oz (fun _ => rfl) (fun _ => rfl) hoz Tryz.underlying4, ?_⟩; (case ok => exact fun _ _ => trivial)) | refine yO (x_len Tryz.underlying26) ?_) | ((with_reducible show ∃ _, _); first | (refine ⟨fz, hA, ?_⟩)) | exact trivial)
 all_goals first | (rw [hLen (by omega)]; rfl) | (rw [hN (fun h => by simp_all)]; rfl) | (exfalso; simp_all; done) | skip
 have hS' : S = VaP.sameL its its2 := hS ⟨by omega, by simpa using (by assumption : (!fz) = false), Decidable.not_not.1 (by assumption), by assumption, by omega, by omega, by omega⟩
 have hL : L1 = L2 := by omega
 clear hS hN hA hfz hoz hF hO hLen
 subst hL
 rename_i z1 z2 z3 z4 z5 z6 z7 z8
 clear z1 z2 z3 z4 z5 z6 z7 z8
 refine yZ (T := {i : Nat // i ≤ L1 ∧ its.take i = its2.take i}) (fun t => ⟨[(2, .ptr 0 0), (3, .ptr 1 0), (64, .int .i64 (L1 : Nat)), (65, .int .i64 (t.1 : Nat))], [(0, true, .cells 28 [.int .i64 k, .str n1, .str n2, .str tx, .bool on, .int .i64 cd, .int .i64 rw', .int .i64 cl, .any (.slice a L1 cap)]), (1, true, .cells 28 [.int .i64 k2, .str m1, .str m2, .str tx2, .bool on2, .int .i64 cd2, .int .i64 rw2, .int .i64 cl2, .any (.slice b L1 cap')])], 2, 81⟩) (fun t => L1 - t.1) ⟨0, Nat.zero_le _, by simp⟩ [] [200006] (fun t I hI => ?_)
 obtain ⟨i, hi, ht⟩ := t
 dsimp only
 by_cases hlt : i < L1
 ·obtain ⟨x, hx⟩ : ∃ x, its[i]? = some x := ⟨its[i]'(by omega), List.getElem?_eq_getElem (by omega)⟩
  obtain ⟨y, hy⟩ : ∃ y, its2[i]? = some y := ⟨its2[i]'(by omega), List.getElem?_eq_getElem (by omega)⟩
  obtain ⟨ad, rfl, hld1⟩ := h1.ld hx
  obtain ⟨bd, rfl, hld2⟩ := h2.ld hy
  have C := HG i x y hx hy
  have hF : VaP.same x y = false → S = false := fun h => by
   rw [hS', VaP.sameL_false]
   intro e
   rw [e, hy] at hx
   exact VaP.same_false.1 h (Option.some.inj hx).symm
  have hT : VaP.same x y = true → its.take (i + 1) = its2.take (i + 1) := fun h => by
   obtain rfl := VaP.same_true.1 h
   exact take_more ht hx hy
  clear h1 h2 HG hx hy hS'
  generalize VaP.same x y = Z at *
  generalize (ps i).1 = p1 at *
  generalize (ps i).2 = p2 at *
  generalize (qs i).1 = q1 at *
  generalize (qs i).2 = q2 at *
  obtain ⟨xk, ⟨u1, u2⟩, xt, xo, xc, xr, xl, xi⟩ := x
  obtain ⟨yk, ⟨v1, v2⟩, yt, yo, yc, yr, yl, yi⟩ := y
  dsimp only at *
  generalize xi.length = X1 at *
  generalize yi.length = X2 at *
  repeat' (first | refine yX ?_ | (apply And.intro <;> intro _) | apply bothI | refine retB fun β => ?_ | intro βe | refine yK (.bool Z) (fun β w hm => C w hm.below) ?_ | ((with_reducible show ∃ _ : SV, _); first | refine yO (x_index (j := i) rfl Tryz.underlying26 (fun w => Tryz.sizeOf28 w) (by omega)) ?_ | (refine ⟨_, ?ok, x_loadAgg (vs := [.int .i64 xk, .str u1, .str u2, .str xt, .bool xo, .int .i64 xc, .int .i64 xr, .int .i64 xl, .any (.slice p1 X1 p2)]) (fun w => Tryz.isAgg28 w) (fun w => Tryz.sizeOf28 w) hld1, ?_⟩; (case ok => exact fun _ _ => ⟨trivial, trivial, trivial, trivial, trivial, trivial, trivial, trivial, rfl, trivial⟩)) | (refine ⟨_, ?ok, x_loadAgg (vs := [.int .i64 yk, .str v1, .str v2, .str yt, .bool yo, .int .i64 yc, .int .i64 yr, .int .i64 yl, .any (.slice q1 X2 q2)]) (fun w => Tryz.isAgg28 w) (fun w => Tryz.sizeOf28 w) hld2, ?_⟩; (case ok => exact fun _ _ => ⟨trivial, trivial, trivial, trivial, trivial, trivial, trivial, trivial, rfl, trivial⟩)) | (refine ⟨.bool Z, by kernel_rfl, trivial, fun β w hm => C w hm.below, ?_⟩)) | exact trivial)
  all_goals first | (exfalso; omega) | (rw [hF (by simpa using (by assumption : (!Z) = true))]; rfl) | (refine hI _ ⟨i + 1, by omega, hT (by simpa using (by assumption : (!Z) = false))⟩ (by dsimp only; omega) yW; done) | trace_state
 ·have e : i = L1 := by omega
  subst e
  have hDt : S = true := by
   rw [hS', VaP.sameL_true]
   rwa [List.take_of_length_le (by omega), List.take_of_length_le (by omega)] at ht
  repeat' (first | refine yX ?_ | (apply And.intro <;> intro _) | apply bothI | refine retB fun β => ?_ | intro βe | exact trivial)
  all_goals first | (exfalso; omega) | (rw [hDt]; rfl) | trace_state
theorem rsame_upto : ∀ (n : Nat) (t o : VaP.VT), SizeOf.sizeOf t ≤ n → ∀ (a b : Option Addr) (cap cap' : Nat) (w : World), VIn w t a cap → VIn w o b cap' → QC 10 #[vtV t a cap, vtV o b cap'] w (.bool (VaP.same t o)) := by
 intro n
 induction n with
 | zero =>
   intro t o h
   exfalso
   obtain ⟨k, n, tx, on, cd, r, c, its⟩ := t
   simp only [VaP.VT.mk.sizeOf_spec] at h
   omega
 | succ n ih =>
   intro t o h a b cap cap' w ht ho
   obtain ⟨_, _, _, ps, hf, hc, hn, hi, hs⟩ := ht
   obtain ⟨_, _, _, qs, hf2, hc2, hn2, hi2, hs2⟩ := ho
   refine rsame_step t o a b cap cap' w ps qs hs hs2 hf.it (fun i x y hx hy w'' hb' => ?_)
   have hlt := VaP.item_lt hx
   exact ih x y (by omega) _ _ _ _ w'' ((hi i x hx).lift hb') ((hi2 i y hy).lift hb')
theorem rsame_any (t o : VaP.VT) (a b : Option Addr) (cap cap' : Nat) (w : World) (ht : VIn w t a cap) (ho : VIn w o b cap') : QC 10 #[vtV t a cap, vtV o b cap'] w (.bool (VaP.same t o)) :=
 rsame_upto _ t o (Nat.le_refl _) a b cap cap' w ht ho
def cellsV (l : List VaP.VT) (ps : Nat → Option Addr × Nat) : List Value := (List.range l.length).flatMap fun i => itCells (l.getD i VaP.emptyV) (ps i)
theorem cellsV_len (l : List VaP.VT) (ps : Nat → Option Addr × Nat) : (cellsV l ps).length = l.length * 9 := by
 unfold cellsV
 rw [flat_len (sz := 9) (fun _ => rfl), List.length_range]
theorem cellsV_at {l : List VaP.VT} (ps : Nat → Option Addr × Nat) {i : Nat} {x : VaP.VT} (h : l[i]? = some x) {j : Nat} (hj : j < 9) : (cellsV l ps)[i * 9 + j]? = (itCells x (ps i))[j]? := by
 unfold cellsV
 have hi := (List.getElem?_eq_some_iff.1 h).1
 rw [flat_at (sz := 9) (fun _ => rfl) (List.range l.length) i j i (by simp [hi]) hj]
 simp [List.getD, h]
theorem ItsIn.slAt {l : List VaP.VT} {a : Option Addr} {ps : Nat → Option Addr × Nat} {w : World} (h : ItsIn l a ps w) : SlAt a (cellsV l ps) w := by
 intro q v hq
 have hlt := (List.getElem?_eq_some_iff.1 hq).1
 rw [cellsV_len] at hlt
 have hi : q / 9 < l.length := by omega
 obtain ⟨x, hx⟩ : ∃ x, l[q / 9]? = some x := ⟨l[q / 9]'hi, List.getElem?_eq_getElem hi⟩
 have e : q = q / 9 * 9 + q % 9 := by omega
 obtain ⟨ad, ha, hb, hc⟩ := h _ x hx
 refine ⟨ad, ha, hb, ?_⟩
 rw [e] at hq ⊢
 rw [cellsV_at ps hx (by omega)] at hq
 exact hc _ v hq
theorem ItsIn.of_slAt {l : List VaP.VT} {a : Option Addr} {ps : Nat → Option Addr × Nat} {w : World} (h : SlAt a (cellsV l ps) w) : ItsIn l a ps w := by
 intro i x hx
 have h9 : ∀ j v, (itCells x (ps i))[j]? = some v → j < 9 := fun j v hv => (List.getElem?_eq_some_iff.1 hv).1
 obtain ⟨ad, ha, hb, -⟩ := h (i * 9 + 0) (.int .i64 x.kind) (by rw [cellsV_at ps hx (by omega)]; rfl)
 refine ⟨ad, ha, hb, fun j v hv => ?_⟩
 obtain ⟨ad', ha', -, hc⟩ := h (i * 9 + j) v (by rw [cellsV_at ps hx (h9 j v hv)]; exact hv)
 obtain rfl : ad' = ad := by rw [ha] at ha'; exact (Option.some.inj ha').symm
 exact hc
theorem VIn.parts {w : World} {t : VaP.VT} {a : Option Addr} {cap : Nat} (h : VIn w t a cap) : ∃ ps : Nat → Option Addr × Nat, t.Fit ∧ t.items.length ≤ cap ∧ (a = none → cap = 0) ∧ (∀ i x, t.items[i]? = some x → VIn w x (ps i).1 (ps i).2) ∧ ItsIn t.items a ps w := by
 obtain ⟨_, _, _, ps, hf, hc, hn, hi, hs⟩ := h
 exact ⟨ps, hf, hc, hn, hi, hs⟩
theorem retOwnS {base : Nat} {w0 : Base} {rows : List (Nat × Bool × SRow)} {nx : Nat} {β : Nat → Nat} {w : World} (hm : Mem base w0 rows nx β w) (j : Nat) {e : TypeId} {sz g n cap : Nat} {xs : List Value} (hj : get rows j = some (true, .blob (OwnS e sz g n cap xs))) : base ≤ g ∧ g < w.heap.size ∧ OwnS e sz g n cap xs g w.heap[g]? := by
 obtain ⟨h1, -, -, h4⟩ := hm.row j _ _ hj
 have hg : β j = g := h1.2.1
 have h1' := h1.2
 rw [hg] at h1'
 exact ⟨by rw [← hg]; exact h4 rfl, by rw [← hg]; exact h1.1, h1'⟩
def VaP.arrT (t : VaP.VT) : VaP.VT := ⟨5, ([], []), [], false, 0, t.rows, t.cols, t.items⟩
theorem VIn.copied {w w' : World} {t : VaP.VT} {a : Option Addr} {cap : Nat} (h : VIn w t a cap) (hb : BW w w') {ps : Nat → Option Addr × Nat} (hi : ∀ i x, t.items[i]? = some x → VIn w x (ps i).1 (ps i).2) {g cap' : Nat} (hs : SlAt (some ⟨g, 0, none⟩) (cellsV t.items ps) w') (hc : t.items.length ≤ cap') : VIn w' (VaP.arrT t) (some ⟨g, 0, none⟩) cap' :=
 .mk _ _ _ ps ⟨by simp [VaP.arrT], by simp [VaP.arrT], by simp [VaP.arrT], h.fit.it⟩ hc (fun h => by cases h) (fun i x hx => (hi i x hx).lift hb) (ItsIn.of_slAt hs)
def VaP.cvF (s : List UInt8) (c : Nat) : Nat → Nat
 | 0 => c
 | k + 1 => VaP.cvF s c k * 64 + VaP.bt s (k + 1) % 64
theorem VaP.cvF_le (s : List UInt8) (c : Nat) (hc : c ≤ 31) : VaP.cvF s c 0 ≤ 31 ∧ VaP.cvF s c 1 ≤ 2047 ∧ VaP.cvF s c 2 ≤ 131071 ∧ VaP.cvF s c 3 ≤ 8388607 := by
 refine ⟨hc, ?_, ?_, ?_⟩
 ·show c * 64 + VaP.bt s 1 % 64 ≤ _; omega
 ·show (c * 64 + VaP.bt s 1 % 64) * 64 + VaP.bt s 2 % 64 ≤ _; omega
 ·show ((c * 64 + VaP.bt s 1 % 64) * 64 + VaP.bt s 2 % 64) * 64 + VaP.bt s 3 % 64 ≤ _; omega
theorem rrune_2 (s : List UInt8) (R1 R2 : Nat) (w : World) (hs : s ≠ []) (hl : s.length ≤ 9223372036854775807) (h1 : 194 ≤ VaP.bt s 0) (h2 : VaP.bt s 0 < 224) (C : Nat) (hC : C = VaP.cvF s (VaP.bt s 0 % 32) 1)
  (hG : 2 ≤ s.length → (∀ j, 1 ≤ j → j < 2 → VaP.bt s j / 64 = 2) → 128 ≤ C → (C < 55296 ∨ 57344 ≤ C) → C ≤ 1114111 → R1 = C ∧ R2 = 2)
  (hB : ¬ (2 ≤ s.length ∧ (∀ j, 1 ≤ j → j < 2 → VaP.bt s j / 64 = 2) ∧ 128 ≤ C ∧ (C < 55296 ∨ 57344 ≤ C) ∧ C ≤ 1114111) → R1 = 0 ∧ R2 = 0) :
  QC 120 #[.string (bstr s)] w (.tuple #[.int .i64 (R1 : Nat), .int .i64 (R2 : Nat)]) := by
 have hl0 := List.length_pos_iff.2 hs
 have hbt := VaP.bt_lt s
 have hcv := VaP.cvF_le s (VaP.bt s 0 % 32) (by omega)
 have hst : ∀ k, VaP.cvF s (VaP.bt s 0 % 32) (k + 1) = VaP.cvF s (VaP.bt s 0 % 32) k * 64 + VaP.bt s (k + 1) % 64 := fun _ => rfl
 have hz : VaP.cvF s (VaP.bt s 0 % 32) 0 = VaP.bt s 0 % 32 := rfl
 have hget : ∀ j, (s.getD j 0).toNat = VaP.bt s j := fun _ => rfl
 generalize VaP.cvF s (VaP.bt s 0 % 32) = CV at *
 generalize VaP.bt s = B at *
 have hg0 := hget 0
 have hb0 := hbt 0
 refine yE Tryz.func120 rfl Tryz.results120 Tryz.ntmps120 [] [] [.str s] w ?_
 repeat' (first | refine yX ?_ | (apply And.intro <;> intro _) | apply bothI | refine retB fun β => ?_ | intro βe | ((with_reducible show ∃ _ : SV, _); first | (refine ⟨.int .i64 ((B 0 % 32 : Nat) : Int), ?ok, x_and _ (by rw [hget 0]; exact Bi.i64_and (B 0) 31 _ (by have := hbt 0; omega) (by omega) (Bi.and_31 _)), ?_⟩; (case ok => exact fun _ _ => trivial))) | ((with_reducible show ∃ _, _); first | (refine ⟨0, rfl, hl0, ?_⟩)) | exact trivial)
 all_goals first | (exfalso; have := hget 0; omega) | (obtain ⟨rfl, rfl⟩ := hB (fun h => by have := h.1; omega); rfl) | skip
 refine yZ (T := {k : Nat // k + 1 ≤ 2 ∧ ∀ j, 1 ≤ j → j < k + 1 → B j / 64 = 2}) (fun t => ⟨[(0, .str s), (4, .int .i64 (CV t.1 : Nat)), (5, .int .i64 2), (6, .int .i64 128), (7, .int .i64 ((t.1 : Nat) + 1))], [], 0, 81⟩) (fun t => 2 - t.1) ⟨0, by omega, fun j h1 h2 => by omega⟩ [] [] (fun t I hI => ?_)
 obtain ⟨k, hk, hj⟩ := t
 dsimp only
 have hk3 : k ≤ 3 := by omega
 have hcvk : CV k ≤ 8388607 := by
  have : k = 0 ∨ k = 1 ∨ k = 2 ∨ k = 3 := by omega
  rcases this with rfl | rfl | rfl | rfl <;> omega
 have hb1 := hbt (k + 1)
 have hs1 := hst k
 have hg1 := hget (k + 1)
 by_cases hlt : k + 1 < 2
 ·repeat' (first | refine yX ?_ | (apply And.intro <;> intro _) | apply bothI | refine retB fun β => ?_ | intro βe | ((with_reducible show ∃ _ : SV, _); first | (refine ⟨.int .u8 ((B (k + 1) / 64 * 64 : Nat) : Int), ?ok, x_and _ (by rw [hg1]; exact Bi.u8_and (B (k + 1)) 192 _ (by omega) (by omega) (Bi.and_192 _ (by omega))), ?_⟩; (case ok => exact fun _ _ => trivial)) | (refine ⟨.int .u8 ((B (k + 1) % 64 : Nat) : Int), ?ok, x_and _ (by rw [hg1]; exact Bi.u8_and (B (k + 1)) 63 _ (by omega) (by omega) (Bi.and_63 _)), ?_⟩; (case ok => exact fun _ _ => trivial)) | (refine ⟨.int .i64 ((CV k * 64 : Nat) : Int), ?ok, x_shlE 6 _ rfl (by rw [Int.natCast_mul]; rfl) (by decide) (by simp only [inK]; omega), ?_⟩; (case ok => exact fun _ _ => trivial)) | (refine ⟨.int .i64 ((CV k * 64 + B (k + 1) % 64 : Nat) : Int), ?ok, x_or _ (Bi.i64_or (CV k * 64) (B (k + 1) % 64) _ (by omega) (by omega) (Bi.or_64 _ _ (by omega))), ?_⟩; (case ok => exact fun _ _ => trivial))) | ((with_reducible show ∃ _, _); first | (refine ⟨k + 1, rfl, by omega, ?_⟩)) | exact trivial)
  all_goals first | (exfalso; omega) | (obtain ⟨rfl, rfl⟩ := hB (fun h => by have := h.2.1 (k + 1) (by omega) hlt; omega); rfl) | (rw [← hs1]; refine hI _ ⟨k + 1, by omega, fun j h1 h2 => (Nat.lt_or_ge j (k + 1)).elim (fun h => hj j h1 h) (fun h => by { have e : j = k + 1 := by { omega }; rw [e]; omega })⟩ (by dsimp only; omega) yW; done) | trace_state
 ·have e : k = 1 := by omega
  subst e
  rw [← hC] at *
  repeat' (first | refine yX ?_ | (apply And.intro <;> intro _) | apply bothI | refine retB fun β => ?_ | intro βe | exact trivial)
  all_goals first | (exfalso; omega) | (obtain ⟨rfl, rfl⟩ := hB (fun h => by have := h.2.2; omega); rfl) | (obtain ⟨rfl, rfl⟩ := hG (by omega) hj (by omega) (by omega) (by omega); rfl) | trace_state
theorem rrune_3 (s : List UInt8) (R1 R2 : Nat) (w : World) (hs : s ≠ []) (hl : s.length ≤ 9223372036854775807) (h1 : 224 ≤ VaP.bt s 0) (h2 : VaP.bt s 0 < 240) (C : Nat) (hC : C = VaP.cvF s (VaP.bt s 0 % 16) 2)
  (hG : 3 ≤ s.length → (∀ j, 1 ≤ j → j < 3 → VaP.bt s j / 64 = 2) → 2048 ≤ C → (C < 55296 ∨ 57344 ≤ C) → C ≤ 1114111 → R1 = C ∧ R2 = 3)
  (hB : ¬ (3 ≤ s.length ∧ (∀ j, 1 ≤ j → j < 3 → VaP.bt s j / 64 = 2) ∧ 2048 ≤ C ∧ (C < 55296 ∨ 57344 ≤ C) ∧ C ≤ 1114111) → R1 = 0 ∧ R2 = 0) :
  QC 120 #[.string (bstr s)] w (.tuple #[.int .i64 (R1 : Nat), .int .i64 (R2 : Nat)]) := by
 have hl0 := List.length_pos_iff.2 hs
 have hbt := VaP.bt_lt s
 have hcv := VaP.cvF_le s (VaP.bt s 0 % 16) (by omega)
 have hst : ∀ k, VaP.cvF s (VaP.bt s 0 % 16) (k + 1) = VaP.cvF s (VaP.bt s 0 % 16) k * 64 + VaP.bt s (k + 1) % 64 := fun _ => rfl
 have hz : VaP.cvF s (VaP.bt s 0 % 16) 0 = VaP.bt s 0 % 16 := rfl
 have hget : ∀ j, (s.getD j 0).toNat = VaP.bt s j := fun _ => rfl
 generalize VaP.cvF s (VaP.bt s 0 % 16) = CV at *
 generalize VaP.bt s = B at *
 have hg0 := hget 0
 have hb0 := hbt 0
 refine yE Tryz.func120 rfl Tryz.results120 Tryz.ntmps120 [] [] [.str s] w ?_
 repeat' (first | refine yX ?_ | (apply And.intro <;> intro _) | apply bothI | refine retB fun β => ?_ | intro βe | ((with_reducible show ∃ _ : SV, _); first | (refine ⟨.int .i64 ((B 0 % 16 : Nat) : Int), ?ok, x_and _ (by rw [hget 0]; exact Bi.i64_and (B 0) 15 _ (by have := hbt 0; omega) (by omega) (Bi.and_15 _)), ?_⟩; (case ok => exact fun _ _ => trivial))) | ((with_reducible show ∃ _, _); first | (refine ⟨0, rfl, hl0, ?_⟩)) | exact trivial)
 all_goals first | (exfalso; have := hget 0; omega) | (obtain ⟨rfl, rfl⟩ := hB (fun h => by have := h.1; omega); rfl) | skip
 refine yZ (T := {k : Nat // k + 1 ≤ 3 ∧ ∀ j, 1 ≤ j → j < k + 1 → B j / 64 = 2}) (fun t => ⟨[(0, .str s), (4, .int .i64 (CV t.1 : Nat)), (5, .int .i64 3), (6, .int .i64 2048), (7, .int .i64 ((t.1 : Nat) + 1))], [], 0, 81⟩) (fun t => 3 - t.1) ⟨0, by omega, fun j h1 h2 => by omega⟩ [] [] (fun t I hI => ?_)
 obtain ⟨k, hk, hj⟩ := t
 dsimp only
 have hk3 : k ≤ 3 := by omega
 have hcvk : CV k ≤ 8388607 := by
  have : k = 0 ∨ k = 1 ∨ k = 2 ∨ k = 3 := by omega
  rcases this with rfl | rfl | rfl | rfl <;> omega
 have hb1 := hbt (k + 1)
 have hs1 := hst k
 have hg1 := hget (k + 1)
 by_cases hlt : k + 1 < 3
 ·repeat' (first | refine yX ?_ | (apply And.intro <;> intro _) | apply bothI | refine retB fun β => ?_ | intro βe | ((with_reducible show ∃ _ : SV, _); first | (refine ⟨.int .u8 ((B (k + 1) / 64 * 64 : Nat) : Int), ?ok, x_and _ (by rw [hg1]; exact Bi.u8_and (B (k + 1)) 192 _ (by omega) (by omega) (Bi.and_192 _ (by omega))), ?_⟩; (case ok => exact fun _ _ => trivial)) | (refine ⟨.int .u8 ((B (k + 1) % 64 : Nat) : Int), ?ok, x_and _ (by rw [hg1]; exact Bi.u8_and (B (k + 1)) 63 _ (by omega) (by omega) (Bi.and_63 _)), ?_⟩; (case ok => exact fun _ _ => trivial)) | (refine ⟨.int .i64 ((CV k * 64 : Nat) : Int), ?ok, x_shlE 6 _ rfl (by rw [Int.natCast_mul]; rfl) (by decide) (by simp only [inK]; omega), ?_⟩; (case ok => exact fun _ _ => trivial)) | (refine ⟨.int .i64 ((CV k * 64 + B (k + 1) % 64 : Nat) : Int), ?ok, x_or _ (Bi.i64_or (CV k * 64) (B (k + 1) % 64) _ (by omega) (by omega) (Bi.or_64 _ _ (by omega))), ?_⟩; (case ok => exact fun _ _ => trivial))) | ((with_reducible show ∃ _, _); first | (refine ⟨k + 1, rfl, by omega, ?_⟩)) | exact trivial)
  all_goals first | (exfalso; omega) | (obtain ⟨rfl, rfl⟩ := hB (fun h => by have := h.2.1 (k + 1) (by omega) hlt; omega); rfl) | (rw [← hs1]; refine hI _ ⟨k + 1, by omega, fun j h1 h2 => (Nat.lt_or_ge j (k + 1)).elim (fun h => hj j h1 h) (fun h => by { have e : j = k + 1 := by { omega }; rw [e]; omega })⟩ (by dsimp only; omega) yW; done) | trace_state
 ·have e : k = 2 := by omega
  subst e
  rw [← hC] at *
  repeat' (first | refine yX ?_ | (apply And.intro <;> intro _) | apply bothI | refine retB fun β => ?_ | intro βe | exact trivial)
  all_goals first | (exfalso; omega) | (obtain ⟨rfl, rfl⟩ := hB (fun h => by have := h.2.2; omega); rfl) | (obtain ⟨rfl, rfl⟩ := hG (by omega) hj (by omega) (by omega) (by omega); rfl) | trace_state
theorem rrune_4 (s : List UInt8) (R1 R2 : Nat) (w : World) (hs : s ≠ []) (hl : s.length ≤ 9223372036854775807) (h1 : 240 ≤ VaP.bt s 0) (h2 : VaP.bt s 0 < 245) (C : Nat) (hC : C = VaP.cvF s (VaP.bt s 0 % 8) 3)
  (hG : 4 ≤ s.length → (∀ j, 1 ≤ j → j < 4 → VaP.bt s j / 64 = 2) → 65536 ≤ C → (C < 55296 ∨ 57344 ≤ C) → C ≤ 1114111 → R1 = C ∧ R2 = 4)
  (hB : ¬ (4 ≤ s.length ∧ (∀ j, 1 ≤ j → j < 4 → VaP.bt s j / 64 = 2) ∧ 65536 ≤ C ∧ (C < 55296 ∨ 57344 ≤ C) ∧ C ≤ 1114111) → R1 = 0 ∧ R2 = 0) :
  QC 120 #[.string (bstr s)] w (.tuple #[.int .i64 (R1 : Nat), .int .i64 (R2 : Nat)]) := by
 have hl0 := List.length_pos_iff.2 hs
 have hbt := VaP.bt_lt s
 have hcv := VaP.cvF_le s (VaP.bt s 0 % 8) (by omega)
 have hst : ∀ k, VaP.cvF s (VaP.bt s 0 % 8) (k + 1) = VaP.cvF s (VaP.bt s 0 % 8) k * 64 + VaP.bt s (k + 1) % 64 := fun _ => rfl
 have hz : VaP.cvF s (VaP.bt s 0 % 8) 0 = VaP.bt s 0 % 8 := rfl
 have hget : ∀ j, (s.getD j 0).toNat = VaP.bt s j := fun _ => rfl
 generalize VaP.cvF s (VaP.bt s 0 % 8) = CV at *
 generalize VaP.bt s = B at *
 have hg0 := hget 0
 have hb0 := hbt 0
 refine yE Tryz.func120 rfl Tryz.results120 Tryz.ntmps120 [] [] [.str s] w ?_
 repeat' (first | refine yX ?_ | (apply And.intro <;> intro _) | apply bothI | refine retB fun β => ?_ | intro βe | ((with_reducible show ∃ _ : SV, _); first | (refine ⟨.int .i64 ((B 0 % 8 : Nat) : Int), ?ok, x_and _ (by rw [hget 0]; exact Bi.i64_and (B 0) 7 _ (by have := hbt 0; omega) (by omega) (Bi.and_7 _)), ?_⟩; (case ok => exact fun _ _ => trivial))) | ((with_reducible show ∃ _, _); first | (refine ⟨0, rfl, hl0, ?_⟩)) | exact trivial)
 all_goals first | (exfalso; have := hget 0; omega) | (obtain ⟨rfl, rfl⟩ := hB (fun h => by have := h.1; omega); rfl) | skip
 refine yZ (T := {k : Nat // k + 1 ≤ 4 ∧ ∀ j, 1 ≤ j → j < k + 1 → B j / 64 = 2}) (fun t => ⟨[(0, .str s), (4, .int .i64 (CV t.1 : Nat)), (5, .int .i64 4), (6, .int .i64 65536), (7, .int .i64 ((t.1 : Nat) + 1))], [], 0, 81⟩) (fun t => 4 - t.1) ⟨0, by omega, fun j h1 h2 => by omega⟩ [] [] (fun t I hI => ?_)
 obtain ⟨k, hk, hj⟩ := t
 dsimp only
 have hk3 : k ≤ 3 := by omega
 have hcvk : CV k ≤ 8388607 := by
  have : k = 0 ∨ k = 1 ∨ k = 2 ∨ k = 3 := by omega
  rcases this with rfl | rfl | rfl | rfl <;> omega
 have hb1 := hbt (k + 1)
 have hs1 := hst k
 have hg1 := hget (k + 1)
 by_cases hlt : k + 1 < 4
 ·repeat' (first | refine yX ?_ | (apply And.intro <;> intro _) | apply bothI | refine retB fun β => ?_ | intro βe | ((with_reducible show ∃ _ : SV, _); first | (refine ⟨.int .u8 ((B (k + 1) / 64 * 64 : Nat) : Int), ?ok, x_and _ (by rw [hg1]; exact Bi.u8_and (B (k + 1)) 192 _ (by omega) (by omega) (Bi.and_192 _ (by omega))), ?_⟩; (case ok => exact fun _ _ => trivial)) | (refine ⟨.int .u8 ((B (k + 1) % 64 : Nat) : Int), ?ok, x_and _ (by rw [hg1]; exact Bi.u8_and (B (k + 1)) 63 _ (by omega) (by omega) (Bi.and_63 _)), ?_⟩; (case ok => exact fun _ _ => trivial)) | (refine ⟨.int .i64 ((CV k * 64 : Nat) : Int), ?ok, x_shlE 6 _ rfl (by rw [Int.natCast_mul]; rfl) (by decide) (by simp only [inK]; omega), ?_⟩; (case ok => exact fun _ _ => trivial)) | (refine ⟨.int .i64 ((CV k * 64 + B (k + 1) % 64 : Nat) : Int), ?ok, x_or _ (Bi.i64_or (CV k * 64) (B (k + 1) % 64) _ (by omega) (by omega) (Bi.or_64 _ _ (by omega))), ?_⟩; (case ok => exact fun _ _ => trivial))) | ((with_reducible show ∃ _, _); first | (refine ⟨k + 1, rfl, by omega, ?_⟩)) | exact trivial)
  all_goals first | (exfalso; omega) | (obtain ⟨rfl, rfl⟩ := hB (fun h => by have := h.2.1 (k + 1) (by omega) hlt; omega); rfl) | (rw [← hs1]; refine hI _ ⟨k + 1, by omega, fun j h1 h2 => (Nat.lt_or_ge j (k + 1)).elim (fun h => hj j h1 h) (fun h => by { have e : j = k + 1 := by { omega }; rw [e]; omega })⟩ (by dsimp only; omega) yW; done) | trace_state
 ·have e : k = 3 := by omega
  subst e
  rw [← hC] at *
  repeat' (first | refine yX ?_ | (apply And.intro <;> intro _) | apply bothI | refine retB fun β => ?_ | intro βe | exact trivial)
  all_goals first | (exfalso; omega) | (obtain ⟨rfl, rfl⟩ := hB (fun h => by have := h.2.2; omega); rfl) | (obtain ⟨rfl, rfl⟩ := hG (by omega) hj (by omega) (by omega) (by omega); rfl) | trace_state
theorem rrune_1 (s : List UInt8) (w : World) (hs : s ≠ []) (hl : s.length ≤ 9223372036854775807) (h1 : VaP.bt s 0 < 128) : QC 120 #[.string (bstr s)] w (.tuple #[.int .i64 (VaP.bt s 0 : Nat), .int .i64 1]) := by
 have hl0 := List.length_pos_iff.2 hs
 have hg0 : (s.getD 0 0).toNat = VaP.bt s 0 := rfl
 have hb0 := VaP.bt_lt s 0
 refine yE Tryz.func120 rfl Tryz.results120 Tryz.ntmps120 [] [] [.str s] w ?_
 repeat' (first | refine yX ?_ | (apply And.intro <;> intro _) | apply bothI | refine retB fun β => ?_ | intro βe | ((with_reducible show ∃ _, _); first | (refine ⟨0, rfl, hl0, ?_⟩)) | exact trivial)
 all_goals first | (exfalso; omega) | rfl
theorem rrune_0 (s : List UInt8) (w : World) (hs : s ≠ []) (hl : s.length ≤ 9223372036854775807) (h0 : 128 ≤ VaP.bt s 0) (h1 : VaP.bt s 0 < 194 ∨ 245 ≤ VaP.bt s 0) : QC 120 #[.string (bstr s)] w (.tuple #[.int .i64 0, .int .i64 0]) := by
 have hl0 := List.length_pos_iff.2 hs
 have hg0 : (s.getD 0 0).toNat = VaP.bt s 0 := rfl
 have hb0 := VaP.bt_lt s 0
 refine yE Tryz.func120 rfl Tryz.results120 Tryz.ntmps120 [] [] [.str s] w ?_
 repeat' (first | refine yX ?_ | (apply And.intro <;> intro _) | apply bothI | refine retB fun β => ?_ | intro βe | ((with_reducible show ∃ _, _); first | (refine ⟨0, rfl, hl0, ?_⟩)) | exact trivial)
 all_goals first | (exfalso; omega) | rfl
theorem rrune_any (s : List UInt8) (w : World) (hs : s ≠ []) (hl : s.length ≤ 9223372036854775807) : QC 120 #[.string (bstr s)] w (.tuple #[.int .i64 ((VaP.rune s).1 : Nat), .int .i64 ((VaP.rune s).2 : Nat)]) := by
 have b0 := VaP.bt_lt s 0
 have b1 := VaP.bt_lt s 1
 have b2 := VaP.bt_lt s 2
 have b3 := VaP.bt_lt s 3
 by_cases c1 : VaP.bt s 0 < 128
 ·rw [VaP.rune_1 hs c1]; exact rrune_1 s w hs hl c1
 by_cases c2 : VaP.bt s 0 < 194 ∨ 245 ≤ VaP.bt s 0
 ·rw [VaP.rune_0 hs (by omega) c2]; exact rrune_0 s w hs hl (by omega) c2
 by_cases c3 : VaP.bt s 0 < 224
 ·have hr := VaP.rune_2 hs (by omega) c3
  refine rrune_2 s _ _ w hs hl (by omega) c3 _ rfl (fun h1 h2 h3 h4 h5 => ?_) (fun h => ?_)
  ·rw [hr, if_pos ⟨by omega, h2 1 (by omega) (by omega)⟩]; exact ⟨rfl, rfl⟩
  ·rw [hr, if_neg]
   ·exact ⟨rfl, rfl⟩
   ·rintro ⟨h1, h2⟩
    refine h ⟨by omega, fun j j1 j2 => by have e : j = 1 := by { omega }; rw [e]; exact h2, ?_⟩
    show 128 ≤ VaP.bt s 0 % 32 * 64 + VaP.bt s 1 % 64 ∧ (VaP.bt s 0 % 32 * 64 + VaP.bt s 1 % 64 < 55296 ∨ 57344 ≤ VaP.bt s 0 % 32 * 64 + VaP.bt s 1 % 64) ∧ VaP.bt s 0 % 32 * 64 + VaP.bt s 1 % 64 ≤ 1114111
    omega
 by_cases c4 : VaP.bt s 0 < 240
 ·have hr := VaP.rune_3 hs (by omega) c4
  have e : VaP.cvF s (VaP.bt s 0 % 16) 2 = VaP.bt s 0 % 16 * 4096 + VaP.bt s 1 % 64 * 64 + VaP.bt s 2 % 64 := by
   show (VaP.bt s 0 % 16 * 64 + VaP.bt s 1 % 64) * 64 + VaP.bt s 2 % 64 = _; omega
  rw [← e] at hr
  refine rrune_3 s _ _ w hs hl (by omega) c4 _ rfl (fun h1 h2 h3 h4 h5 => ?_) (fun h => ?_)
  ·rw [hr, if_pos ⟨⟨by omega, h2 1 (by omega) (by omega)⟩, ⟨by omega, h2 2 (by omega) (by omega)⟩, h3, h4⟩]; exact ⟨rfl, rfl⟩
  ·rw [hr, if_neg]
   ·exact ⟨rfl, rfl⟩
   ·rintro ⟨⟨h1, h2⟩, ⟨h3, h4⟩, h5, h6⟩
    refine h ⟨by omega, fun j j1 j2 => ?_, h5, h6, by rw [e]; omega⟩
    have : j = 1 ∨ j = 2 := by omega
    rcases this with rfl | rfl
    ·exact h2
    ·exact h4
 ·have hr := VaP.rune_4 hs (by omega) (by omega)
  have e : VaP.cvF s (VaP.bt s 0 % 8) 3 = VaP.bt s 0 % 8 * 262144 + VaP.bt s 1 % 64 * 4096 + VaP.bt s 2 % 64 * 64 + VaP.bt s 3 % 64 := by
   show ((VaP.bt s 0 % 8 * 64 + VaP.bt s 1 % 64) * 64 + VaP.bt s 2 % 64) * 64 + VaP.bt s 3 % 64 = _; omega
  rw [← e] at hr
  refine rrune_4 s _ _ w hs hl (by omega) (by omega) _ rfl (fun h1 h2 h3 h4 h5 => ?_) (fun h => ?_)
  ·rw [hr, if_pos ⟨⟨by omega, h2 1 (by omega) (by omega)⟩, ⟨by omega, h2 2 (by omega) (by omega)⟩, ⟨by omega, h2 3 (by omega) (by omega)⟩, h3, h5⟩]; exact ⟨rfl, rfl⟩
  ·rw [hr, if_neg]
   ·exact ⟨rfl, rfl⟩
   ·rintro ⟨⟨h1, h2⟩, ⟨h3, h4⟩, ⟨h5, h6⟩, h7, h8⟩
    refine h ⟨by omega, fun j j1 j2 => ?_, h7, .inr (by omega), h8⟩
    have : j = 1 ∨ j = 2 ∨ j = 3 := by omega
    rcases this with rfl | rfl | rfl
    ·exact h2
    ·exact h4
    ·exact h6
theorem rtexterr_any (s : List UInt8) (w : World) (hs : s.length ≤ 9223372036854775807) : QC 61 #[.string (bstr s)] w (.int .i64 (VaP.txtE s)) := by
 have hE : VaP.txtE s = if 32767 < s.length then 3 else if VaP.txtP s then 0 else 23 := rfl
 have D := fun (t : List UInt8) (h0 : t ≠ []) (hl : t.length ≤ s.length) (w' : World) => rrune_any t w' h0 (by omega)
 refine yE Tryz.func61 rfl Tryz.results61 Tryz.ntmps61 [] [] [.str s] w ?_
 repeat' (first | refine yX ?_ | (apply And.intro <;> intro _) | apply bothI | refine retB fun β => ?_ | intro βe | exact trivial)
 all_goals first | (rw [hE, if_pos (by omega)]; rfl) | skip
 rw [if_neg (by omega)] at hE
 refine yZ (T := {t : List UInt8 // t.length ≤ s.length ∧ VaP.txtP t = VaP.txtP s}) (fun t => ⟨[(0, .str t.1)], [], 0, 25⟩) (fun t => t.1.length) ⟨s, Nat.le_refl _, rfl⟩ [] [] (fun t I hI => ?_)
 obtain ⟨t, ht, hp⟩ := t
 dsimp only
 by_cases h0 : t = []
 ·subst h0
  rw [← hp] at hE
  repeat' (first | refine yX ?_ | (apply And.intro <;> intro _) | apply bothI | refine retB fun β => ?_ | intro βe | exact trivial)
  all_goals first | (exfalso; simp_all; done) | (rw [hE]; rfl)
 ·have hst := VaP.txtP_step h0
  have hl := VaP.dec_len h0
  have D1 := D t h0 ht
  by_cases hd : VaP.dec t = (65533, 1)
  ·rw [VaP.rune_bad hd] at D1
   rw [if_pos (.inl hd), hp] at hst
   rw [hst] at hE
   repeat' (first | refine yX ?_ | (apply And.intro <;> intro _) | apply bothI | refine retB fun β => ?_ | intro βe | refine yK (.tup [.int .i64 0, .int .i64 0]) (fun β w hm => D1 w) ?_ | exact trivial)
   all_goals first | (exfalso; omega) | (exfalso; exact (by assumption : ¬ ¬ t = []) h0) | (rw [hE]; rfl)
  ·obtain ⟨c, n, hcn⟩ : ∃ c n, VaP.dec t = (c, n) := ⟨_, _, rfl⟩
   rw [VaP.rune_ok hcn (by rw [← hcn]; exact hd)] at D1
   rw [hcn] at hst hl
   have hd' : ¬ (c, n) = (65533, 1) := by rw [← hcn]; exact hd
   dsimp only at hst hl D1
   have bad : VaP.charP c = false → VaP.txtE s = 23 := fun h => by
    have e : VaP.txtP t = false := by rw [hst, if_pos (Or.inr h : (c, n) = (65533, 1) ∨ VaP.charP c = false)]
    rw [hE, ← hp, e]; rfl
   have good : VaP.charP c = true → VaP.txtP (t.drop n) = VaP.txtP s := fun h2 => by
    rw [← hp, hst, if_neg (fun h => h.elim hd' (fun h => by rw [h2] at h; cases h))]
   clear hst hcn hd hd'
   repeat' (first | refine yX ?_ | (apply And.intro <;> intro _) | apply bothI | refine retB fun β => ?_ | intro βe | refine yK (.tup [.int .i64 (c : Int), .int .i64 (n : Int)]) (fun β w hm => D1 w) ?_ | refine yK (.bool (VaP.charP c)) (fun β w hm => rchar_any c w) ?_ | ((with_reducible show ∃ _, _); first | (refine ⟨n, rfl, hl.2, ?_⟩)) | exact trivial)
   all_goals first | (exfalso; omega) | (exfalso; exact (by assumption : ¬ ¬ t = []) h0) | (rw [bad (by clear D D1; simp_all)]; rfl) | (refine hI _ ⟨t.drop n, by rw [List.length_drop]; omega, good (by clear D D1; simp_all)⟩ (by dsimp only; rw [List.length_drop]; omega) yW; done) | trace_state
end Go.Proofs.YtdkhkfdenlabaaaGreatDoor
namespace Go.Proofs.YtdkhkfdenlabaaaGreatDoor
open Go.RowKit
open Sym
attribute [local irreducible] Calls Sym.AggEq ExP.nd ExP.dig ExP.upd
def ExP.powN (x : ExP.Num) (k : Nat) : ExP.Num := ⟨x.m && decide (k % 2 = 1), x.n ^ k, x.d ^ k⟩
theorem ExP.pow_zero (x : ExP.Num) : ExP.powN x 0 = ExP.wholeN 1 := by simp [ExP.powN, ExP.wholeN]
structure RpT where
 i : Nat
 a : Option Addr
 c : Nat
 b : Option Addr
 e : Nat
structure PwT where
 A : Nat
 O : Nat
 m : Nat
 a : Option Addr
 c : Nat
 b : Option Addr
 e : Nat
structure PwI (z : Nat) (t : PwT) : Prop where
 eq : t.O * t.A ^ t.m = z
 a0 : 0 < t.A ∨ t.m = 0
 o0 : 0 < t.O
 na : ExP.nd 1000000000 t.A ≤ 1000
 no : ExP.nd 1000000000 t.O ≤ 34
 ha : t.a = none → t.c = 0
 hb : t.b = none → t.e = 0
 ca : ExP.nd 1000000000 t.A ≤ t.c
 cb : ExP.nd 1000000000 t.O ≤ t.e
 hm : t.m ≤ 1000
end Go.Proofs.YtdkhkfdenlabaaaGreatDoor
namespace Go.Proofs.YtdkhkfdenlabaaaGreatDoor
open Go.RowKit
open Sym
attribute [local irreducible] Calls Sym.AggEq ExP.nd ExP.dig ExP.upd ExP.writeF ExP.writeE
structure OpI (N : ExP.Num) (F : ExP.Fr) (E : Int) : Prop where
 d : 0 < N.d
 n1 : ExP.nd 10 N.n ≤ 1000000
 n2 : ExP.nd 10 N.d ≤ 1000000
 hF : F = ExP.writeF N
 hE : E = ExP.writeE N
structure LwT where
 a1 : Option Addr
 c1 : Nat
 a2 : Option Addr
 c2 : Nat
 b1 : Option Addr
 e1 : Nat
 b2 : Option Addr
 e2 : Nat
section
attribute [local semireducible] ExP.writeF ExP.writeE
end
theorem rfault_any (c : Int) (w : World) : Calls Tryz.prog 18 #[.int .i64 c] w (IsV (VaP.faultV c) w) := by
 refine yE Tryz.func18 rfl Tryz.results18 Tryz.ntmps18 [] [] [.int .i64 c] w ?_
 repeat' (first | refine yX ?_ | (apply And.intro <;> intro _) | apply bothI | refine retB fun β => ?_ | intro βe | exact trivial)
 all_goals rfl
theorem rbool_any (b : Bool) (w : World) : Calls Tryz.prog 24 #[.bool b] w (IsV (VaP.boolV b) w) := by
 refine yE Tryz.func24 rfl Tryz.results24 Tryz.ntmps24 [] [] [.bool b] w ?_
 repeat' (first | refine yX ?_ | (apply And.intro <;> intro _) | apply bothI | refine retB fun β => ?_ | intro βe | exact trivial)
 all_goals rfl
theorem rtextv_any (s : List UInt8) (w : World) (hs : s.length ≤ 9223372036854775807) : Calls Tryz.prog 21 #[.string (bstr s)] w (IsV (VaP.textV s) w) := by
 have T := fun (w' : World) => rtexterr_any s w' hs
 have F := fun (w' : World) => rfault_any 2 w'
 unfold VaP.textV
 by_cases h : VaP.txtE s = 0
 ·simp only [if_pos h]
  rw [h] at T
  refine yE Tryz.func21 rfl Tryz.results21 Tryz.ntmps21 [] [] [.str s] w ?_
  repeat' (first | refine yX ?_ | (apply And.intro <;> intro _) | apply bothI | refine retB fun β => ?_ | intro βe | refine yK (.int .i64 0) (fun β w hm => T w) ?_ | exact trivial)
  all_goals first | (exfalso; omega) | rfl
 ·simp only [if_neg h]
  generalize VaP.txtE s = E at *
  refine yE Tryz.func21 rfl Tryz.results21 Tryz.ntmps21 [] [] [.str s] w ?_
  repeat' (first | refine yX ?_ | (apply And.intro <;> intro _) | apply bothI | refine retB fun β => ?_ | intro βe | refine yK (.int .i64 E) (fun β w hm => T w) ?_ | refine yK (.agg [.int .i64 4, .str [], .str [], .str [], .lit false, .int .i64 2, .int .i64 0, .int .i64 0, .any (.slice none 0 0)]) (fun β w hm => F w) ?_ | exact trivial)
  all_goals first | (exfalso; omega) | rfl
def VaP.rnumV (x : ExP.Num) : VaP.VT := if ExP.writeE x = 0 then VaP.numF (ExP.writeF x) else VaP.faultV 5
theorem rnumber_any (x : FrV) (w : World) (hw0 : 0 < w.heap.size) (hx : FrIn .i64 10 x w) (hd : 0 < x.d) (hxn : ExP.nd 10 x.n ≤ 1000000) (hxd : ExP.nd 10 x.d ≤ 1000000) : Calls Tryz.prog 68 #[x.val 10] w (IsV (VaP.rnumV x.num) w) := by
 have R := fun (w' : World) (h : BW w w') => rfrac_any x w' (Nat.lt_of_lt_of_le hw0 h.size) (hx.below h) hd hxn hxd
 have F := fun (w' : World) => rfault_any 5 w'
 clear hx
 have hV : VaP.rnumV x.num = if ExP.writeE x.num = 0 then VaP.numF (ExP.writeF x.num) else VaP.faultV 5 := rfl
 rw [hV]
 clear hV
 by_cases hE : ExP.writeE x.num = 0
 ·rw [if_pos hE]
  rw [hE] at R
  clear hE
  obtain ⟨W, hW⟩ : ∃ W, ExP.writeF x.num = W := ⟨_, rfl⟩
  obtain ⟨W1, W2⟩ := W
  rw [hW] at R ⊢
  clear hW
  obtain ⟨m, n, d, a, c, b, e⟩ := x
  dsimp only [FrV.num, FrV.val] at *
  refine yE Tryz.func68 rfl Tryz.results68 Tryz.ntmps68 [] [] [.agg [.bool m, .any (.slice a (ExP.nd 10 n) c), .any (.slice b (ExP.nd 10 d) e)]] w ?_
  repeat' (first | refine yX ?_ | (apply And.intro <;> intro _) | apply bothI | refine retB fun β => ?_ | intro βe | refine yK (.tup [.agg [.str W1, .str W2], .int .i64 0]) (fun β w hm => R w hm.below) ?_ | exact trivial)
  all_goals first | (exfalso; omega) | rfl | trace_state
 ·rw [if_neg hE]
  generalize ExP.writeE x.num = E at *
  obtain ⟨W, hW⟩ : ∃ W, ExP.writeF x.num = W := ⟨_, rfl⟩
  obtain ⟨W1, W2⟩ := W
  rw [hW] at R
  clear hW
  obtain ⟨m, n, d, a, c, b, e⟩ := x
  dsimp only [FrV.num, FrV.val] at *
  refine yE Tryz.func68 rfl Tryz.results68 Tryz.ntmps68 [] [] [.agg [.bool m, .any (.slice a (ExP.nd 10 n) c), .any (.slice b (ExP.nd 10 d) e)]] w ?_
  repeat' (first | refine yX ?_ | (apply And.intro <;> intro _) | apply bothI | refine retB fun β => ?_ | intro βe | refine yK (.tup [.agg [.str W1, .str W2], .int .i64 E]) (fun β w hm => R w hm.below) ?_ | refine yK (.agg [.int .i64 4, .str [], .str [], .str [], .lit false, .int .i64 5, .int .i64 0, .int .i64 0, .any (.slice none 0 0)]) (fun β w hm => F w) ?_ | exact trivial)
  all_goals first | (exfalso; omega) | rfl | trace_state
end Go.Proofs.YtdkhkfdenlabaaaGreatDoor
namespace Go.Proofs.YtdkhkfdenlabaaaGreatDoor
open Go.RowKit
open Sym
theorem strInfo : (Tryz.prog.info? 9).map (fun i => (i.zero, i.size, i.bytes)) = some (some (.string ByteArray.empty), 1, 16) := by kernel_rfl
structure SpT where
 i : Nat
 f : Nat
 n : Nat
 g : Nat
 cap : Nat
 P : List (List UInt8)
def spJ (s : List UInt8) (c : Int) (t : SpT) : St := match t.n with
 | 0 => ⟨[(0, .str s), (1, .int .u8 c), (5, .any (.slice none 0 0)), (6, .int .i64 (t.f : Nat)), (9, .int .i64 (s.length : Nat)), (10, .int .i64 (t.i : Nat))], [], 0, 34⟩
 | n + 1 => ⟨[(0, .str s), (1, .int .u8 c), (5, .any (.slice (some ⟨t.g, 0, none⟩) (n + 1) t.cap)), (6, .int .i64 (t.f : Nat)), (9, .int .i64 (s.length : Nat)), (10, .int .i64 (t.i : Nat))], [(1, true, .blob (OwnS 9 1 t.g (n + 1) t.cap (strV t.P)))], 2, 34⟩
structure SpA (s : List UInt8) (c : UInt8) (t : SpT) : Prop where
 hi : t.i ≤ s.length
 hf : t.f ≤ t.i
 hn : t.P.length = t.n
 hni : t.n ≤ t.i
 no : c ∉ (s.take t.i).drop t.f
 eq : VaP.splitC c s = t.P ++ VaP.splitC c (s.drop t.f)
theorem SpA.piece {s : List UInt8} {c : UInt8} {t : SpT} (h : SpA s c t) (hlt : t.i < s.length) : s.drop t.f = (s.take t.i).drop t.f ++ s.getD t.i 0 :: s.drop (t.i + 1) := by
 have h1 : s = s.take t.i ++ s.drop t.i := (List.take_append_drop _ _).symm
 have h2 : s.drop t.i = s.getD t.i 0 :: s.drop (t.i + 1) := by rw [List.drop_eq_getElem_cons hlt]; simp [List.getD, hlt]
 rw [h2] at h1
 conv => lhs; rw [h1]
 rw [List.drop_append_of_le_length (by have := h.hf; rw [List.length_take]; omega)]
theorem SpA.hit {s : List UInt8} {c : UInt8} {t : SpT} (h : SpA s c t) (hlt : t.i < s.length) (hc : s.getD t.i 0 = c) (g cap : Nat) : SpA s c ⟨t.i + 1, t.i + 1, t.n + 1, g, cap, t.P ++ [(s.take t.i).drop t.f]⟩ where
 hi := hlt
 hf := Nat.le_refl _
 hn := by have := h.hn; simp; omega
 hni := by have := h.hni; dsimp only; omega
 no := by
  dsimp only
  rw [List.drop_eq_nil_of_le (by rw [List.length_take]; omega)]
  simp
 eq := by
  have h1 := h.eq
  rw [h.piece hlt, hc, VaP.split_at _ h.no] at h1
  rw [h1]
  simp
theorem SpA.miss {s : List UInt8} {c : UInt8} {t : SpT} (h : SpA s c t) (hlt : t.i < s.length) (hc : s.getD t.i 0 ≠ c) : SpA s c ⟨t.i + 1, t.f, t.n, t.g, t.cap, t.P⟩ where
 hi := hlt
 hf := by have := h.hf; dsimp only; omega
 hn := h.hn
 hni := by have := h.hni; dsimp only; omega
 no := by
  dsimp only
  have e : (s.take (t.i + 1)).drop t.f = (s.take t.i).drop t.f ++ [s.getD t.i 0] := by
   rw [take_next0 s t.i hlt, List.drop_append_of_le_length (by have := h.hf; rw [List.length_take]; omega)]
  rw [e]
  simp only [List.mem_append, List.mem_singleton, not_or]
  exact ⟨h.no, fun e => hc e.symm⟩
 eq := h.eq
theorem SpA.last {s : List UInt8} {c : UInt8} {t : SpT} (h : SpA s c t) (hi : t.i = s.length) : VaP.splitC c s = t.P ++ [s.drop t.f] := by
 have h1 := h.no
 rw [hi, List.take_of_length_le (Nat.le_refl _)] at h1
 rw [h.eq, VaP.split_no h1]
theorem strV_snoc (P : List (List UInt8)) (x : List UInt8) : strV P ++ [Value.string (bstr x)] = strV (P ++ [x]) := by simp [strV]
section
attribute [local irreducible] Calls Sym.AggEq ExP.nd ExP.dig ExP.upd ExP.writeF ExP.writeE
theorem rsplit_any (c : UInt8) (s : List UInt8) (w : World) (hs : s.length ≤ 1000000) : Calls Tryz.prog 126 #[.string (bstr s), .int .u8 (c.toNat : Int)] w fun e w' => BW w w' ∧ ∃ t : Nat × Nat, e = .returned (.slice (some ⟨t.1, 0, none⟩) (VaP.splitC c s).length t.2) ∧ ∀ q ∈ [((some ⟨t.1, 0, none⟩ : Option Addr), strV (VaP.splitC c s))], SlAt q.1 q.2 w' ∧ FreshX q.1 q.2 w := by
 obtain ⟨i0, hi, hz0, hz1, hz2⟩ := info_parts strInfo
 have hu := Tryz.underlying121
 have hsz := fun w => Tryz.sizeOf9 w
 have hzv := fun w => Tryz.zeroValue9 w
 have hcb := c.toNat_lt
 refine yE Tryz.func126 rfl Tryz.results126 Tryz.ntmps126 [] [] [.str s, .int .u8 (c.toNat : Int)] w ?_
 repeat' (first | refine yX ?_ | (apply And.intro <;> intro _) | apply bothI | refine retB fun β => ?_ | intro βe | exact trivial)
 refine loop env_ok rfl (T := {t : SpT // SpA s c t}) (fun t => spJ s (c.toNat : Int) t.1) (fun t => s.length - t.1.i) ⟨⟨0, 0, 0, 0, 0, []⟩, ⟨Nat.zero_le _, Nat.le_refl _, rfl, Nat.le_refl _, by simp, by simp⟩⟩ 1000 [] [] (fun t => by exact Nat.zero_le _) (by dsimp only [spJ]; ((with_reducible show wk _ _); repeat' (first | exact trivial | exact eqSV_refl _ | refine eqI ?_ | refine eqS ?_ | apply And.intro | exact yV | fail))) (fun t I hI => ?_)
 obtain ⟨⟨i, f, n, g, cap, P⟩, hA⟩ := t
 have b1 : i ≤ s.length := hA.hi
 have b2 : f ≤ i := hA.hf
 have b3 : P.length = n := hA.hn
 have b4 : n ≤ i := hA.hni
 dsimp only at hI ⊢
 have one1 : ∀ x : List UInt8, ∀ u ∈ [Value.string (bstr x)], u.oneCell' = true := fun x u hu => by rw [List.mem_singleton.1 hu]; rfl
 by_cases hlt : i < s.length
 ·have hH := hA.hit hlt
  have hM := hA.miss hlt
  dsimp only at hH hM
  have hq := (s.getD i 0).toNat_lt
  have hceq : ((s.getD i 0).toNat : Int) = (c.toNat : Int) → s.getD i 0 = c := fun h => UInt8.toNat_inj.1 (by omega)
  have hcne : ¬ ((s.getD i 0).toNat : Int) = (c.toNat : Int) → s.getD i 0 ≠ c := fun h e => h (by rw [e])
  clear hA
  cases n with
  | zero =>
    obtain rfl : P = [] := List.length_eq_zero_iff.1 b3
    dsimp only [spJ]
    repeat' (first | refine yX ?_ | (apply And.intro <;> intro _) | apply bothI | refine retB fun β => ?_ | intro βe | (refine opx_build1 (sz := 1) rfl rfl rfl (xs := [Value.string (bstr ((s.take i).drop f))]) (fun β => rfl) rfl (by omega) (by omega) hu hsz hzv (fun g1 => ?_)) | (refine opx_append0 (sz := 1) 0 rfl hu hi hz0 hz1 rfl (by omega) rfl rfl rfl (by unfold maxLen; omega) (by rw [hz2]; omega) (one1 _) (by omega) (fun g2 cap2 => ?_)) | ((with_reducible show ∃ _, _); first | (refine ⟨i, rfl, by omega, ?_⟩) | (refine ⟨f, i, rfl, rfl, by omega, by omega, ?_⟩)) | exact trivial)
    all_goals first | (exfalso; omega) | (refine hI _ ⟨⟨i + 1, i + 1, 0 + 1, g2, cap2, [] ++ [(s.take i).drop f]⟩, hH (hceq (by assumption)) g2 cap2⟩ (by dsimp only; omega) (by dsimp only [spJ]; ((with_reducible show wk _ _); repeat' (first | exact trivial | exact eqSV_refl _ | refine eqI ?_ | refine eqS ?_ | apply And.intro | exact yV | fail)); all_goals (exact fun b x h => h)); done) | (refine hI _ ⟨⟨i + 1, f, 0, g, cap, []⟩, hM (hcne (by assumption))⟩ (by dsimp only; omega) (by dsimp only [spJ]; ((with_reducible show wk _ _); repeat' (first | exact trivial | exact eqSV_refl _ | refine eqI ?_ | refine eqS ?_ | apply And.intro | exact yV | fail)); all_goals (exact fun b x h => h)); done) | trace_state
  | succ n =>
    dsimp only [spJ]
    repeat' (first | refine yX ?_ | (apply And.intro <;> intro _) | apply bothI | refine retB fun β => ?_ | intro βe | (refine opx_build1 (sz := 1) rfl rfl rfl (xs := [Value.string (bstr ((s.take i).drop f))]) (fun β => rfl) rfl (by omega) (by omega) hu hsz hzv (fun g1 => ?_)) | (refine opx_append (sz := 1) 1 2 rfl hu hi hz0 hz1 rfl (by omega) rfl rfl rfl rfl (by unfold maxLen; omega) (by rw [hz2]; omega) (one1 _) (by kernel_rfl) (Nat.zero_le _) (fun g2 cap2 => ?_)) | ((with_reducible show ∃ _, _); first | (refine ⟨i, rfl, by omega, ?_⟩) | (refine ⟨f, i, rfl, rfl, by omega, by omega, ?_⟩)) | exact trivial)
    all_goals first | (exfalso; omega) | (refine hI _ ⟨⟨i + 1, i + 1, n + 1 + 1, g2, cap2, P ++ [(s.take i).drop f]⟩, hH (hceq (by assumption)) g2 cap2⟩ (by dsimp only; omega) (by dsimp only [spJ]; rw [← strV_snoc]; ((with_reducible show wk _ _); repeat' (first | exact trivial | exact eqSV_refl _ | refine eqI ?_ | refine eqS ?_ | apply And.intro | exact yV | fail)); all_goals (exact fun b x h => h)); done) | (refine hI _ ⟨⟨i + 1, f, n + 1, g, cap, P⟩, hM (hcne (by assumption))⟩ (by dsimp only; omega) (by dsimp only [spJ]; ((with_reducible show wk _ _); repeat' (first | exact trivial | exact eqSV_refl _ | refine eqI ?_ | refine eqS ?_ | apply And.intro | exact yV | fail)); all_goals (exact fun b x h => h)); done) | trace_state
 ·have hE := hA.last (by dsimp only; omega)
  dsimp only at hE
  have hL : (VaP.splitC c s).length = n + 1 := by rw [hE, List.length_append, b3]; rfl
  rw [hL]
  rw [hE]
  clear hA hE
  cases n with
  | zero =>
    obtain rfl : P = [] := List.length_eq_zero_iff.1 b3
    dsimp only [spJ]
    repeat' (first | refine yX ?_ | (apply And.intro <;> intro _) | apply bothI | refine retB fun β => ?_ | intro βe | (refine opx_build1 (sz := 1) rfl rfl rfl (xs := [Value.string (bstr (s.drop f))]) (fun β => rfl) rfl (by omega) (by omega) hu hsz hzv (fun g1 => ?_)) | (refine opx_append0 (sz := 1) 0 rfl hu hi hz0 hz1 rfl (by omega) rfl rfl rfl (by unfold maxLen; omega) (by rw [hz2]; omega) (one1 _) (by omega) (fun g2 cap2 => ?_)) | ((with_reducible show ∃ _, _); first | (refine ⟨f, rfl, by omega, ?_⟩)) | exact trivial)
    all_goals first | (exfalso; omega) | skip
    refine ret fun β w' hm => ?_
    obtain ⟨r1, r2, r3⟩ := retOwnS hm 1 rfl
    exact ⟨hm.below, (g2, cap2), rfl, fun q hq => by
     obtain rfl := List.mem_singleton.1 hq
     exact ⟨r3.slAt r2, fun _ ad e => by cases e; exact r1⟩⟩
  | succ n =>
    dsimp only [spJ]
    repeat' (first | refine yX ?_ | (apply And.intro <;> intro _) | apply bothI | refine retB fun β => ?_ | intro βe | (refine opx_build1 (sz := 1) rfl rfl rfl (xs := [Value.string (bstr (s.drop f))]) (fun β => rfl) rfl (by omega) (by omega) hu hsz hzv (fun g1 => ?_)) | (refine opx_append (sz := 1) 1 2 rfl hu hi hz0 hz1 rfl (by omega) rfl rfl rfl rfl (by unfold maxLen; omega) (by rw [hz2]; omega) (one1 _) (by kernel_rfl) (Nat.zero_le _) (fun g2 cap2 => ?_)) | ((with_reducible show ∃ _, _); first | (refine ⟨f, rfl, by omega, ?_⟩)) | exact trivial)
    all_goals first | (exfalso; omega) | skip
    refine ret fun β w' hm => ?_
    obtain ⟨r1, r2, r3⟩ := retOwnS hm 1 rfl
    rw [strV_snoc] at r3
    exact ⟨hm.below, (g2, cap2), rfl, fun q hq => by
     obtain rfl := List.mem_singleton.1 hq
     exact ⟨r3.slAt r2, fun _ ad e => by cases e; exact r1⟩⟩
end
end Go.Proofs.YtdkhkfdenlabaaaGreatDoor
