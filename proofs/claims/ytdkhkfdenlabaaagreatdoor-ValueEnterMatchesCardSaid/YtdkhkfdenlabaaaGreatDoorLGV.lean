/- Values, the reference: a number that is entered. Values, the reference: mixed numbers: the walk. Values, the reference: the calendar. -/
import Derived.Test.YtdkhkfdenlabaaaGreatDoorLGG
import Derived.Test.YtdkhkfdenlabaaaGreatDoorLVaR11
import Derived.Test.YtdkhkfdenlabaaaGreatDoorLGQ
set_option linter.unusedSimpArgs false
set_option linter.unusedVariables false
set_option maxRecDepth 100000
set_option maxHeartbeats 64000000
namespace Go.Proofs.YtdkhkfdenlabaaaGreatDoor
open Go.RowKit
open Sym
attribute [local irreducible] Calls Sym.AggEq ExP.nd ExP.dig ExP.upd ExP.writeF ExP.writeE
def RReads (f : FuncId) (s : List UInt8) (V : Option ExP.Num) (w : World) : Prop := ∃ N : ExP.Num, (∀ x, V = some x → N = x) ∧ ∀ w', BW w w' → Calls Tryz.prog f #[.string (bstr s)] w' (FrOutB .i64 10 N V.isSome w')
namespace ExP
theorem nd_times {x a j : Nat} (h : x < 10 ^ a) : nd 10 (x * 10 ^ j) ≤ a + j :=
 nd_le (by omega) (by rw [Nat.pow_add]; exact Nat.mul_lt_mul_of_pos_right h (Nat.pow_pos (by omega)))
theorem cutM_len (s : Str) : (cutM s).1.length ≤ s.length := by
 unfold cutM
 split
 ·simp
 ·exact Nat.le_refl _
theorem run_len2 (s : Str) : (runD s).length ≤ s.length ∧ (runR s).length ≤ s.length := by
 have h := run_len s
 omega
theorem dec_small {t : Str} (h : parE t = 0) : nd 10 (decN t).n ≤ 5000 ∧ nd 10 (decN t).d ≤ 5000 ∧ 0 < (decN t).d := by
 unfold parE at h
 split at h
 ·omega
 rename_i hl
 split at h
 ·omega
 rename_i hb
 simp only [not_or] at hb
 obtain ⟨-, -, hb⟩ := hb
 have hW : (decW t).length ≤ 1000 := Nat.le_trans (run_len2 _).1 (Nat.le_trans (cutM_len t) (by omega))
 have hR := Nat.le_trans (run_len2 (cutM t).1).2 (Nat.le_trans (cutM_len t) (by omega : t.length ≤ 1000))
 have hP : (decP t).length ≤ 1000 ∧ (decP t).all digC = true := by
  unfold decP parD
  split
  ·refine ⟨Nat.le_trans (run_len2 _).1 (by rw [List.length_tail]; omega), runD_all _⟩
  ·exact ⟨by simp, rfl⟩
 have hWa : (decW t).all digC = true := runD_all _
 have hx : (expV (decT t)).natAbs ≤ 1000 := by
  cases hT : decT t with
  | nil => simp [expV]
  | cons c r =>
    rw [hT] at hb
    simp only [expB, Bool.not_eq_false, Bool.and_eq_true] at hb
    have h3 := val3 hb.2
    show (if sgnP r = true then -(valS (sgnR r) : Int) else (valS (sgnR r) : Int)).natAbs ≤ 1000
    split <;> omega
 obtain ⟨K, hK⟩ : ∃ K, K = 2000 := ⟨_, rfl⟩
 have hv := val_lt (decW t ++ decP t) (by rw [List.all_append, hWa, hP.2]; rfl)
 have hv2 : valS (decW t ++ decP t) < 10 ^ K := Nat.lt_of_lt_of_le hv (Nat.pow_le_pow_right (by omega) (by rw [List.length_append]; omega))
 clear hb
 unfold decN scaleN
 generalize valS (decW t ++ decP t) = n at *
 generalize expV (decT t) = e at *
 generalize (decP t).length = p at *
 split
 ·dsimp only
  refine ⟨Nat.le_trans (nd_le (by omega) hv2) (by omega), ?_, ?_⟩
  ·rw [Nat.one_mul]
   have := nd_times (x := 1) (a := 1) (j := (e - (p : Int)).natAbs) (by omega)
   rw [Nat.one_mul] at this
   omega
  ·rw [Nat.one_mul]; exact Nat.pow_pos (by omega)
 ·dsimp only
  refine ⟨Nat.le_trans (nd_times hv2) (by omega), by rw [nd_one (by omega)]; omega, Nat.one_pos⟩
theorem scale_small {x : Num} (h : nd 10 x.d ≤ 5000) : nd 10 (scaleN x (-2)).d ≤ 1000000 := by
 have e : (scaleN x (-2)).d = x.d * 10 ^ 2 := rfl
 rw [e]
 exact Nat.le_trans (nd_times (nd_lt (by omega) x.d)) (by omega)
end ExP
theorem VaP.pct_iff (q : List UInt8) : VaP.cutP q = if q ≠ [] ∧ (q.getD (q.length - 1) 0).toNat = 37 then (List.take (q.length - 1) q, true) else (q, false) := by
 unfold VaP.cutP
 have hg : q.getLast? = some 37 ↔ q ≠ [] ∧ (q.getD (q.length - 1) 0).toNat = 37 := by
  rw [List.getLast?_eq_getElem?]
  cases q with
  | nil => simp
  | cons c r =>
    have hl : (c :: r).length - 1 < (c :: r).length := by simp
    rw [List.getD_eq_getElem?_getD, List.getElem?_eq_getElem hl]
    simp only [Option.some.injEq, Option.getD_some, ne_eq, reduceCtorEq, not_false_eq_true, true_and]
    exact ⟨fun h => by rw [h]; rfl, fun h => UInt8.toNat_inj.1 (by rw [h]; rfl)⟩
 by_cases h : q ≠ [] ∧ (q.getD (q.length - 1) 0).toNat = 37
 ·rw [if_pos h, if_pos (hg.2 h), List.dropLast_eq_take]
 ·rw [if_neg h, if_neg (fun h' => h (hg.1 h'))]
theorem renum_any (s : List UInt8) (w : World) (hw0 : 0 < w.heap.size) (hs : s ≠ []) (hl : s.length ≤ 40000) : RReads 63 s (VaP.numV s) w := by
 rw [VaP.numV_eq]
 obtain ⟨c, r, rfl⟩ : ∃ c r, s = c :: r := by
  cases s with
  | nil => exact absurd rfl hs
  | cons c r => exact ⟨c, r, rfl⟩
 have hrl : r.length ≤ 40000 := by simp at hl; omega
 obtain ⟨q, hq⟩ : ∃ q, (VaP.sgn (c :: r)).2 = q := ⟨_, rfl⟩
 obtain ⟨sg, hsg⟩ : ∃ sg, (VaP.sgn (c :: r)).1 = sg := ⟨_, rfl⟩
 have hql : q.length ≤ 40001 := by
  rw [← hq]; unfold VaP.sgn
  split
  ·simp; omega
  ·split
   ·simp; omega
   ·simp; omega
 have hsgl : sg.length ≤ 1 := by
  rw [← hsg]; rcases VaP.sgn_two (c :: r) with h | h <;> rw [h] <;> simp
 have hq1 : (VaP.cutP q).1.length ≤ 40001 := by
  rw [VaP.pct_iff]
  split
  ·simp; omega
  ·exact hql
 have hN : VaP.numR (c :: r) = if VaP.okG (VaP.splitC 44 (VaP.dcD (VaP.cutP q).1)) = true then VaP.numG (sg ++ ((VaP.splitC 44 (VaP.dcD (VaP.cutP q).1)).flatten ++ VaP.dcR (VaP.cutP q).1)) (VaP.cutP q).2 else none := by
  unfold VaP.numR VaP.numL
  rw [hq, hsg]
 have happ : VaP.dcD (VaP.cutP q).1 ++ VaP.dcR (VaP.cutP q).1 = (VaP.cutP q).1 := by unfold VaP.dcD VaP.dcR; exact List.takeWhile_append_dropWhile
 have hu : (VaP.dcD (VaP.cutP q).1).length ≤ 40001 := by
  have := congrArg List.length happ
  rw [List.length_append] at this
  omega
 have hS := fun (w' : World) => spanD_any (VaP.cutP q).1 w' (by omega)
 have hL := fun (w' : World) => rsplit_any 44 (VaP.dcD (VaP.cutP q).1) w' (by omega)
 have hA := fun (g : List UInt8) (h : g.length ≤ 100000) (w' : World) => allDigits_any g w' (by omega)
 have hgl : ∀ (l : List (List UInt8)) (u : List UInt8), VaP.splitC 44 u = l → l.flatten.length ≤ u.length ∧ l.length ≤ u.length + 1 ∧ l ≠ [] := by
  intro l u
  induction u generalizing l with
  | nil => intro h; rw [← h]; simp [VaP.splitC]
  | cons x u ih =>
    intro h
    obtain ⟨i1, i2, i3⟩ := ih _ rfl
    rw [← h]
    unfold VaP.splitC
    split
    ·simp only [List.flatten_cons, List.length_append, List.length_cons, List.length_nil]; exact ⟨by omega, by omega, by simp⟩
    ·split
     ·simp
     ·rename_i h0
      rw [h0] at i1 i2
      simp only [List.flatten_cons, List.length_append, List.length_cons] at i1 i2 ⊢
      exact ⟨by omega, by omega, by simp⟩
 obtain ⟨g1, g2, g3⟩ := hgl _ _ rfl
 have hok := VaP.okG_iff g3
 have hM := fun (w' : World) => has_any (c :: r) 45 w' (by omega)
 have hP := fun (w' : World) => has_any (c :: r) 43 w' (by omega)
 have hpc := VaP.pct_iff q
 obtain ⟨gs, hgs⟩ : ∃ gs, VaP.splitC 44 (VaP.dcD (VaP.cutP q).1) = gs := ⟨_, rfl⟩
 obtain ⟨t, ht⟩ : ∃ t, t = sg ++ gs.flatten ++ VaP.dcR (VaP.cutP q).1 := ⟨_, rfl⟩
 rw [hgs] at hN g1 g2 g3 hok hL
 have hR := fun (w' : World) (h : BW w w') => readDec_law t w' (Nat.lt_of_lt_of_le hw0 h.size)
 have hds := @ExP.dec_small t
 have hNt : VaP.numR (c :: r) = if VaP.okG gs = true then VaP.numG t (VaP.cutP q).2 else none := by rw [hN, ht, List.append_assoc]
 clear hN hgs hl hs
 rw [hNt]
 unfold VaP.numG
 obtain ⟨N0, hN0⟩ : ∃ N0, N0 = if ExP.parE t = 0 then ExP.decN t else ⟨false, 0, 0⟩ := ⟨_, rfl⟩
 obtain ⟨E0, hE0⟩ : ∃ E0 : Int, E0 = if ExP.parE t = 0 then ExP.writeE (ExP.decN t) else ExP.parE t := ⟨_, rfl⟩
 rw [← hN0, ← hE0] at hR
 have hgood : E0 = 0 → ExP.parE t = 0 ∧ ExP.writeE (ExP.decN t) = 0 ∧ N0 = ExP.decN t := fun h => by
  rw [hE0] at h
  split at h
  ·rename_i hp; rw [if_pos hp] at hN0; exact ⟨hp, h, hN0⟩
  ·rename_i hp; exact absurd h hp
 have hbad : E0 ≠ 0 → ExP.parE t ≠ 0 ∨ ExP.writeE (ExP.decN t) ≠ 0 := fun h => by
  rw [hE0] at h
  split at h
  ·exact .inr h
  ·exact .inl ‹_›
 clear hN0 hE0
 have hFr : E0 = 0 → OnX2 w N0 fun x w' => Calls Tryz.prog 103 #[x.val 10] w' (WrOut ((ExP.writeF N0).1, (ExP.writeF N0).2) (ExP.writeE N0) w') := fun h x w' hb hx hxN => by
  obtain ⟨h1, h2, h3⟩ := hgood h
  obtain ⟨d1, d2, d3⟩ := hds h1
  have e : x.num.d = (ExP.decN t).d := by rw [hxN, h3]
  have := rfrac_any x w' (Nat.lt_of_lt_of_le hw0 hb.size) hx (by show 0 < x.num.d; omega) (by show ExP.nd 10 x.num.n ≤ _; rw [hxN, h3]; omega) (by show ExP.nd 10 x.num.d ≤ _; rw [hxN, h3]; omega)
  rw [hxN] at this
  exact this
 have hSc : E0 = 0 → OnX2 w N0 fun x w' => Calls Tryz.prog 129 #[x.val 10, .int .i64 (-2)] w' (FrAny (Lz x.n x.a (Lz x.d x.b [])) .i64 10 (ExP.scaleN N0 (-2)) w') := fun h x w' hb hx hxN => by
  obtain ⟨h1, h2, h3⟩ := hgood h
  obtain ⟨d1, d2, d3⟩ := hds h1
  have := rscaled_fr x (-2) w' (Nat.lt_of_lt_of_le hw0 hb.size) (by decide) hx (by show ExP.nd 10 x.num.n ≤ _; rw [hxN, h3]; omega) (by show ExP.nd 10 x.num.d ≤ _; rw [hxN, h3]; omega)
  rw [hxN] at this
  exact this
 have hFs : E0 = 0 → OnX2 w (ExP.scaleN N0 (-2)) fun x w' => Calls Tryz.prog 103 #[x.val 10] w' (WrOut ((ExP.writeF (ExP.scaleN N0 (-2))).1, (ExP.writeF (ExP.scaleN N0 (-2))).2) (ExP.writeE (ExP.scaleN N0 (-2))) w') := fun h x w' hb hx hxN => by
  obtain ⟨h1, h2, h3⟩ := hgood h
  obtain ⟨d1, d2, d3⟩ := hds h1
  have hn : (ExP.scaleN N0 (-2)).n = N0.n := rfl
  have := rfrac_any x w' (Nat.lt_of_lt_of_le hw0 hb.size) hx (by show 0 < x.num.d; rw [hxN]; exact ExP.scale_pos (by rw [h3]; exact d3)) (by show ExP.nd 10 x.num.n ≤ _; rw [hxN, hn, h3]; omega) (by show ExP.nd 10 x.num.d ≤ _; rw [hxN]; exact ExP.scale_small (by rw [h3]; exact d2))
  rw [hxN] at this
  exact this
 have hallI : (∀ i g, gs[i]? = some g → VaP.grpOk gs.length i g) → VaP.okG gs = true := hok.2
 have hbadI : ∀ i g, gs[i]? = some g → ¬ VaP.grpOk gs.length i g → ¬ VaP.okG gs = true := fun i g h1 h2 h3 => h2 (hok.1 h3 i g h1)
 clear hok hgl
 have hl' : r.length ≤ 100000 := by omega
 have hsgn : ((c.toNat : Int) = 45 ∧ sg = [45] ∧ q = List.drop 1 (c :: r)) ∨ ((c.toNat : Int) = 43 ∧ sg = [] ∧ q = List.drop 1 (c :: r)) ∨ (((c.toNat : Int) ≠ 45 ∧ (c.toNat : Int) ≠ 43) ∧ sg = [] ∧ q = c :: r) := by
  rw [← hq, ← hsg]
  unfold VaP.sgn
  simp only [List.head?_cons, Option.some.injEq, List.tail_cons, List.drop_one]
  by_cases h43 : c = 43
  ·subst h43; right; left; exact ⟨rfl, rfl, rfl⟩
  ·by_cases h45 : c = 45
   ·subst h45; left; exact ⟨rfl, rfl, rfl⟩
   ·right; right
    rw [if_neg h43, if_neg h45]
    exact ⟨⟨fun h => h45 (UInt8.toNat_inj.1 (by show c.toNat = 45; omega)), fun h => h43 (UInt8.toNat_inj.1 (by show c.toNat = 43; omega))⟩, rfl, rfl⟩
 have hh : ∀ x : UInt8, ((c :: r).head? == some x) = decide (c = x) := fun x => by
  rw [Bool.eq_iff_iff]; simp
 rw [hh] at hM hP
 by_cases hp : q ≠ [] ∧ (q.getD (q.length - 1) 0).toNat = 37
 ·rw [if_pos hp] at hpc
  rw [hpc] at hS hL hu g1 g2 happ ht ⊢
  dsimp only at hS hL hu g1 g2 happ ht ⊢
  obtain ⟨hp0, hp1⟩ := hp
  have hp2 : ((q.getD (q.length - 1) 0).toNat : Int) = 37 := by omega
  refine ⟨if VaP.okG gs = true ∧ E0 = 0 then ExP.scaleN N0 (-2) else ⟨false, 0, 0⟩, fun x hx => ?_, fun w' hb => ?_⟩
  ·split at hx
   ·rename_i ho
    split at hx
    ·cases hx
    ·rename_i hn
     simp only [not_or, Decidable.not_not] at hn
     simp only [if_true] at hx
     have hE : E0 = 0 := Decidable.byContradiction fun h => (hbad h).elim (fun h => h hn.1) (fun h => h hn.2)
     rw [if_pos ⟨ho, hE⟩, (hgood hE).2.2]
     split at hx
     ·cases hx; rfl
     ·cases hx
   ·cases hx
  ·have hw0' := Nat.lt_of_lt_of_le hw0 hb.size
   obtain ⟨V, hV⟩ : ∃ V, V = (if VaP.okG gs = true then (if ExP.parE t ≠ 0 ∨ ExP.writeE (ExP.decN t) ≠ 0 then none else if true = true then (if ExP.writeE (ExP.scaleN (ExP.decN t) (-2)) = 0 then some (ExP.scaleN (ExP.decN t) (-2)) else none) else some (ExP.decN t)) else none) := ⟨_, rfl⟩
   rw [← hV]
   have v1 : ¬ VaP.okG gs = true → V.isSome = false := fun h => by rw [hV, if_neg h]; rfl
   have v2 : VaP.okG gs = true → E0 ≠ 0 → V.isSome = false := fun h h2 => by rw [hV, if_pos h, if_pos (hbad h2)]; rfl
   have v3 : VaP.okG gs = true → E0 = 0 → V.isSome = decide (ExP.writeE (ExP.scaleN N0 (-2)) = 0) := fun h h2 => by
    obtain ⟨k1, k2, k3⟩ := hgood h2
    rw [hV, if_pos h, if_neg (fun h => h.elim (fun h => h k1) (fun h => h k2)), if_pos rfl, k3]
    by_cases h3 : ExP.writeE (ExP.scaleN (ExP.decN t) (-2)) = 0
    ·rw [if_pos h3, decide_eq_true h3]; rfl
    ·rw [if_neg h3, decide_eq_false h3]; rfl
   have a1 : ∀ i g, gs[i]? = some g → ¬ VaP.grpOk gs.length i g → V.isSome = false ∧ (if VaP.okG gs = true ∧ E0 = 0 then ExP.scaleN N0 (-2) else ⟨false, 0, 0⟩) = ⟨false, 0, 0⟩ := fun i g h1 h2 => ⟨v1 (hbadI i g h1 h2), if_neg (fun h => hbadI i g h1 h2 h.1)⟩
   have a2 : (∀ i g, gs[i]? = some g → VaP.grpOk gs.length i g) → E0 ≠ 0 → V.isSome = false ∧ (if VaP.okG gs = true ∧ E0 = 0 then ExP.scaleN N0 (-2) else ⟨false, 0, 0⟩) = ⟨false, 0, 0⟩ := fun h h2 => ⟨v2 (hallI h) h2, if_neg (fun h => h2 h.2)⟩
   have a3 : (∀ i g, gs[i]? = some g → VaP.grpOk gs.length i g) → E0 = 0 → V.isSome = decide (ExP.writeE (ExP.scaleN N0 (-2)) = 0) := fun h h2 => v3 (hallI h) h2
   have a4 : (∀ i g, gs[i]? = some g → VaP.grpOk gs.length i g) → E0 = 0 → OnX2 w' N0 fun x w2 => Calls Tryz.prog 129 #[x.val 10, .int .i64 (-2)] w2 (FrAny (Lz x.n x.a (Lz x.d x.b [])) .i64 10 (if VaP.okG gs = true ∧ E0 = 0 then ExP.scaleN N0 (-2) else ⟨false, 0, 0⟩) w2) := fun h h2 x w2 hb2 hx hxN => by
    rw [if_pos ⟨hallI h, h2⟩]; exact hSc h2 x w2 (belT hb hb2) hx hxN
   have a5 : (∀ i g, gs[i]? = some g → VaP.grpOk gs.length i g) → E0 = 0 → OnX2 w' (if VaP.okG gs = true ∧ E0 = 0 then ExP.scaleN N0 (-2) else ⟨false, 0, 0⟩) fun x w2 => Calls Tryz.prog 103 #[x.val 10] w2 (WrOut ((ExP.writeF (ExP.scaleN N0 (-2))).1, (ExP.writeF (ExP.scaleN N0 (-2))).2) (ExP.writeE (ExP.scaleN N0 (-2))) w2) := fun h h2 x w2 hb2 hx hxN => by
    rw [if_pos ⟨hallI h, h2⟩] at hxN; exact hFs h2 x w2 (belT hb hb2) hx hxN
   have hR' : (∀ i g, gs[i]? = some g → VaP.grpOk gs.length i g) → ∀ w2, BW w' w2 → Calls Tryz.prog 128 #[.string (bstr (sg ++ gs.flatten ++ VaP.dcR (List.take (q.length - 1) q)))] w2 (FrOutE .i64 10 N0 E0 w2) := fun _ w2 hb2 => by rw [← ht]; exact hR w2 (belT hb hb2)
   rcases hsgn with ⟨hc, rfl, rfl⟩ | ⟨hc, rfl, rfl⟩ | ⟨hc, rfl, rfl⟩
   ·have e45 : c = 45 := UInt8.toNat_inj.1 (by show c.toNat = 45; omega)
    rw [e45] at hM hP
    exact rnum_minus_pct c _ _ _ gs _ w' hw0' hl' hc hp0 hp2 happ rfl (by omega) (by omega) (by rw [e45]; exact hM) (by rw [e45]; exact hP) hS hL hA _ _ a1 _ _ _ hR' a2 a4 _ _ a5 a3
   ·have e43 : c = 43 := UInt8.toNat_inj.1 (by show c.toNat = 43; omega)
    rw [e43] at hM hP
    exact rnum_plus_pct c _ _ _ gs _ w' hw0' hl' hc hp0 hp2 happ rfl (by omega) (by omega) (by rw [e43]; exact hM) (by rw [e43]; exact hP) hS hL hA _ _ a1 _ _ _ hR' a2 a4 _ _ a5 a3
   ·have n45 : ¬ c = 45 := fun e => hc.1 (by rw [e]; rfl)
    have n43 : ¬ c = 43 := fun e => hc.2 (by rw [e]; rfl)
    rw [decide_eq_false n45] at hM
    rw [decide_eq_false n43] at hP
    exact rnum_none_pct c r _ _ gs _ w' hw0' hl' hc hp0 hp2 happ rfl (by omega) (by omega) hM hP hS hL hA _ _ a1 _ _ _ hR' a2 a4 _ _ a5 a3
 ·rw [if_neg hp] at hpc
  rw [hpc] at hS hL hu g1 g2 happ ht ⊢
  dsimp only at hS hL hu g1 g2 happ ht ⊢
  have hp2 : q = [] ∨ ¬ ((q.getD (q.length - 1) 0).toNat : Int) = 37 := by
   by_cases h : q = []
   ·exact .inl h
   ·exact .inr (fun h2 => hp ⟨h, by omega⟩)
  refine ⟨if VaP.okG gs = true ∧ E0 = 0 then N0 else ⟨false, 0, 0⟩, fun x hx => ?_, fun w' hb => ?_⟩
  ·split at hx
   ·rename_i ho
    split at hx
    ·cases hx
    ·rename_i hn
     simp only [not_or, Decidable.not_not] at hn
     rw [if_neg Bool.false_ne_true] at hx
     have hE : E0 = 0 := Decidable.byContradiction fun h => (hbad h).elim (fun h => h hn.1) (fun h => h hn.2)
     rw [if_pos ⟨ho, hE⟩, (hgood hE).2.2]
     cases hx; rfl
   ·cases hx
  ·have hw0' := Nat.lt_of_lt_of_le hw0 hb.size
   obtain ⟨V, hV⟩ : ∃ V, V = (if VaP.okG gs = true then (if ExP.parE t ≠ 0 ∨ ExP.writeE (ExP.decN t) ≠ 0 then none else if false = true then (if ExP.writeE (ExP.scaleN (ExP.decN t) (-2)) = 0 then some (ExP.scaleN (ExP.decN t) (-2)) else none) else some (ExP.decN t)) else none) := ⟨_, rfl⟩
   rw [← hV]
   have v1 : ¬ VaP.okG gs = true → V.isSome = false := fun h => by rw [hV, if_neg h]; rfl
   have v2 : VaP.okG gs = true → E0 ≠ 0 → V.isSome = false := fun h h2 => by rw [hV, if_pos h, if_pos (hbad h2)]; rfl
   have v3 : VaP.okG gs = true → E0 = 0 → V.isSome = decide (ExP.writeE N0 = 0) := fun h h2 => by
    obtain ⟨k1, k2, k3⟩ := hgood h2
    rw [hV, if_pos h, if_neg (fun h => h.elim (fun h => h k1) (fun h => h k2)), if_neg Bool.false_ne_true, k3, decide_eq_true k2]; rfl
   have a1 : ∀ i g, gs[i]? = some g → ¬ VaP.grpOk gs.length i g → V.isSome = false ∧ (if VaP.okG gs = true ∧ E0 = 0 then N0 else ⟨false, 0, 0⟩) = ⟨false, 0, 0⟩ := fun i g h1 h2 => ⟨v1 (hbadI i g h1 h2), if_neg (fun h => hbadI i g h1 h2 h.1)⟩
   have a2 : (∀ i g, gs[i]? = some g → VaP.grpOk gs.length i g) → E0 ≠ 0 → V.isSome = false ∧ (if VaP.okG gs = true ∧ E0 = 0 then N0 else ⟨false, 0, 0⟩) = ⟨false, 0, 0⟩ := fun h h2 => ⟨v2 (hallI h) h2, if_neg (fun h => h2 h.2)⟩
   have a3 : (∀ i g, gs[i]? = some g → VaP.grpOk gs.length i g) → E0 = 0 → (if VaP.okG gs = true ∧ E0 = 0 then N0 else ⟨false, 0, 0⟩) = N0 ∧ V.isSome = decide (ExP.writeE N0 = 0) := fun h h2 => ⟨if_pos ⟨hallI h, h2⟩, v3 (hallI h) h2⟩
   have a5 : (∀ i g, gs[i]? = some g → VaP.grpOk gs.length i g) → E0 = 0 → OnX2 w' N0 fun x w2 => Calls Tryz.prog 103 #[x.val 10] w2 (WrOut ((ExP.writeF N0).1, (ExP.writeF N0).2) (ExP.writeE N0) w2) := fun h h2 x w2 hb2 hx hxN => hFr h2 x w2 (belT hb hb2) hx hxN
   have hR' : (∀ i g, gs[i]? = some g → VaP.grpOk gs.length i g) → ∀ w2, BW w' w2 → Calls Tryz.prog 128 #[.string (bstr (sg ++ gs.flatten ++ VaP.dcR q))] w2 (FrOutE .i64 10 N0 E0 w2) := fun _ w2 hb2 => by rw [← ht]; exact hR w2 (belT hb hb2)
   rcases hsgn with ⟨hc, rfl, rfl⟩ | ⟨hc, rfl, rfl⟩ | ⟨hc, rfl, rfl⟩
   ·have e45 : c = 45 := UInt8.toNat_inj.1 (by show c.toNat = 45; omega)
    rw [e45] at hM hP
    exact rnum_minus_no c _ _ _ gs _ w' hw0' hl' hc hp2 happ rfl (by omega) (by omega) (by rw [e45]; exact hM) (by rw [e45]; exact hP) hS hL hA _ _ a1 _ _ _ hR' a2 _ _ a5 a3
   ·have e43 : c = 43 := UInt8.toNat_inj.1 (by show c.toNat = 43; omega)
    rw [e43] at hM hP
    exact rnum_plus_no c _ _ _ gs _ w' hw0' hl' hc hp2 happ rfl (by omega) (by omega) (by rw [e43]; exact hM) (by rw [e43]; exact hP) hS hL hA _ _ a1 _ _ _ hR' a2 _ _ a5 a3
   ·have n45 : ¬ c = 45 := fun e => hc.1 (by rw [e]; rfl)
    have n43 : ¬ c = 43 := fun e => hc.2 (by rw [e]; rfl)
    rw [decide_eq_false n45] at hM
    rw [decide_eq_false n43] at hP
    exact rnum_none_no c r _ _ gs _ w' hw0' hl' hc hp2 happ rfl (by omega) (by omega) hM hP hS hL hA _ _ a1 _ _ _ hR' a2 _ _ a5 a3
theorem str3_cells (a b c : List UInt8) : ∀ β, ∀ u ∈ SV.dens β [.str a, .str b, .str c], u.cells = #[u] := by
 intro β u hu
 simp only [SV.dens, SV.den, List.mem_cons, List.not_mem_nil, or_false] at hu
 rcases hu with rfl | rfl | rfl <;> rfl
section
variable (s t : List UInt8) (m : Bool) (l1 : List (List UInt8)) (w : World) (hw0 : 0 < w.heap.size) (hs1 : m = true → 1 ≤ s.length)
 (hM : ∀ w' : World, QC 122 #[.string (bstr s), .string (bstr [45])] w' (.bool m))
 (ht1 : m = true → List.drop 1 s = t) (ht0 : m = false → s = t)
 (hS : ∀ w' : World, Calls Tryz.prog 126 #[.string (bstr t), .int .u8 32] w' (fun e w'' => BW w' w'' ∧ ∃ t : Nat × Nat, e = .returned (.slice (some ⟨t.1, 0, none⟩) (l1).length t.2) ∧ ∀ q ∈ [((some ⟨t.1, 0, none⟩ : Option Addr), strV l1)], SlAt q.1 q.2 w'' ∧ FreshX q.1 q.2 w'))
include hw0 hs1 hM ht1 ht0 hS
theorem rmix_len (h : l1.length ≠ 2) : Calls Tryz.prog 64 #[.string (bstr s)] w (FrOutB .i64 10 ⟨false, 0, 0⟩ false w) := by
 generalize hn : l1.length = n at *
 generalize strV l1 = xs at *
 refine yE Tryz.func64 rfl Tryz.results64 Tryz.ntmps64 [13] [] [.str s] w ?_
 repeat' (first | refine yX ?_ | (apply And.intro <;> intro _) | apply bothI | refine retB fun β => ?_ | intro βe | refine yK (.bool m) (fun β w hm => hM w) ?_ | exact trivial)
 refine yJ (T := Unit) (fun _ => ⟨[(0, .str t), (2, .ptr 0 0), (4, .bool m)], [(0, true, .cells 72 [.lit false, .any (.slice none 0 0), .any (.slice none 0 0)])], 1, 77⟩) [] [] [] [] (fun I hI => ?_) (fun _ => ?_)
 ·repeat' (first | refine yX ?_ | (apply And.intro <;> intro _) | apply bothI | refine retB fun β => ?_ | intro βe | ((with_reducible show ∃ _, _); first | (refine ⟨1, rfl, hs1 (by assumption), ?_⟩)) | exact trivial)
  all_goals exact hI _ () (by ((with_reducible show wk _ _); repeat' (first | exact trivial | exact eqSV_refl _ | refine eqI ?_ | refine eqS ?_ | apply And.intro | exact yV | fail)); all_goals first | exact ht1 (by assumption) | exact ht0 (by assumption))
 repeat' (first | refine yX ?_ | (apply And.intro <;> intro _) | apply bothI | refine retB fun β => ?_ | intro βe | (refine callSls (T := Nat × Nat) (fun t => .any (.slice (some ⟨t.1, 0, none⟩) n t.2)) (fun t => [(some ⟨t.1, 0, none⟩, xs)]) hw0 (by kernel_rfl) rfl (fun _ => rfl) (fun β w' hm => hS w') (fun p _ => ?_)) | refine yO (x_len Tryz.underlying121) ?_ | exact trivial)
 all_goals first | (exfalso; omega) | (refine ret fun β w' hm => ?_; exact ⟨⟨false, 0, 0, none, 0, none, 0⟩, by simp [FrV.val, ExP.nd_zero, SV.den, SV.dens], rfl, FrCap0, Ls0, hm.below⟩) | trace_state
variable (wd rr : List UInt8) (hl1 : l1 = [wd, rr]) (l2 : List (List UInt8))
 (hS2 : ∀ w' : World, Calls Tryz.prog 126 #[.string (bstr rr), .int .u8 47] w' (fun e w'' => BW w' w'' ∧ ∃ t : Nat × Nat, e = .returned (.slice (some ⟨t.1, 0, none⟩) (l2).length t.2) ∧ ∀ q ∈ [((some ⟨t.1, 0, none⟩ : Option Addr), strV l2)], SlAt q.1 q.2 w'' ∧ FreshX q.1 q.2 w'))
include hl1 hS2
theorem rmix_len2 (h : l2.length ≠ 2) : Calls Tryz.prog 64 #[.string (bstr s)] w (FrOutB .i64 10 ⟨false, 0, 0⟩ false w) := by
 subst hl1
 have hx1 : (strV [wd, rr])[1]? = some (.string (bstr rr)) := rfl
 generalize hn : l2.length = n at *
 generalize strV l2 = ys at *
 generalize strV [wd, rr] = xs at *
 refine yE Tryz.func64 rfl Tryz.results64 Tryz.ntmps64 [13] [] [.str s] w ?_
 repeat' (first | refine yX ?_ | (apply And.intro <;> intro _) | apply bothI | refine retB fun β => ?_ | intro βe | refine yK (.bool m) (fun β w hm => hM w) ?_ | exact trivial)
 refine yJ (T := Unit) (fun _ => ⟨[(0, .str t), (2, .ptr 0 0), (4, .bool m)], [(0, true, .cells 72 [.lit false, .any (.slice none 0 0), .any (.slice none 0 0)])], 1, 77⟩) [] [] [] [] (fun I hI => ?_) (fun _ => ?_)
 ·repeat' (first | refine yX ?_ | (apply And.intro <;> intro _) | apply bothI | refine retB fun β => ?_ | intro βe | ((with_reducible show ∃ _, _); first | (refine ⟨1, rfl, hs1 (by assumption), ?_⟩)) | exact trivial)
  all_goals exact hI _ () (by ((with_reducible show wk _ _); repeat' (first | exact trivial | exact eqSV_refl _ | refine eqI ?_ | refine eqS ?_ | apply And.intro | exact yV | fail)); all_goals first | exact ht1 (by assumption) | exact ht0 (by assumption))
 repeat' (first | refine yX ?_ | (apply And.intro <;> intro _) | apply bothI | refine retB fun β => ?_ | intro βe | (refine callSls (T := Nat × Nat) (fun t => .any (.slice (some ⟨t.1, 0, none⟩) 2 t.2)) (fun t => [(some ⟨t.1, 0, none⟩, xs)]) hw0 (by kernel_rfl) rfl (fun _ => rfl) (fun β w' hm => hS w') (fun p _ => ?_)) | (refine callSls (T := Nat × Nat) (fun t => .any (.slice (some ⟨t.1, 0, none⟩) n t.2)) (fun t => [(some ⟨t.1, 0, none⟩, ys)]) hw0 (by kernel_rfl) rfl (fun _ => rfl) (fun β w' hm => hS2 w') (fun p2 _ => ?_)) | refine yO (x_len Tryz.underlying121) ?_ | refine yN (j := 1) Tryz.underlying121 Tryz.sizeOf9 ?_ | refine yO (v := .str rr) (x_loadF 1 (.str rr) (fun w => Tryz.isAgg9 w) rfl (fun β => hx1)) ?_ | exact trivial)
 all_goals first | (exfalso; omega) | (refine ret fun β w' hm => ?_; exact ⟨⟨false, 0, 0, none, 0, none, 0⟩, by simp [FrV.val, ExP.nd_zero, SV.den, SV.dens], rfl, FrCap0, Ls0, hm.below⟩) | trace_state
variable (a b : List UInt8) (hl2 : l2 = [a, b])
 (hA : ∀ g ∈ [wd, a, b], ∀ w' : World, QC 127 #[.string (bstr g)] w' (.bool (VaP.adP g)))
 (N : ExP.Num) (ok : Bool) (hbad : ¬ (VaP.wh wd = true ∧ VaP.wh a = true ∧ VaP.wh b = true) → ok = false ∧ N = ⟨false, 0, 0⟩)
 (hNb : VaP.wh b = true → ∀ w' : World, Calls Tryz.prog 130 #[.string (bstr b)] w' (NatOut .i64 10 (ExP.valS b) w'))
 (hz : VaP.wh wd = true ∧ VaP.wh a = true ∧ VaP.wh b = true → ExP.valS b = 0 → ok = false ∧ N = ⟨false, 0, 0⟩)
 (hNa : VaP.wh a = true → ∀ w' : World, Calls Tryz.prog 130 #[.string (bstr a)] w' (NatOut .i64 10 (ExP.valS a) w'))
 (hNw : VaP.wh wd = true → ∀ w' : World, Calls Tryz.prog 130 #[.string (bstr wd)] w' (NatOut .i64 10 (ExP.valS wd) w'))
 (P Q : Nat) (hP : VaP.wh wd = true ∧ VaP.wh a = true ∧ VaP.wh b = true → ExP.valS b ≠ 0 → ok = true ∧ N = ⟨m, P, Q⟩)
 (hADD : VaP.wh wd = true ∧ VaP.wh a = true ∧ VaP.wh b = true → ExP.valS b ≠ 0 → ∀ (x y : FrV) (w' : World), BW w w' → FrIn .i64 10 x w' → FrIn .i64 10 y w' → x.num = ⟨false, ExP.valS wd, 1⟩ → y.num = ⟨false, ExP.valS a, ExP.valS b⟩ → Calls Tryz.prog 131 #[x.val 10, y.val 10] w' (FrOut .i64 10 ⟨false, P, Q⟩ w'))
include hl2 hA hbad hNb hz hNa hNw hP hADD
theorem rmix_main : Calls Tryz.prog 64 #[.string (bstr s)] w (FrOutB .i64 10 N ok w) := by
 subst hl1 hl2
 have hwh : ∀ g, VaP.wh g = true ↔ VaP.adP g = true ∧ g.length ≤ 100 := fun g => by
  unfold VaP.wh VaP.adP
  simp only [Bool.and_eq_true, decide_eq_true_eq]
 have hx0 : (strV [wd, rr])[0]? = some (.string (bstr wd)) := rfl
 have hx1 : (strV [wd, rr])[1]? = some (.string (bstr rr)) := rfl
 have hy0 : (strV [a, b])[0]? = some (.string (bstr a)) := rfl
 have hy1 : (strV [a, b])[1]? = some (.string (bstr b)) := rfl
 have A0 := hA wd (by simp)
 have A1 := hA a (by simp)
 have A2 := hA b (by simp)
 generalize strV [wd, rr] = xs at *
 generalize strV [a, b] = ys at *
 clear hA
 have hu := Tryz.underlying70
 have hsz := fun w => Tryz.sizeOf3 w
 have hzv := fun w => Tryz.zeroValue3 w
 have hn1 : ExP.nd 10 1 = 1 := ExP.nd_one (by omega)
 have hv1 : nv .i64 10 1 = [.int .i64 1] := nv_one (by omega)
 refine yE Tryz.func64 rfl Tryz.results64 Tryz.ntmps64 [13] [] [.str s] w ?_
 repeat' (first | refine yX ?_ | (apply And.intro <;> intro _) | apply bothI | refine retB fun β => ?_ | intro βe | refine yK (.bool m) (fun β w hm => hM w) ?_ | exact trivial)
 refine yJ (T := Unit) (fun _ => ⟨[(0, .str t), (2, .ptr 0 0), (4, .bool m)], [(0, true, .cells 72 [.lit false, .any (.slice none 0 0), .any (.slice none 0 0)])], 1, 77⟩) [] [] [] [] (fun I hI => ?_) (fun _ => ?_)
 ·repeat' (first | refine yX ?_ | (apply And.intro <;> intro _) | apply bothI | refine retB fun β => ?_ | intro βe | ((with_reducible show ∃ _, _); first | (refine ⟨1, rfl, hs1 (by assumption), ?_⟩)) | exact trivial)
  all_goals exact hI _ () (by ((with_reducible show wk _ _); repeat' (first | exact trivial | exact eqSV_refl _ | refine eqI ?_ | refine eqS ?_ | apply And.intro | exact yV | fail)); all_goals first | exact ht1 (by assumption) | exact ht0 (by assumption))
 repeat' (first | refine yX ?_ | (apply And.intro <;> intro _) | apply bothI | refine retB fun β => ?_ | intro βe | (refine callSls (T := Nat × Nat) (fun t => .any (.slice (some ⟨t.1, 0, none⟩) 2 t.2)) (fun t => [(some ⟨t.1, 0, none⟩, xs)]) hw0 (by kernel_rfl) rfl (fun _ => rfl) (fun β w' hm => hS w') (fun p _ => ?_)) | (refine callSls (T := Nat × Nat) (fun t => .any (.slice (some ⟨t.1, 0, none⟩) 2 t.2)) (fun t => [(some ⟨t.1, 0, none⟩, ys)]) hw0 (by kernel_rfl) rfl (fun _ => rfl) (fun β w' hm => hS2 w') (fun p2 _ => ?_)) | ((with_reducible show ∃ _ : SV, _); first | refine yO (x_len Tryz.underlying121) ?_ | refine yN (j := 0) Tryz.underlying121 Tryz.sizeOf9 ?_ | refine yN (j := 1) Tryz.underlying121 Tryz.sizeOf9 ?_ | refine yO (v := .str wd) (x_loadF 1 (.str wd) (fun w => Tryz.isAgg9 w) rfl (fun β => hx0)) ?_ | refine yO (v := .str rr) (x_loadF 1 (.str rr) (fun w => Tryz.isAgg9 w) rfl (fun β => hx1)) ?_ | refine yO (v := .str a) (x_loadF 2 (.str a) (fun w => Tryz.isAgg9 w) rfl (fun β => hy0)) ?_ | refine yO (v := .str b) (x_loadF 2 (.str b) (fun w => Tryz.isAgg9 w) rfl (fun β => hy1)) ?_ | (refine ⟨.agg [.str wd, .str a, .str b], ?ok, x_buildArr rfl Tryz.underlying131 (fun w => Tryz.sizeOf9 w) (fun w => Tryz.zeroValue131 w) rfl (str3_cells wd a b), ?_⟩; (case ok => exact fun _ h => h))) | exact trivial)
 all_goals first | (exfalso; omega) | skip
 all_goals
  clear hM hS hS2
  refine yZ (T := {i : Nat // i ≤ 3 ∧ (0 < i → VaP.wh wd = true) ∧ (1 < i → VaP.wh a = true) ∧ (2 < i → VaP.wh b = true)}) (fun t => ⟨[(2, .ptr 0 0), (4, .bool m), (5, .any (.slice (some ⟨p.1, 0, none⟩) 2 p.2)), (6, .any (.slice (some ⟨p2.1, 0, none⟩) 2 p2.2)), (39, .agg [.str wd, .str a, .str b]), (40, .int .i64 (t.1 : Nat))], [(0, true, .cells 72 [.lit false, .any (.slice none 0 0), .any (.slice none 0 0)]), (1, false, .blob (SlF w.heap.size (some ⟨p.1, 0, none⟩) xs)), (2, false, .blob (SlF w.heap.size (some ⟨p2.1, 0, none⟩) ys))], 3, 77⟩) (fun t => 3 - t.1) ⟨0, by omega, by omega, by omega, by omega⟩ [] [300019] (fun t I hI => ?_) (by ((with_reducible show wk _ _); repeat' (first | exact trivial | exact eqSV_refl _ | refine eqI ?_ | refine eqS ?_ | apply And.intro | exact yV | fail)); all_goals exact fun b x h => h)
  obtain ⟨i, hi, z0, z1, z2⟩ := t
  dsimp only at hI ⊢
  rcases (by omega : i = 0 ∨ i = 1 ∨ i = 2 ∨ i = 3) with rfl | rfl | rfl | rfl
  ·by_cases hw : VaP.wh wd = true
   ·obtain ⟨q1, q2⟩ := (hwh wd).1 hw
    rw [q1] at A0
    repeat' (first | refine yX ?_ | (apply And.intro <;> intro _) | apply bothI | refine retB fun β => ?_ | intro βe | refine yK (.lit true) (fun β w hm => A0 w) ?_ | ((with_reducible show ∃ _ : SV, _); first | (refine ⟨.str wd, ?ok, x_indexAgg (j := 0) Tryz.underlying131 (fun w => Tryz.sizeOf9 w) (fun w => Tryz.isAgg9 w) (by omega) rfl, ?_⟩; (case ok => exact fun _ _ => trivial))) | exact trivial)
    all_goals first | (exfalso; omega) | (refine hI _ ⟨1, by omega, fun _ => hw, fun h => by omega, fun h => by omega⟩ (by dsimp only; omega) (by ((with_reducible show wk _ _); repeat' (first | exact trivial | exact eqSV_refl _ | refine eqI ?_ | refine eqS ?_ | apply And.intro | exact yV | fail)); all_goals exact fun b x h => h); done) | trace_state
   ·obtain ⟨rfl, rfl⟩ := hbad (fun h => hw h.1)
    have hnw := hwh wd
    generalize VaP.adP wd = AD at *
    repeat' (first | refine yX ?_ | (apply And.intro <;> intro _) | apply bothI | refine retB fun β => ?_ | intro βe | refine yK (.bool AD) (fun β w hm => A0 w) ?_ | ((with_reducible show ∃ _ : SV, _); first | (refine ⟨.str wd, ?ok, x_indexAgg (j := 0) Tryz.underlying131 (fun w => Tryz.sizeOf9 w) (fun w => Tryz.isAgg9 w) (by omega) rfl, ?_⟩; (case ok => exact fun _ _ => trivial))) | exact trivial)
    all_goals first | (exfalso; omega) | (refine ret fun β w' hm => ?_; exact ⟨⟨false, 0, 0, none, 0, none, 0⟩, by simp [FrV.val, ExP.nd_zero, SV.den, SV.dens], rfl, FrCap0, Ls0, hm.below⟩) | (exfalso; apply hw; apply hnw.2; constructor; (simpa using (by assumption : (!AD) = false)); omega) | trace_state
  ·by_cases hw : VaP.wh a = true
   ·obtain ⟨q1, q2⟩ := (hwh a).1 hw
    rw [q1] at A1
    repeat' (first | refine yX ?_ | (apply And.intro <;> intro _) | apply bothI | refine retB fun β => ?_ | intro βe | refine yK (.lit true) (fun β w hm => A1 w) ?_ | ((with_reducible show ∃ _ : SV, _); first | (refine ⟨.str a, ?ok, x_indexAgg (j := 1) Tryz.underlying131 (fun w => Tryz.sizeOf9 w) (fun w => Tryz.isAgg9 w) (by omega) rfl, ?_⟩; (case ok => exact fun _ _ => trivial))) | exact trivial)
    all_goals first | (exfalso; omega) | (refine hI _ ⟨2, by omega, fun _ => z0 (by omega), fun _ => hw, fun h => by omega⟩ (by dsimp only; omega) (by ((with_reducible show wk _ _); repeat' (first | exact trivial | exact eqSV_refl _ | refine eqI ?_ | refine eqS ?_ | apply And.intro | exact yV | fail)); all_goals exact fun b x h => h); done) | trace_state
   ·obtain ⟨rfl, rfl⟩ := hbad (fun h => hw h.2.1)
    have hnw := hwh a
    generalize VaP.adP a = AD at *
    repeat' (first | refine yX ?_ | (apply And.intro <;> intro _) | apply bothI | refine retB fun β => ?_ | intro βe | refine yK (.bool AD) (fun β w hm => A1 w) ?_ | ((with_reducible show ∃ _ : SV, _); first | (refine ⟨.str a, ?ok, x_indexAgg (j := 1) Tryz.underlying131 (fun w => Tryz.sizeOf9 w) (fun w => Tryz.isAgg9 w) (by omega) rfl, ?_⟩; (case ok => exact fun _ _ => trivial))) | exact trivial)
    all_goals first | (exfalso; omega) | (refine ret fun β w' hm => ?_; exact ⟨⟨false, 0, 0, none, 0, none, 0⟩, by simp [FrV.val, ExP.nd_zero, SV.den, SV.dens], rfl, FrCap0, Ls0, hm.below⟩) | (exfalso; apply hw; apply hnw.2; constructor; (simpa using (by assumption : (!AD) = false)); omega) | trace_state
  ·by_cases hw : VaP.wh b = true
   ·obtain ⟨q1, q2⟩ := (hwh b).1 hw
    rw [q1] at A2
    repeat' (first | refine yX ?_ | (apply And.intro <;> intro _) | apply bothI | refine retB fun β => ?_ | intro βe | refine yK (.lit true) (fun β w hm => A2 w) ?_ | ((with_reducible show ∃ _ : SV, _); first | (refine ⟨.str b, ?ok, x_indexAgg (j := 2) Tryz.underlying131 (fun w => Tryz.sizeOf9 w) (fun w => Tryz.isAgg9 w) (by omega) rfl, ?_⟩; (case ok => exact fun _ _ => trivial))) | exact trivial)
    all_goals first | (exfalso; omega) | (refine hI _ ⟨3, by omega, fun _ => z0 (by omega), fun _ => z1 (by omega), fun _ => hw⟩ (by dsimp only; omega) (by ((with_reducible show wk _ _); repeat' (first | exact trivial | exact eqSV_refl _ | refine eqI ?_ | refine eqS ?_ | apply And.intro | exact yV | fail)); all_goals exact fun b x h => h); done) | trace_state
   ·obtain ⟨rfl, rfl⟩ := hbad (fun h => hw h.2.2)
    have hnw := hwh b
    generalize VaP.adP b = AD at *
    repeat' (first | refine yX ?_ | (apply And.intro <;> intro _) | apply bothI | refine retB fun β => ?_ | intro βe | refine yK (.bool AD) (fun β w hm => A2 w) ?_ | ((with_reducible show ∃ _ : SV, _); first | (refine ⟨.str b, ?ok, x_indexAgg (j := 2) Tryz.underlying131 (fun w => Tryz.sizeOf9 w) (fun w => Tryz.isAgg9 w) (by omega) rfl, ?_⟩; (case ok => exact fun _ _ => trivial))) | exact trivial)
    all_goals first | (exfalso; omega) | (refine ret fun β w' hm => ?_; exact ⟨⟨false, 0, 0, none, 0, none, 0⟩, by simp [FrV.val, ExP.nd_zero, SV.den, SV.dens], rfl, FrCap0, Ls0, hm.below⟩) | (exfalso; apply hw; apply hnw.2; constructor; (simpa using (by assumption : (!AD) = false)); omega) | trace_state
  ·have h0 := z0 (by omega)
   have h1 := z1 (by omega)
   have h2 := z2 (by omega)
   replace hNb := hNb h2
   replace hNa := hNa h1
   replace hNw := hNw h0
   replace hz := hz ⟨h0, h1, h2⟩
   replace hP := hP ⟨h0, h1, h2⟩
   replace hADD := hADD ⟨h0, h1, h2⟩
   clear hbad A0 A1 A2 hI z0 z1 z2 h0 h1 h2 hwh
   have hnd := ExP.nd_pos (b := 10) (x := ExP.valS b) (by omega)
   generalize ExP.valS b = vb at *
   generalize ExP.valS a = va at *
   generalize ExP.valS wd = vw at *
   by_cases hvb : vb = 0
   ·obtain ⟨rfl, rfl⟩ := hz hvb
    repeat' (first | refine yX ?_ | (apply And.intro <;> intro _) | apply bothI | refine retB fun β => ?_ | intro βe | (refine callNat .i64 10 vb hw0 (by kernel_rfl) rfl (fun β w' hm => hNb w') (fun a3 c3 q7 q8 q9 => ?_)) | refine yN (j := 1) Tryz.underlying121 Tryz.sizeOf9 ?_ | refine yO (v := .str b) (x_loadF 2 (.str b) (fun w => Tryz.isAgg9 w) rfl (fun β => hy1)) ?_ | refine yO (x_len Tryz.underlying70) ?_ | exact trivial)
    all_goals first | (exfalso; omega) | (refine ret fun β w' hm => ?_; exact ⟨⟨false, 0, 0, none, 0, none, 0⟩, by simp [FrV.val, ExP.nd_zero, SV.den, SV.dens], rfl, FrCap0, Ls0, hm.below⟩) | trace_state
   ·obtain ⟨rfl, rfl⟩ := hP hvb
    replace hADD := hADD hvb
    repeat' (first | refine yX ?_ | (apply And.intro <;> intro _) | apply bothI | refine retB fun β => ?_ | intro βe | (refine callNat .i64 10 vb hw0 (by kernel_rfl) rfl (fun β w' hm => hNb w') (fun a3 c3 q7 q8 q9 => ?_)) | refine yN (j := 1) Tryz.underlying121 Tryz.sizeOf9 ?_ | refine yO (v := .str b) (x_loadF 2 (.str b) (fun w => Tryz.isAgg9 w) rfl (fun β => hy1)) ?_ | refine yO (x_len Tryz.underlying70) ?_ | exact trivial)
    all_goals first | (exfalso; omega) | skip
    refine stop_reserve 3 hw0 ?_
    refine yJ (T := {t : Option Addr × Nat × Option Addr × Nat // FrCap 10 ⟨false, P, Q, t.1, t.2.1, t.2.2.1, t.2.2.2⟩}) (fun t => ⟨[(2, .ptr 0 0), (4, .bool m), (10, .ptr 4 0)], [(0, true, .cells 72 [.lit false, .any (.slice none 0 0), .any (.slice none 0 0)]), (5, false, .blob (SlF w.heap.size t.1.1 (nv .i64 10 P))), (6, false, .blob (SlF w.heap.size t.1.2.2.1 (nv .i64 10 Q))), (4, true, .cells 72 [.bool false, .any (.slice t.1.1 (ExP.nd 10 P) t.1.2.1), .any (.slice t.1.2.2.1 (ExP.nd 10 Q) t.1.2.2.2)])], 7, 77⟩) [] [200019] [] [] (fun I2 hI2 => ?_) (fun t => ?_)
    ·repeat' (first | refine yX ?_ | (apply And.intro <;> intro _) | apply bothI | refine retB fun β => ?_ | intro βe | (refine callNat .i64 10 vb hw0 (by kernel_rfl) rfl (fun β w' hm => hNb w') (fun a3 c3 q7 q8 q9 => ?_)) | (refine callNat .i64 10 va hw0 (by kernel_rfl) rfl (fun β w' hm => hNa w') (fun a2 c2 q4 q5 q6 => ?_)) | (refine callNat .i64 10 vw hw0 (by kernel_rfl) rfl (fun β w' hm => hNw w') (fun a1 c1 q1 q2 q3 => ?_)) | (refine callFr .i64 10 ⟨false, P, Q⟩ hw0 (by kernel_rfl) rfl (fun β w' hm => by have W2 := hADD ⟨false, vw, 1, a1, c1, some ⟨g1, 0, none⟩, 1⟩ ⟨false, va, vb, a2, c2, a3, c3⟩ w' hm.below (FrIn.of (ySl hm) (by rw [hv1]; exact (by first | exact (hm.own 7 rfl).1 | exact (hm.own 8 rfl).1 | exact (hm.own 9 rfl).1 | exact (hm.own 10 rfl).1 | exact (hm.own 11 rfl).1 | exact (hm.own 12 rfl).1)) ⟨q1, (fun h => by cases h), q2, by dsimp only; omega⟩) (FrIn.of (ySl hm) (ySl hm) ⟨q4, q7, q5, q8⟩) rfl rfl; simp only [FrV.val, hn1] at W2; exact W2) (fun a5 c5 a6 c6 hc5 => ?_)) | (refine opx_build1 (sz := 1) rfl rfl rfl (xs := [.int .i64 1]) (fun β => rfl) rfl (by omega) (by omega) hu hsz hzv (fun g1 => ?_)) | refine yN (j := 0) Tryz.underlying121 Tryz.sizeOf9 ?_ | refine yN (j := 1) Tryz.underlying121 Tryz.sizeOf9 ?_ | refine yO (v := .str wd) (x_loadF 1 (.str wd) (fun w => Tryz.isAgg9 w) rfl (fun β => hx0)) ?_ | refine yO (v := .str a) (x_loadF 2 (.str a) (fun w => Tryz.isAgg9 w) rfl (fun β => hy0)) ?_ | refine yO (v := .str b) (x_loadF 2 (.str b) (fun w => Tryz.isAgg9 w) rfl (fun β => hy1)) ?_ | refine yO (x_len Tryz.underlying70) ?_ | exact trivial)
     all_goals refine back_own 10 4 rfl rfl rfl (Nat.zero_le _) ?_
     all_goals first | refine back_copy (Φ := SlF w.heap.size a5 (nv .i64 10 P)) 5 7 rfl rfl rfl (Nat.zero_le _) (by kernel_rfl) ?_ | refine back_copy (Φ := SlF w.heap.size a5 (nv .i64 10 P)) 5 8 rfl rfl rfl (Nat.zero_le _) (by kernel_rfl) ?_ | refine back_copy (Φ := SlF w.heap.size a5 (nv .i64 10 P)) 5 9 rfl rfl rfl (Nat.zero_le _) (by kernel_rfl) ?_ | refine back_copy (Φ := SlF w.heap.size a5 (nv .i64 10 P)) 5 10 rfl rfl rfl (Nat.zero_le _) (by kernel_rfl) ?_ | refine back_copy (Φ := SlF w.heap.size a5 (nv .i64 10 P)) 5 11 rfl rfl rfl (Nat.zero_le _) (by kernel_rfl) ?_ | refine back_copy (Φ := SlF w.heap.size a5 (nv .i64 10 P)) 5 12 rfl rfl rfl (Nat.zero_le _) (by kernel_rfl) ?_ | refine back_copy (Φ := SlF w.heap.size a5 (nv .i64 10 P)) 5 13 rfl rfl rfl (Nat.zero_le _) (by kernel_rfl) ?_ | refine back_copy (Φ := SlF w.heap.size a5 (nv .i64 10 P)) 5 14 rfl rfl rfl (Nat.zero_le _) (by kernel_rfl) ?_
     all_goals first | refine back_copy (Φ := SlF w.heap.size a6 (nv .i64 10 Q)) 6 7 rfl rfl rfl (Nat.zero_le _) (by kernel_rfl) ?_ | refine back_copy (Φ := SlF w.heap.size a6 (nv .i64 10 Q)) 6 8 rfl rfl rfl (Nat.zero_le _) (by kernel_rfl) ?_ | refine back_copy (Φ := SlF w.heap.size a6 (nv .i64 10 Q)) 6 9 rfl rfl rfl (Nat.zero_le _) (by kernel_rfl) ?_ | refine back_copy (Φ := SlF w.heap.size a6 (nv .i64 10 Q)) 6 10 rfl rfl rfl (Nat.zero_le _) (by kernel_rfl) ?_ | refine back_copy (Φ := SlF w.heap.size a6 (nv .i64 10 Q)) 6 11 rfl rfl rfl (Nat.zero_le _) (by kernel_rfl) ?_ | refine back_copy (Φ := SlF w.heap.size a6 (nv .i64 10 Q)) 6 12 rfl rfl rfl (Nat.zero_le _) (by kernel_rfl) ?_ | refine back_copy (Φ := SlF w.heap.size a6 (nv .i64 10 Q)) 6 13 rfl rfl rfl (Nat.zero_le _) (by kernel_rfl) ?_ | refine back_copy (Φ := SlF w.heap.size a6 (nv .i64 10 Q)) 6 14 rfl rfl rfl (Nat.zero_le _) (by kernel_rfl) ?_
     all_goals exact hI2 _ ⟨(a5, c5, a6, c6), hc5⟩ (by dsimp only; ((with_reducible show wk _ _); repeat' (first | exact trivial | exact eqSV_refl _ | refine eqI ?_ | refine eqS ?_ | apply And.intro | exact yV | fail)); all_goals exact fun b x h => h)
    ·obtain ⟨⟨a5, c5, a6, c6⟩, hc5⟩ := t
     dsimp only at hc5 ⊢
     repeat' (first | refine yX ?_ | (apply And.intro <;> intro _) | apply bothI | refine retB fun β => ?_ | intro βe | exact trivial)
     all_goals first | (refine ret fun β w' hm => ?_; exact ⟨⟨m, P, Q, a5, c5, a6, c6⟩, rfl, rfl, ⟨hc5.1, hc5.2, hc5.3, hc5.4⟩, Ls2 (ySl hm) (yFr hm) (ySl hm) (yFr hm), hm.below⟩) | trace_state
end
theorem rleap_any (y : Nat) (w : World) (hy : y ≤ 100000) : QC 82 #[.int .i64 (y : Int)] w (.bool (VaP.leap y)) := by
 refine yE Tryz.func82 rfl Tryz.results82 Tryz.ntmps82 [] [] [.int .i64 (y : Int)] w ?_
 repeat' (first | refine yX ?_ | (apply And.intro <;> intro _) | apply bothI | refine retB fun β => ?_ | intro βe | refine yO (x_rem (by omega) (by omega)) ?_ | exact trivial)
 all_goals (simp only [SV.den, VaP.leap]; congr 1; rw [Bool.eq_iff_iff]; simp; omega)
theorem rmdays_any (y m : Nat) (w : World) (hy : y ≤ 100000) : QC 81 #[.int .i64 (y : Int), .int .i64 (m : Int)] w (.int .i64 (VaP.mdays y m : Nat)) := by
 have L := fun (w' : World) => rleap_any y w' hy
 have hA : m = 2 → VaP.leap y = true → VaP.mdays y m = 29 := fun h1 h2 => by unfold VaP.mdays; rw [if_pos h1, if_pos h2]
 have hB : m = 2 → VaP.leap y = false → VaP.mdays y m = 28 := fun h1 h2 => by unfold VaP.mdays; rw [if_pos h1, if_neg (by rw [h2]; exact Bool.false_ne_true)]
 have hC : m ≠ 2 → (m = 4 ∨ m = 6 ∨ m = 9 ∨ m = 11) → VaP.mdays y m = 30 := fun h1 h2 => by unfold VaP.mdays; rw [if_neg h1, if_pos h2]
 have hD : m ≠ 2 → ¬ (m = 4 ∨ m = 6 ∨ m = 9 ∨ m = 11) → VaP.mdays y m = 31 := fun h1 h2 => by unfold VaP.mdays; rw [if_neg h1, if_neg h2]
 generalize VaP.mdays y m = M at *
 generalize VaP.leap y = lp at *
 refine yE Tryz.func81 rfl Tryz.results81 Tryz.ntmps81 [] [] [.int .i64 (y : Int), .int .i64 (m : Int)] w ?_
 repeat' (first | refine yX ?_ | (apply And.intro <;> intro _) | apply bothI | refine retB fun β => ?_ | intro βe | refine yK (.bool lp) (fun β w hm => L w) ?_ | exact trivial)
 all_goals first | (rw [hC (by omega) (by omega)]; rfl) | (rw [hD (by omega) (by omega)]; rfl) | (rw [hA (by omega) (by assumption)]; rfl) | (rw [hB (by omega) (by assumption)]; rfl)
theorem rday_no (y m d : Int) (w : World) (h : ¬ VaP.dayP y m d) : QC 30 #[.int .i64 y, .int .i64 m, .int .i64 d] w (.int .i64 0) := by
 by_cases h0 : y < 1900 ∨ 9999 < y ∨ m < 1 ∨ 12 < m ∨ d < 1
 ·refine yE Tryz.func30 rfl Tryz.results30 Tryz.ntmps30 [] [] [.int .i64 y, .int .i64 m, .int .i64 d] w ?_
  repeat' (first | refine yX ?_ | (apply And.intro <;> intro _) | apply bothI | refine retB fun β => ?_ | intro βe | exact trivial)
  all_goals first | rfl | (exfalso; omega)
 ·obtain ⟨y, rfl⟩ : ∃ k : Nat, y = (k : Int) := ⟨y.toNat, by omega⟩
  obtain ⟨m, rfl⟩ : ∃ k : Nat, m = (k : Int) := ⟨m.toNat, by omega⟩
  have D := fun (w' : World) => rmdays_any y m w' (by omega)
  unfold VaP.dayP at h
  rw [Int.toNat_natCast, Int.toNat_natCast] at h
  have hd : (VaP.mdays y m : Int) < d := by omega
  have hb := VaP.mdays_le y m
  generalize VaP.mdays y m = M at *
  refine yE Tryz.func30 rfl Tryz.results30 Tryz.ntmps30 [] [] [.int .i64 (y : Int), .int .i64 (m : Int), .int .i64 d] w ?_
  repeat' (first | refine yX ?_ | (apply And.intro <;> intro _) | apply bothI | refine retB fun β => ?_ | intro βe | refine yK (.int .i64 (M : Nat)) (fun β w hm => D w) ?_ | exact trivial)
  all_goals first | rfl | (exfalso; omega)
theorem rday_yes (y m : Nat) (d : Int) (w : World) (h1 : 1900 ≤ y) (h2 : y ≤ 9999) (h3 : m < 12) (hd : 1 ≤ d ∧ d ≤ (VaP.mdays y (m + 1) : Nat)) : QC 30 #[.int .i64 (y : Int), .int .i64 ((m + 1 : Nat) : Int), .int .i64 d] w (.int .i64 (((VaP.bef y + VaP.msum y m : Nat) : Int) + d)) := by
 have D0 := fun (w' : World) => rmdays_any y (m + 1) w' (by omega)
 have D1 := fun (k : Nat) (w' : World) => rmdays_any y k w' (by omega)
 have hmd := VaP.mdays_le y
 have hms := VaP.msum_le y
 have hst : ∀ i, VaP.msum y (i + 1) = VaP.msum y i + VaP.mdays y (i + 1) := fun _ => rfl
 have hz : VaP.msum y 0 = 0 := rfl
 have hbef := fun k (h : 1900 ≤ k) => VaP.bef_step h
 have hmon := fun k (h : 1900 ≤ k) (h' : k ≤ y) => (VaP.bef_mono h (10000 - k)).1
 have hbz := VaP.bef_start
 have hend := VaP.bef_end
 have hmons : ∀ k, 1900 ≤ k → k ≤ y → VaP.bef k ≤ 2958464 := fun k a b => by
  have := hmon k a b
  rw [show k + (10000 - k) = 10000 by omega, hend] at this
  omega
 clear hmon hend
 generalize VaP.msum y = MS at *
 generalize VaP.mdays y = MD at *
 refine yE Tryz.func30 rfl Tryz.results30 Tryz.ntmps30 [] [] [.int .i64 (y : Int), .int .i64 ((m + 1 : Nat) : Int), .int .i64 d] w ?_
 repeat' (first | refine yX ?_ | (apply And.intro <;> intro _) | apply bothI | refine retB fun β => ?_ | intro βe | refine yK (.int .i64 (MD (m + 1) : Nat)) (fun β w hm => D0 w) ?_ | exact trivial)
 all_goals first | (exfalso; have := hmd (m + 1); omega) | skip
 refine yZ (T := {k : Nat // 1900 ≤ k ∧ k ≤ y}) (fun t => ⟨[(0, .int .i64 (y : Int)), (1, .int .i64 ((m + 1 : Nat) : Int)), (7, .int .i64 (d + (VaP.bef t.1 : Nat))), (8, .int .i64 (t.1 : Nat))], [], 0, 58⟩) (fun t => y - t.1) ⟨1900, Nat.le_refl _, h1⟩ [] [] (fun t I hI => ?_)
 obtain ⟨k, hk0, hk1⟩ := t
 dsimp only
 have hb1 := hbef k hk0
 have hm1 := hmons k hk0 hk1
 have hd31 := hmd (m + 1)
 have L := fun (w' : World) => rleap_any k w' (by omega)
 unfold VaP.ydays at hb1
 by_cases hlt : k < y
 ·cases hl : VaP.leap k with
  | true =>
    rw [hl] at L hb1
    rw [if_pos rfl] at hb1
    repeat' (first | refine yX ?_ | (apply And.intro <;> intro _) | apply bothI | refine retB fun β => ?_ | intro βe | refine yK (.lit true) (fun β w hm => L w) ?_ | exact trivial)
    all_goals first | (exfalso; omega) | (refine hI _ ⟨k + 1, by omega, by omega⟩ (by dsimp only; omega) yW; done) | trace_state
  | false =>
    rw [hl] at L hb1
    rw [if_neg Bool.false_ne_true] at hb1
    repeat' (first | refine yX ?_ | (apply And.intro <;> intro _) | apply bothI | refine retB fun β => ?_ | intro βe | refine yK (.lit false) (fun β w hm => L w) ?_ | exact trivial)
    all_goals first | (exfalso; omega) | (refine hI _ ⟨k + 1, by omega, by omega⟩ (by dsimp only; omega) yW; done) | trace_state
 ·have hky : k = y := by omega
  subst hky
  clear hI hb1 L hbef hmons
  generalize VaP.bef k = BY at *
  repeat' (first | refine yX ?_ | (apply And.intro <;> intro _) | apply bothI | refine retB fun β => ?_ | intro βe | exact trivial)
  all_goals first | (exfalso; omega) | skip
  refine yZ (T := {i : Nat // i ≤ m}) (fun t => ⟨[(0, .int .i64 (k : Int)), (1, .int .i64 ((m + 1 : Nat) : Int)), (7, .int .i64 (d + (BY : Nat) + (MS t.1 : Nat))), (9, .int .i64 ((t.1 : Nat) + 1))], [], 0, 58⟩) (fun t => m - t.1) ⟨0, Nat.zero_le _⟩ [] [] (fun t I hI => ?_)
  obtain ⟨i, hi⟩ := t
  dsimp only
  have h5 := hst i
  have h6 := hmd (i + 1)
  have h8 := hms i
  have D2 := D1 (i + 1)
  rw [show ((i + 1 : Nat) : Int) = (i : Int) + 1 from rfl] at D2
  repeat' (first | refine yX ?_ | (apply And.intro <;> intro _) | apply bothI | refine retB fun β => ?_ | intro βe | refine yK (.int .i64 (MD (i + 1) : Nat)) (fun β w hm => D2 w) ?_ | exact trivial)
  all_goals first | (exfalso; omega) | (refine hI _ ⟨i + 1, by omega⟩ (by dsimp only; omega) yW; done) | (have e : i = m := by { omega }; subst e; have e2 : d + (BY : Nat) + (MS i : Nat) = ((BY + MS i : Nat) : Int) + d := by { omega }; rw [← e2]; rfl) | trace_state
theorem rday_any (y m d : Int) (w : World) : QC 30 #[.int .i64 y, .int .i64 m, .int .i64 d] w (.int .i64 (VaP.dayV y m d)) := by
 by_cases h : VaP.dayP y m d
 ·have hp := h
  obtain ⟨h1, h2, h3, h4, h5, h6⟩ := h
  obtain ⟨y, rfl⟩ : ∃ k : Nat, y = (k : Int) := ⟨y.toNat, by omega⟩
  obtain ⟨m, rfl⟩ : ∃ k : Nat, m = ((k + 1 : Nat) : Int) := ⟨m.toNat - 1, by omega⟩
  rw [Int.toNat_natCast, Int.toNat_natCast] at h6
  rw [VaP.dayV, if_pos hp, Int.toNat_natCast, Int.toNat_natCast]
  exact rday_yes y m d w (by omega) (by omega) (by omega) ⟨h5, h6⟩
 ·rw [VaP.dayV, if_neg h]
  exact rday_no y m d w h
end Go.Proofs.YtdkhkfdenlabaaaGreatDoor
