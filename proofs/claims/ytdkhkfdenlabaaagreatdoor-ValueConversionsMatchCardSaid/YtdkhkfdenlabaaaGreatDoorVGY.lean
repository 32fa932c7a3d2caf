/- Values, the reference: a number that is  -/
import Derived.Test.YtdkhkfdenlabaaaGreatDoorVGG
import Derived.Test.YtdkhkfdenlabaaaGreatDoorVVaR11
import Derived.Test.YtdkhkfdenlabaaaGreatDoorVGU
set_option linter.unusedSimpArgs false
set_option linter.unusedVariables false
set_option maxRecDepth 100000
set_option maxHeartbeats 64000000
namespace Go.Proofs.YtdkhkfdenlabaaaGreatDoor
open Go.Proofs.Tryz
open Go.RowKit
open Sym
attribute [local irreducible] Calls Sym.bM ae.nd ae.bu ae.upd ae.ak ae.ay
def mP (f : FuncId) (s : List UInt8) (V : Option ae.Num) (w : World) : Prop := ∃ N : ae.Num, (∀ x, V = some x -> N = x) /\ ∀ w', BW w w' -> Calls Tryz.prog f #[.string (ah s)] w' (dU .i64 10 N V.isSome w')
namespace ae
theorem BL {x a j : Nat} (h : x < 10 ^ a) : nd 10 (x * 10 ^ j) <= a + j :=
 dX (by omega) (by rw [Nat.pow_add]; exact Nat.mul_lt_mul_of_pos_right h (Nat.pow_pos (by omega)))
theorem iP (s : Str) : (aO s).1.length <= s.length := by
 unfold aO
 split
 ·simp
 ·exact Nat.le_refl _
theorem CP (s : Str) : (aW s).length <= s.length /\ (bf s).length <= s.length := by
 have h := eH s
 omega
theorem DU {t : Str} (h : jM t = 0) : nd 10 (fA t).n <= 5000 /\ nd 10 (fA t).d <= 5000 /\ 0 < (fA t).d := by
 unfold jM at h
 split at h
 ·omega
 rename_i hl
 split at h
 ·omega
 rename_i hb
 simp only [not_or] at hb
 obtain ⟨-, -, hb⟩ := hb
 have hW : (gY t).length <= 1000 := Nat.le_trans (CP _).1 (Nat.le_trans (iP t) (by omega))
 have hR := Nat.le_trans (CP (aO t).1).2 (Nat.le_trans (iP t) (by omega : t.length <= 1000))
 have hP : (iE t).length <= 1000 /\ (iE t).all aY = true := by
  unfold iE x8
  split
  ·refine ⟨Nat.le_trans (CP _).1 (by rw [List.length_tail]; omega), gu _⟩
  ·exact ⟨by simp, rfl⟩
 have hWa : (gY t).all aY = true := gu _
 have hx : (lK (fD t)).natAbs <= 1000 := by
  cases hT : fD t with
  | nil => simp [lK]
  | cons c r =>
    rw [hT] at hb
    simp only [lU, Bool.not_eq_false, Bool.and_eq_true] at hb
    have h3 := JY hb.2
    show (if yC r = true then -(ax (nU r) : Int) else (ax (nU r) : Int)).natAbs <= 1000
    split <;> omega
 obtain ⟨K, hK⟩ : ∃ K, K = 2000 := ⟨_, rfl⟩
 have hv := jW (gY t ++ iE t) (by rw [List.all_append, hWa, hP.2]; rfl)
 have hv2 : ax (gY t ++ iE t) < 10 ^ K := zl hv (Nat.pow_le_pow_right (by omega) (by rw [List.length_append]; omega))
 clear hb
 unfold fA aG
 generalize ax (gY t ++ iE t) = n at *
 generalize lK (fD t) = e at *
 generalize (iE t).length = p at *
 split
 ·dsimp only
  refine ⟨Nat.le_trans (dX (by omega) hv2) (by omega), ?_, ?_⟩
  ·rw [Nat.one_mul]
   have := BL (x := 1) (a := 1) (j := (e - (p : Int)).natAbs) (by omega)
   rw [Nat.one_mul] at this
   omega
  ·rw [Nat.one_mul]; exact Nat.pow_pos (by omega)
 ·dsimp only
  refine ⟨Nat.le_trans (BL hv2) (by omega), by rw [gq (by omega)]; omega, Nat.one_pos⟩
theorem scale_small {x : Num} (h : nd 10 x.d <= 5000) : nd 10 (aG x (-2)).d <= 1000000 := by
 have e : (aG x (-2)).d = x.d * 10 ^ 2 := rfl
 rw [e]
 exact Nat.le_trans (BL (dP (by omega) x.d)) (by omega)
end ae
theorem af.NM (q : List UInt8) : af.gW q = if q ≠ [] /\ (q.getD (q.length - 1) 0).toNat = 37 then (List.take (q.length - 1) q, true) else (q, false) := by
 unfold af.gW
 have hg : q.getLast? = some 37 ↔ q ≠ [] /\ (q.getD (q.length - 1) 0).toNat = 37 := by
  rw [List.getLast?_eq_getElem?]
  cases q with
  | nil => simp
  | cons c r =>
    have hl : (c :: r).length - 1 < (c :: r).length := by simp
    rw [List.getD_eq_getElem?_getD, List.getElem?_eq_getElem hl]
    simp only [Option.some.injEq, Option.getD_some, ne_eq, reduceCtorEq, not_false_eq_true, true_and]
    exact ⟨fun h => by rw [h]; rfl, fun h => UInt8.toNat_inj.1 (by rw [h]; rfl)⟩
 by_cases h : q ≠ [] /\ (q.getD (q.length - 1) 0).toNat = 37
 ·rw [if_pos h, if_pos (hg.2 h), List.dropLast_eq_take]
 ·rw [if_neg h, if_neg (fun h' => h (hg.1 h'))]
theorem Pv (s : List UInt8) (w : World) (hw0 : 0 < w.heap.size) (hs : s ≠ []) (hl : s.length <= 40000) : mP 63 s (af.nT s) w := by
 rw [af.Vr]
 obtain ⟨c, r, rfl⟩ : ∃ c r, s = c :: r := by
  cases s with
  | nil => exact absurd rfl hs
  | cons c r => exact ⟨c, r, rfl⟩
 have hrl : r.length <= 40000 := by simp at hl; omega
 obtain ⟨q, hq⟩ : ∃ q, (af.oV (c :: r)).2 = q := ⟨_, rfl⟩
 obtain ⟨sg, hsg⟩ : ∃ sg, (af.oV (c :: r)).1 = sg := ⟨_, rfl⟩
 have U6 : q.length <= 40001 := by
  rw [<- hq]; unfold af.oV
  split
  ·simp; omega
  ·split
   ·simp; omega
   ·simp; omega
 have hsgl : sg.length <= 1 := by
  rw [<- hsg]; rcases af.Gq (c :: r) with h | h <;> rw [h] <;> simp
 have hq1 : (af.gW q).1.length <= 40001 := by
  rw [af.NM]
  split
  ·simp; omega
  ·exact U6
 have hN : af.RX (c :: r) = if af.rX (af.aN 44 (af.nX (af.gW q).1)) = true then af.wJ (sg ++ ((af.aN 44 (af.nX (af.gW q).1)).flatten ++ af.KL (af.gW q).1)) (af.gW q).2 else none := by
  unfold af.RX af.Vq
  rw [hq, hsg]
 have happ : af.nX (af.gW q).1 ++ af.KL (af.gW q).1 = (af.gW q).1 := by unfold af.nX af.KL; exact List.takeWhile_append_dropWhile
 have hu : (af.nX (af.gW q).1).length <= 40001 := by
  have := congrArg List.length happ
  rw [List.length_append] at this
  omega
 have hS := fun (w' : World) => PT (af.gW q).1 w' (by omega)
 have hL := fun (w' : World) => kJ 44 (af.nX (af.gW q).1) w' (by omega)
 have hA := fun (g : List UInt8) (h : g.length <= 100000) (w' : World) => ig g w' (by omega)
 have hgl : ∀ (l : List (List UInt8)) (u : List UInt8), af.aN 44 u = l -> l.flatten.length <= u.length /\ l.length <= u.length + 1 /\ l ≠ [] := by
  intro l u
  induction u generalizing l with
  | nil => intro h; rw [<- h]; simp [af.aN]
  | cons x u ih =>
    intro h
    obtain ⟨i1, i2, i3⟩ := ih _ rfl
    rw [<- h]
    unfold af.aN
    split
    ·simp only [List.flatten_cons, List.length_append, List.length_cons, List.length_nil]; exact ⟨by omega, by omega, by simp⟩
    ·split
     ·simp
     ·rename_i h0
      rw [h0] at i1 i2
      simp only [List.flatten_cons, List.length_append, List.length_cons] at i1 i2 ⊢
      exact ⟨by omega, by omega, by simp⟩
 obtain ⟨g1, g2, g3⟩ := hgl _ _ rfl
 have hok := af.Vx g3
 have hM := fun (w' : World) => jS (c :: r) 45 w' (by omega)
 have hP := fun (w' : World) => jS (c :: r) 43 w' (by omega)
 have hpc := af.NM q
 obtain ⟨gs, hgs⟩ : ∃ gs, af.aN 44 (af.nX (af.gW q).1) = gs := ⟨_, rfl⟩
 obtain ⟨t, ht⟩ : ∃ t, t = sg ++ gs.flatten ++ af.KL (af.gW q).1 := ⟨_, rfl⟩
 rw [hgs] at hN g1 g2 g3 hok hL
 have hR := fun (w' : World) (h : BW w w') => Jk t w' (zl hw0 h.size)
 have hds := @ae.DU t
 have hNt : af.RX (c :: r) = if af.rX gs = true then af.wJ t (af.gW q).2 else none := by rw [hN, ht, List.append_assoc]
 clear hN hgs hl hs
 rw [hNt]
 unfold af.wJ
 obtain ⟨N0, hN0⟩ : ∃ N0, N0 = if ae.jM t = 0 then ae.fA t else ⟨false, 0, 0⟩ := ⟨_, rfl⟩
 obtain ⟨E0, hE0⟩ : ∃ E0 : Int, E0 = if ae.jM t = 0 then ae.ay (ae.fA t) else ae.jM t := ⟨_, rfl⟩
 rw [<- hN0, <- hE0] at hR
 have hgood : E0 = 0 -> ae.jM t = 0 /\ ae.ay (ae.fA t) = 0 /\ N0 = ae.fA t := fun h => by
  rw [hE0] at h
  split at h
  ·rename_i hp; rw [if_pos hp] at hN0; exact ⟨hp, h, hN0⟩
  ·rename_i hp; exact absurd h hp
 have hbad : E0 ≠ 0 -> ae.jM t ≠ 0 \/ ae.ay (ae.fA t) ≠ 0 := fun h => by
  rw [hE0] at h
  split at h
  ·exact .inr h
  ·exact .inl ‹_›
 clear hN0 hE0
 have hFr : E0 = 0 -> uJ w N0 fun x w' => Calls Tryz.prog 103 #[x.val 10] w' (fQ ((ae.ak N0).1, (ae.ak N0).2) (ae.ay N0) w') := fun h x w' hb hx D9 => by
  obtain ⟨h1, h2, h3⟩ := hgood h
  obtain ⟨d1, d2, d3⟩ := hds h1
  have e : x.num.d = (ae.fA t).d := by rw [D9, h3]
  have := kH x w' (zl hw0 hb.size) hx (by show 0 < x.num.d; omega) (by show ae.nd 10 x.num.n <= _; rw [D9, h3]; omega) (by show ae.nd 10 x.num.d <= _; rw [D9, h3]; omega)
  rw [D9] at this
  exact this
 have hSc : E0 = 0 -> uJ w N0 fun x w' => Calls Tryz.prog 129 #[x.val 10, .int .i64 (-2)] w' (vN (Lz x.n x.a (Lz x.d x.b [])) .i64 10 (ae.aG N0 (-2)) w') := fun h x w' hb hx D9 => by
  obtain ⟨h1, h2, h3⟩ := hgood h
  obtain ⟨d1, d2, d3⟩ := hds h1
  have := qH x (-2) w' (zl hw0 hb.size) (by decide) hx (by show ae.nd 10 x.num.n <= _; rw [D9, h3]; omega) (by show ae.nd 10 x.num.d <= _; rw [D9, h3]; omega)
  rw [D9] at this
  exact this
 have hFs : E0 = 0 -> uJ w (ae.aG N0 (-2)) fun x w' => Calls Tryz.prog 103 #[x.val 10] w' (fQ ((ae.ak (ae.aG N0 (-2))).1, (ae.ak (ae.aG N0 (-2))).2) (ae.ay (ae.aG N0 (-2))) w') := fun h x w' hb hx D9 => by
  obtain ⟨h1, h2, h3⟩ := hgood h
  obtain ⟨d1, d2, d3⟩ := hds h1
  have hn : (ae.aG N0 (-2)).n = N0.n := rfl
  have := kH x w' (zl hw0 hb.size) hx (by show 0 < x.num.d; rw [D9]; exact ae.ui (by rw [h3]; exact d3)) (by show ae.nd 10 x.num.n <= _; rw [D9, hn, h3]; omega) (by show ae.nd 10 x.num.d <= _; rw [D9]; exact ae.scale_small (by rw [h3]; exact d2))
  rw [D9] at this
  exact this
 have Bz : (∀ i g, gs[i]? = some g -> af.bJ gs.length i g) -> af.rX gs = true := hok.2
 have Nv : ∀ i g, gs[i]? = some g -> ¬ af.bJ gs.length i g -> ¬ af.rX gs = true := fun i g h1 h2 h3 => h2 (hok.1 h3 i g h1)
 clear hok hgl
 have hl' : r.length <= 100000 := by omega
 have YX : ((c.toNat : Int) = 45 /\ sg = [45] /\ q = List.drop 1 (c :: r)) \/ ((c.toNat : Int) = 43 /\ sg = [] /\ q = List.drop 1 (c :: r)) \/ (((c.toNat : Int) ≠ 45 /\ (c.toNat : Int) ≠ 43) /\ sg = [] /\ q = c :: r) := by
  rw [<- hq, <- hsg]
  unfold af.oV
  simp only [List.head?_cons, Option.some.injEq, List.tail_cons, List.drop_one]
  by_cases h43 : c = 43
  ·subst h43; right; left; exact ⟨rfl, rfl, rfl⟩
  ·by_cases h45 : c = 45
   ·subst h45; left; exact ⟨rfl, rfl, rfl⟩
   ·right; right
    rw [if_neg h43, if_neg h45]
    exact ⟨⟨fun h => h45 (UInt8.toNat_inj.1 (by show c.toNat = 45; omega)), fun h => h43 (UInt8.toNat_inj.1 (by show c.toNat = 43; omega))⟩, rfl, rfl⟩
 have hh : ∀ x : UInt8, ((c :: r).head? == some x) = decide (c = x) := fun x => by
  rw [Bool.eq_iff_iff]; simp
 rw [hh] at hM hP
 by_cases hp : q ≠ [] /\ (q.getD (q.length - 1) 0).toNat = 37
 ·rw [if_pos hp] at hpc
  rw [hpc] at hS hL hu g1 g2 happ ht ⊢
  dsimp only at hS hL hu g1 g2 happ ht ⊢
  obtain ⟨hp0, hp1⟩ := hp
  have hp2 : ((q.getD (q.length - 1) 0).toNat : Int) = 37 := by omega
  refine ⟨if af.rX gs = true /\ E0 = 0 then ae.aG N0 (-2) else ⟨false, 0, 0⟩, fun x hx => ?_, fun w' hb => ?_⟩
  ·split at hx
   ·rename_i ho
    split at hx
    ·cases hx
    ·rename_i hn
     simp only [not_or, Decidable.not_not] at hn
     simp only [if_true] at hx
     have hE : E0 = 0 := Decidable.byContradiction fun h => (hbad h).elim (fun h => h hn.1) (fun h => h hn.2)
     rw [if_pos ⟨ho, hE⟩, (hgood hE).2.2]
     split at hx
     ·cases hx; rfl
     ·cases hx
   ·cases hx
  ·have FO := zl hw0 hb.size
   obtain ⟨V, hV⟩ : ∃ V, V = (if af.rX gs = true then (if ae.jM t ≠ 0 \/ ae.ay (ae.fA t) ≠ 0 then none else if true = true then (if ae.ay (ae.aG (ae.fA t) (-2)) = 0 then some (ae.aG (ae.fA t) (-2)) else none) else some (ae.fA t)) else none) := ⟨_, rfl⟩
   rw [<- hV]
   have v1 : ¬ af.rX gs = true -> V.isSome = false := fun h => by rw [hV, if_neg h]; rfl
   have v2 : af.rX gs = true -> E0 ≠ 0 -> V.isSome = false := fun h h2 => by rw [hV, if_pos h, if_pos (hbad h2)]; rfl
   have v3 : af.rX gs = true -> E0 = 0 -> V.isSome = decide (ae.ay (ae.aG N0 (-2)) = 0) := fun h h2 => by
    obtain ⟨k1, k2, k3⟩ := hgood h2
    rw [hV, if_pos h, if_neg (fun h => h.elim (fun h => h k1) (fun h => h k2)), if_pos rfl, k3]
    by_cases h3 : ae.ay (ae.aG (ae.fA t) (-2)) = 0
    ·rw [if_pos h3, decide_eq_true h3]; rfl
    ·rw [if_neg h3, decide_eq_false h3]; rfl
   have a1 : ∀ i g, gs[i]? = some g -> ¬ af.bJ gs.length i g -> V.isSome = false /\ (if af.rX gs = true /\ E0 = 0 then ae.aG N0 (-2) else ⟨false, 0, 0⟩) = ⟨false, 0, 0⟩ := fun i g h1 h2 => ⟨v1 (Nv i g h1 h2), if_neg (fun h => Nv i g h1 h2 h.1)⟩
   have a2 : (∀ i g, gs[i]? = some g -> af.bJ gs.length i g) -> E0 ≠ 0 -> V.isSome = false /\ (if af.rX gs = true /\ E0 = 0 then ae.aG N0 (-2) else ⟨false, 0, 0⟩) = ⟨false, 0, 0⟩ := fun h h2 => ⟨v2 (Bz h) h2, if_neg (fun h => h2 h.2)⟩
   have a3 : (∀ i g, gs[i]? = some g -> af.bJ gs.length i g) -> E0 = 0 -> V.isSome = decide (ae.ay (ae.aG N0 (-2)) = 0) := fun h h2 => v3 (Bz h) h2
   have a4 : (∀ i g, gs[i]? = some g -> af.bJ gs.length i g) -> E0 = 0 -> uJ w' N0 fun x w2 => Calls Tryz.prog 129 #[x.val 10, .int .i64 (-2)] w2 (vN (Lz x.n x.a (Lz x.d x.b [])) .i64 10 (if af.rX gs = true /\ E0 = 0 then ae.aG N0 (-2) else ⟨false, 0, 0⟩) w2) := fun h h2 x w2 hb2 hx D9 => by
    rw [if_pos ⟨Bz h, h2⟩]; exact hSc h2 x w2 (bZ hb hb2) hx D9
   have a5 : (∀ i g, gs[i]? = some g -> af.bJ gs.length i g) -> E0 = 0 -> uJ w' (if af.rX gs = true /\ E0 = 0 then ae.aG N0 (-2) else ⟨false, 0, 0⟩) fun x w2 => Calls Tryz.prog 103 #[x.val 10] w2 (fQ ((ae.ak (ae.aG N0 (-2))).1, (ae.ak (ae.aG N0 (-2))).2) (ae.ay (ae.aG N0 (-2))) w2) := fun h h2 x w2 hb2 hx D9 => by
    rw [if_pos ⟨Bz h, h2⟩] at D9; exact hFs h2 x w2 (bZ hb hb2) hx D9
   have hR' : (∀ i g, gs[i]? = some g -> af.bJ gs.length i g) -> ∀ w2, BW w' w2 -> Calls Tryz.prog 128 #[.string (ah (sg ++ gs.flatten ++ af.KL (List.take (q.length - 1) q)))] w2 (iC .i64 10 N0 E0 w2) := fun _ w2 hb2 => by rw [<- ht]; exact hR w2 (bZ hb hb2)
   rcases YX with ⟨hc, rfl, rfl⟩ | ⟨hc, rfl, rfl⟩ | ⟨hc, rfl, rfl⟩
   ·have e45 : c = 45 := UInt8.toNat_inj.1 (by show c.toNat = 45; omega)
    rw [e45] at hM hP
    exact CJ c _ _ _ gs _ w' FO hl' hc hp0 hp2 happ rfl (by omega) (by omega) (by rw [e45]; exact hM) (by rw [e45]; exact hP) hS hL hA _ _ a1 _ _ _ hR' a2 a4 _ _ a5 a3
   ·have e43 : c = 43 := UInt8.toNat_inj.1 (by show c.toNat = 43; omega)
    rw [e43] at hM hP
    exact DC c _ _ _ gs _ w' FO hl' hc hp0 hp2 happ rfl (by omega) (by omega) (by rw [e43]; exact hM) (by rw [e43]; exact hP) hS hL hA _ _ a1 _ _ _ hR' a2 a4 _ _ a5 a3
   ·have n45 : ¬ c = 45 := fun e => hc.1 (by rw [e]; rfl)
    have n43 : ¬ c = 43 := fun e => hc.2 (by rw [e]; rfl)
    rw [decide_eq_false n45] at hM
    rw [decide_eq_false n43] at hP
    exact Dz c r _ _ gs _ w' FO hl' hc hp0 hp2 happ rfl (by omega) (by omega) hM hP hS hL hA _ _ a1 _ _ _ hR' a2 a4 _ _ a5 a3
 ·rw [if_neg hp] at hpc
  rw [hpc] at hS hL hu g1 g2 happ ht ⊢
  dsimp only at hS hL hu g1 g2 happ ht ⊢
  have hp2 : q = [] \/ ¬ ((q.getD (q.length - 1) 0).toNat : Int) = 37 := by
   by_cases h : q = []
   ·exact .inl h
   ·exact .inr (fun h2 => hp ⟨h, by omega⟩)
  refine ⟨if af.rX gs = true /\ E0 = 0 then N0 else ⟨false, 0, 0⟩, fun x hx => ?_, fun w' hb => ?_⟩
  ·split at hx
   ·rename_i ho
    split at hx
    ·cases hx
    ·rename_i hn
     simp only [not_or, Decidable.not_not] at hn
     rw [if_neg Bool.false_ne_true] at hx
     have hE : E0 = 0 := Decidable.byContradiction fun h => (hbad h).elim (fun h => h hn.1) (fun h => h hn.2)
     rw [if_pos ⟨ho, hE⟩, (hgood hE).2.2]
     cases hx; rfl
   ·cases hx
  ·have FO := zl hw0 hb.size
   obtain ⟨V, hV⟩ : ∃ V, V = (if af.rX gs = true then (if ae.jM t ≠ 0 \/ ae.ay (ae.fA t) ≠ 0 then none else if false = true then (if ae.ay (ae.aG (ae.fA t) (-2)) = 0 then some (ae.aG (ae.fA t) (-2)) else none) else some (ae.fA t)) else none) := ⟨_, rfl⟩
   rw [<- hV]
   have v1 : ¬ af.rX gs = true -> V.isSome = false := fun h => by rw [hV, if_neg h]; rfl
   have v2 : af.rX gs = true -> E0 ≠ 0 -> V.isSome = false := fun h h2 => by rw [hV, if_pos h, if_pos (hbad h2)]; rfl
   have v3 : af.rX gs = true -> E0 = 0 -> V.isSome = decide (ae.ay N0 = 0) := fun h h2 => by
    obtain ⟨k1, k2, k3⟩ := hgood h2
    rw [hV, if_pos h, if_neg (fun h => h.elim (fun h => h k1) (fun h => h k2)), if_neg Bool.false_ne_true, k3, decide_eq_true k2]; rfl
   have a1 : ∀ i g, gs[i]? = some g -> ¬ af.bJ gs.length i g -> V.isSome = false /\ (if af.rX gs = true /\ E0 = 0 then N0 else ⟨false, 0, 0⟩) = ⟨false, 0, 0⟩ := fun i g h1 h2 => ⟨v1 (Nv i g h1 h2), if_neg (fun h => Nv i g h1 h2 h.1)⟩
   have a2 : (∀ i g, gs[i]? = some g -> af.bJ gs.length i g) -> E0 ≠ 0 -> V.isSome = false /\ (if af.rX gs = true /\ E0 = 0 then N0 else ⟨false, 0, 0⟩) = ⟨false, 0, 0⟩ := fun h h2 => ⟨v2 (Bz h) h2, if_neg (fun h => h2 h.2)⟩
   have a3 : (∀ i g, gs[i]? = some g -> af.bJ gs.length i g) -> E0 = 0 -> (if af.rX gs = true /\ E0 = 0 then N0 else ⟨false, 0, 0⟩) = N0 /\ V.isSome = decide (ae.ay N0 = 0) := fun h h2 => ⟨if_pos ⟨Bz h, h2⟩, v3 (Bz h) h2⟩
   have a5 : (∀ i g, gs[i]? = some g -> af.bJ gs.length i g) -> E0 = 0 -> uJ w' N0 fun x w2 => Calls Tryz.prog 103 #[x.val 10] w2 (fQ ((ae.ak N0).1, (ae.ak N0).2) (ae.ay N0) w2) := fun h h2 x w2 hb2 hx D9 => hFr h2 x w2 (bZ hb hb2) hx D9
   have hR' : (∀ i g, gs[i]? = some g -> af.bJ gs.length i g) -> ∀ w2, BW w' w2 -> Calls Tryz.prog 128 #[.string (ah (sg ++ gs.flatten ++ af.KL q))] w2 (iC .i64 10 N0 E0 w2) := fun _ w2 hb2 => by rw [<- ht]; exact hR w2 (bZ hb hb2)
   rcases YX with ⟨hc, rfl, rfl⟩ | ⟨hc, rfl, rfl⟩ | ⟨hc, rfl, rfl⟩
   ·have e45 : c = 45 := UInt8.toNat_inj.1 (by show c.toNat = 45; omega)
    rw [e45] at hM hP
    exact Dy c _ _ _ gs _ w' FO hl' hc hp2 happ rfl (by omega) (by omega) (by rw [e45]; exact hM) (by rw [e45]; exact hP) hS hL hA _ _ a1 _ _ _ hR' a2 _ _ a5 a3
   ·have e43 : c = 43 := UInt8.toNat_inj.1 (by show c.toNat = 43; omega)
    rw [e43] at hM hP
    exact Gn c _ _ _ gs _ w' FO hl' hc hp2 happ rfl (by omega) (by omega) (by rw [e43]; exact hM) (by rw [e43]; exact hP) hS hL hA _ _ a1 _ _ _ hR' a2 _ _ a5 a3
   ·have n45 : ¬ c = 45 := fun e => hc.1 (by rw [e]; rfl)
    have n43 : ¬ c = 43 := fun e => hc.2 (by rw [e]; rfl)
    rw [decide_eq_false n45] at hM
    rw [decide_eq_false n43] at hP
    exact Gm c r _ _ gs _ w' FO hl' hc hp2 happ rfl (by omega) (by omega) hM hP hS hL hA _ _ a1 _ _ _ hR' a2 _ _ a5 a3
theorem L9 (a b c : List UInt8) : ∀ β, ∀ u ∈ SV.aF β [.str a, .str b, .str c], u.cells = #[u] := by
 intro β u hu
 simp only [SV.aF, SV.den, List.mem_cons, List.not_mem_nil, or_false] at hu
 rcases hu with rfl | rfl | rfl <;> rfl
section
variable (s t : List UInt8) (m : Bool) (l1 : List (List UInt8)) (w : World) (hw0 : 0 < w.heap.size) (hs1 : m = true -> 1 <= s.length)
 (hM : ∀ w' : World, QC 122 #[.string (ah s), .string (ah [45])] w' (.bool m))
 (ht1 : m = true -> List.drop 1 s = t) (ht0 : m = false -> s = t)
 (hS : ∀ w' : World, Calls Tryz.prog 126 #[.string (ah t), .int .u8 32] w' (fun e w'' => BW w' w'' /\ ∃ t : Nat × Nat, e = .returned (.slice (some ⟨t.1, 0, none⟩) (l1).length t.2) /\ ∀ q ∈ [((some ⟨t.1, 0, none⟩ : Option Addr), bP l1)], aS q.1 q.2 w'' /\ bz q.1 q.2 w'))
include hw0 hs1 hM ht1 ht0 hS
theorem Tc (h : l1.length ≠ 2) : Calls Tryz.prog 64 #[.string (ah s)] w (dU .i64 10 ⟨false, 0, 0⟩ false w) := by
 generalize hn : l1.length = n at *
 generalize bP l1 = xs at *
 refine yE func64 rfl results64 ntmps64 [13] [] [.str s] w ?_
 repeat' (first | exact ⟨⟩ | refine yG ?_ ?_ | refine yA (.bool m) (fun _ => hM) ?_ | intro _)
 refine yJ (T := Unit) (fun _ => ⟨[(0, .str t), (2, .ptr 0 0), (4, .bool m)], [(0, true, .cells 72 [.lit false, .any (.slice none 0 0), .any (.slice none 0 0)])], 1, 77⟩) [] [] [] [] (fun I hI => ?_) (fun _ => ?_)
 ·repeat' (first | exact ⟨⟩ | refine yG ?_ ?_ | ((with_reducible show ∃ _, _); first | (refine ⟨1, rfl, hs1 (by assumption), ?_⟩)) | intro _)
  all_goals exact hI _ () (by ((with_reducible show wk _ _); repeat' (first | exact trivial | exact au _ | refine eY ?_ | refine eqS ?_ | apply And.intro | exact yV | fail)); all_goals first | exact ht1 (by assumption) | exact ht0 (by assumption))
 repeat' (first | exact ⟨⟩ | refine yG ?_ ?_ | (refine bT (T := Nat × Nat) (fun t => .any (.slice (some ⟨t.1, 0, none⟩) n t.2)) (fun t => [(some ⟨t.1, 0, none⟩, xs)]) hw0 (by kernel_rfl) rfl (fun _ => rfl) (fun β w' hm => hS w') (fun p _ => ?_)) | refine yO (aJ underlying121) ?_ | intro _)
 all_goals first | (exfalso; omega) | (refine ret fun β w' hm => ?_; exact ⟨⟨false, 0, 0, none, 0, none, 0⟩, by simp [bI.val, ae.aT, SV.den, SV.aF], rfl, dM, sW, hm.below⟩)
variable (wd rr : List UInt8) (hl1 : l1 = [wd, rr]) (l2 : List (List UInt8))
 (hS2 : ∀ w' : World, Calls Tryz.prog 126 #[.string (ah rr), .int .u8 47] w' (fun e w'' => BW w' w'' /\ ∃ t : Nat × Nat, e = .returned (.slice (some ⟨t.1, 0, none⟩) (l2).length t.2) /\ ∀ q ∈ [((some ⟨t.1, 0, none⟩ : Option Addr), bP l2)], aS q.1 q.2 w'' /\ bz q.1 q.2 w'))
include hl1 hS2
theorem Py (h : l2.length ≠ 2) : Calls Tryz.prog 64 #[.string (ah s)] w (dU .i64 10 ⟨false, 0, 0⟩ false w) := by
 subst hl1
 have hx1 : (bP [wd, rr])[1]? = some (.string (ah rr)) := rfl
 generalize hn : l2.length = n at *
 generalize bP l2 = ys at *
 generalize bP [wd, rr] = xs at *
 refine yE func64 rfl results64 ntmps64 [13] [] [.str s] w ?_
 repeat' (first | exact ⟨⟩ | refine yG ?_ ?_ | refine yA (.bool m) (fun _ => hM) ?_ | intro _)
 refine yJ (T := Unit) (fun _ => ⟨[(0, .str t), (2, .ptr 0 0), (4, .bool m)], [(0, true, .cells 72 [.lit false, .any (.slice none 0 0), .any (.slice none 0 0)])], 1, 77⟩) [] [] [] [] (fun I hI => ?_) (fun _ => ?_)
 ·repeat' (first | exact ⟨⟩ | refine yG ?_ ?_ | ((with_reducible show ∃ _, _); first | (refine ⟨1, rfl, hs1 (by assumption), ?_⟩)) | intro _)
  all_goals exact hI _ () (by ((with_reducible show wk _ _); repeat' (first | exact trivial | exact au _ | refine eY ?_ | refine eqS ?_ | apply And.intro | exact yV | fail)); all_goals first | exact ht1 (by assumption) | exact ht0 (by assumption))
 repeat' (first | exact ⟨⟩ | refine yG ?_ ?_ | (refine bT (T := Nat × Nat) (fun t => .any (.slice (some ⟨t.1, 0, none⟩) 2 t.2)) (fun t => [(some ⟨t.1, 0, none⟩, xs)]) hw0 (by kernel_rfl) rfl (fun _ => rfl) (fun β w' hm => hS w') (fun p _ => ?_)) | (refine bT (T := Nat × Nat) (fun t => .any (.slice (some ⟨t.1, 0, none⟩) n t.2)) (fun t => [(some ⟨t.1, 0, none⟩, ys)]) hw0 (by kernel_rfl) rfl (fun _ => rfl) (fun β w' hm => hS2 w') (fun p2 _ => ?_)) | refine yO (aJ underlying121) ?_ | refine yN (j := 1) underlying121 sizeOf9 ?_ | refine yO (v := .str rr) (aP 1 (.str rr) (fun w => isAgg9 w) rfl (fun β => hx1)) ?_ | intro _)
 all_goals first | (exfalso; omega) | (refine ret fun β w' hm => ?_; exact ⟨⟨false, 0, 0, none, 0, none, 0⟩, by simp [bI.val, ae.aT, SV.den, SV.aF], rfl, dM, sW, hm.below⟩)
variable (a b : List UInt8) (hl2 : l2 = [a, b])
 (hA : ∀ g ∈ [wd, a, b], ∀ w' : World, QC 127 #[.string (ah g)] w' (.bool (af.fJ g)))
 (N : ae.Num) (ok : Bool) (hbad : ¬ (af.wh wd = true /\ af.wh a = true /\ af.wh b = true) -> ok = false /\ N = ⟨false, 0, 0⟩)
 (hNb : af.wh b = true -> ∀ w' : World, Calls Tryz.prog 130 #[.string (ah b)] w' (iT .i64 10 (ae.ax b) w'))
 (hz : af.wh wd = true /\ af.wh a = true /\ af.wh b = true -> ae.ax b = 0 -> ok = false /\ N = ⟨false, 0, 0⟩)
 (Zq : af.wh a = true -> ∀ w' : World, Calls Tryz.prog 130 #[.string (ah a)] w' (iT .i64 10 (ae.ax a) w'))
 (Zr : af.wh wd = true -> ∀ w' : World, Calls Tryz.prog 130 #[.string (ah wd)] w' (iT .i64 10 (ae.ax wd) w'))
 (P Q : Nat) (hP : af.wh wd = true /\ af.wh a = true /\ af.wh b = true -> ae.ax b ≠ 0 -> ok = true /\ N = ⟨m, P, Q⟩)
 (OD : af.wh wd = true /\ af.wh a = true /\ af.wh b = true -> ae.ax b ≠ 0 -> ∀ (x y : bI) (w' : World), BW w w' -> aX .i64 10 x w' -> aX .i64 10 y w' -> x.num = ⟨false, ae.ax wd, 1⟩ -> y.num = ⟨false, ae.ax a, ae.ax b⟩ -> Calls Tryz.prog 131 #[x.val 10, y.val 10] w' (fF .i64 10 ⟨false, P, Q⟩ w'))
include hl2 hA hbad hNb hz Zq Zr hP OD
theorem Pz : Calls Tryz.prog 64 #[.string (ah s)] w (dU .i64 10 N ok w) := by
 subst hl1 hl2
 have hwh : ∀ g, af.wh g = true ↔ af.fJ g = true /\ g.length <= 100 := fun g => by
  unfold af.wh af.fJ
  simp only [Bool.and_eq_true, decide_eq_true_eq]
 have hx0 : (bP [wd, rr])[0]? = some (.string (ah wd)) := rfl
 have hx1 : (bP [wd, rr])[1]? = some (.string (ah rr)) := rfl
 have hy0 : (bP [a, b])[0]? = some (.string (ah a)) := rfl
 have hy1 : (bP [a, b])[1]? = some (.string (ah b)) := rfl
 have A0 := hA wd (by simp)
 have A1 := hA a (by simp)
 have A2 := hA b (by simp)
 generalize bP [wd, rr] = xs at *
 generalize bP [a, b] = ys at *
 clear hA
 have hu := underlying70
 have hsz := fun w => sizeOf3 w
 have hzv := fun w => zeroValue3 w
 have hn1 : ae.nd 10 1 = 1 := ae.gq (by omega)
 have hv1 : nv .i64 10 1 = [.int .i64 1] := oO (by omega)
 refine yE func64 rfl results64 ntmps64 [13] [] [.str s] w ?_
 repeat' (first | exact ⟨⟩ | refine yG ?_ ?_ | refine yA (.bool m) (fun _ => hM) ?_ | intro _)
 refine yJ (T := Unit) (fun _ => ⟨[(0, .str t), (2, .ptr 0 0), (4, .bool m)], [(0, true, .cells 72 [.lit false, .any (.slice none 0 0), .any (.slice none 0 0)])], 1, 77⟩) [] [] [] [] (fun I hI => ?_) (fun _ => ?_)
 ·repeat' (first | exact ⟨⟩ | refine yG ?_ ?_ | ((with_reducible show ∃ _, _); first | (refine ⟨1, rfl, hs1 (by assumption), ?_⟩)) | intro _)
  all_goals exact hI _ () (by ((with_reducible show wk _ _); repeat' (first | exact trivial | exact au _ | refine eY ?_ | refine eqS ?_ | apply And.intro | exact yV | fail)); all_goals first | exact ht1 (by assumption) | exact ht0 (by assumption))
 repeat' (first | exact ⟨⟩ | refine yG ?_ ?_ | (refine bT (T := Nat × Nat) (fun t => .any (.slice (some ⟨t.1, 0, none⟩) 2 t.2)) (fun t => [(some ⟨t.1, 0, none⟩, xs)]) hw0 (by kernel_rfl) rfl (fun _ => rfl) (fun β w' hm => hS w') (fun p _ => ?_)) | (refine bT (T := Nat × Nat) (fun t => .any (.slice (some ⟨t.1, 0, none⟩) 2 t.2)) (fun t => [(some ⟨t.1, 0, none⟩, ys)]) hw0 (by kernel_rfl) rfl (fun _ => rfl) (fun β w' hm => hS2 w') (fun p2 _ => ?_)) | ((with_reducible show ∃ _ : SV, _); first | refine yO (aJ underlying121) ?_ | refine yN (j := 0) underlying121 sizeOf9 ?_ | refine yN (j := 1) underlying121 sizeOf9 ?_ | refine yO (v := .str wd) (aP 1 (.str wd) (fun w => isAgg9 w) rfl (fun β => hx0)) ?_ | refine yO (v := .str rr) (aP 1 (.str rr) (fun w => isAgg9 w) rfl (fun β => hx1)) ?_ | refine yO (v := .str a) (aP 2 (.str a) (fun w => isAgg9 w) rfl (fun β => hy0)) ?_ | refine yO (v := .str b) (aP 2 (.str b) (fun w => isAgg9 w) rfl (fun β => hy1)) ?_ | (refine ⟨.agg [.str wd, .str a, .str b], ?ok, nP rfl underlying131 (fun w => sizeOf9 w) (fun w => zeroValue131 w) rfl (L9 wd a b), ?_⟩; (case ok => exact fun _ h => h))) | intro _)
 all_goals first | (exfalso; omega) | skip
 all_goals
  clear hM hS hS2
  refine yZ (T := {i : Nat // i <= 3 /\ (0 < i -> af.wh wd = true) /\ (1 < i -> af.wh a = true) /\ (2 < i -> af.wh b = true)}) (fun t => ⟨[(2, .ptr 0 0), (4, .bool m), (5, .any (.slice (some ⟨p.1, 0, none⟩) 2 p.2)), (6, .any (.slice (some ⟨p2.1, 0, none⟩) 2 p2.2)), (39, .agg [.str wd, .str a, .str b]), (40, .int .i64 (t.1 : Nat))], [(0, true, .cells 72 [.lit false, .any (.slice none 0 0), .any (.slice none 0 0)]), (1, false, .aK (bV w.heap.size (some ⟨p.1, 0, none⟩) xs)), (2, false, .aK (bV w.heap.size (some ⟨p2.1, 0, none⟩) ys))], 3, 77⟩) (fun t => 3 - t.1) ⟨0, by omega, by omega, by omega, by omega⟩ [] [300019] (fun t I hI => ?_) yW
  obtain ⟨i, hi, z0, z1, z2⟩ := t
  dsimp only at hI ⊢
  rcases (by omega : i = 0 \/ i = 1 \/ i = 2 \/ i = 3) with rfl | rfl | rfl | rfl
  ·by_cases hw : af.wh wd = true
   ·obtain ⟨q1, q2⟩ := (hwh wd).1 hw
    rw [q1] at A0
    repeat' (first | exact ⟨⟩ | refine yG ?_ ?_ | refine yA (.lit true) (fun _ => A0) ?_ | ((with_reducible show ∃ _ : SV, _); first | (refine ⟨.str wd, ?ok, bH (j := 0) underlying131 (fun w => sizeOf9 w) (fun w => isAgg9 w) (by omega) rfl, ?_⟩; (case ok => exact fun _ _ => trivial))) | intro _)
    all_goals first | (exfalso; omega) | (refine hI _ ⟨1, by omega, fun _ => hw, fun h => by omega, fun h => by omega⟩ (by dsimp only; omega) yW; done)
   ·obtain ⟨rfl, rfl⟩ := hbad (fun h => hw h.1)
    have hnw := hwh wd
    generalize af.fJ wd = AD at *
    repeat' (first | exact ⟨⟩ | refine yG ?_ ?_ | refine yA (.bool AD) (fun _ => A0) ?_ | ((with_reducible show ∃ _ : SV, _); first | (refine ⟨.str wd, ?ok, bH (j := 0) underlying131 (fun w => sizeOf9 w) (fun w => isAgg9 w) (by omega) rfl, ?_⟩; (case ok => exact fun _ _ => trivial))) | intro _)
    all_goals first | (exfalso; omega) | (refine ret fun β w' hm => ?_; exact ⟨⟨false, 0, 0, none, 0, none, 0⟩, by simp [bI.val, ae.aT, SV.den, SV.aF], rfl, dM, sW, hm.below⟩) | (exfalso; apply hw; apply hnw.2; constructor; (simpa using (by assumption : (!AD) = false)); omega)
  ·by_cases hw : af.wh a = true
   ·obtain ⟨q1, q2⟩ := (hwh a).1 hw
    rw [q1] at A1
    repeat' (first | exact ⟨⟩ | refine yG ?_ ?_ | refine yA (.lit true) (fun _ => A1) ?_ | ((with_reducible show ∃ _ : SV, _); first | (refine ⟨.str a, ?ok, bH (j := 1) underlying131 (fun w => sizeOf9 w) (fun w => isAgg9 w) (by omega) rfl, ?_⟩; (case ok => exact fun _ _ => trivial))) | intro _)
    all_goals first | (exfalso; omega) | (refine hI _ ⟨2, by omega, fun _ => z0 (by omega), fun _ => hw, fun h => by omega⟩ (by dsimp only; omega) yW; done)
   ·obtain ⟨rfl, rfl⟩ := hbad (fun h => hw h.2.1)
    have hnw := hwh a
    generalize af.fJ a = AD at *
    repeat' (first | exact ⟨⟩ | refine yG ?_ ?_ | refine yA (.bool AD) (fun _ => A1) ?_ | ((with_reducible show ∃ _ : SV, _); first | (refine ⟨.str a, ?ok, bH (j := 1) underlying131 (fun w => sizeOf9 w) (fun w => isAgg9 w) (by omega) rfl, ?_⟩; (case ok => exact fun _ _ => trivial))) | intro _)
    all_goals first | (exfalso; omega) | (refine ret fun β w' hm => ?_; exact ⟨⟨false, 0, 0, none, 0, none, 0⟩, by simp [bI.val, ae.aT, SV.den, SV.aF], rfl, dM, sW, hm.below⟩) | (exfalso; apply hw; apply hnw.2; constructor; (simpa using (by assumption : (!AD) = false)); omega)
  ·by_cases hw : af.wh b = true
   ·obtain ⟨q1, q2⟩ := (hwh b).1 hw
    rw [q1] at A2
    repeat' (first | exact ⟨⟩ | refine yG ?_ ?_ | refine yA (.lit true) (fun _ => A2) ?_ | ((with_reducible show ∃ _ : SV, _); first | (refine ⟨.str b, ?ok, bH (j := 2) underlying131 (fun w => sizeOf9 w) (fun w => isAgg9 w) (by omega) rfl, ?_⟩; (case ok => exact fun _ _ => trivial))) | intro _)
    all_goals first | (exfalso; omega) | (refine hI _ ⟨3, by omega, fun _ => z0 (by omega), fun _ => z1 (by omega), fun _ => hw⟩ (by dsimp only; omega) yW; done)
   ·obtain ⟨rfl, rfl⟩ := hbad (fun h => hw h.2.2)
    have hnw := hwh b
    generalize af.fJ b = AD at *
    repeat' (first | exact ⟨⟩ | refine yG ?_ ?_ | refine yA (.bool AD) (fun _ => A2) ?_ | ((with_reducible show ∃ _ : SV, _); first | (refine ⟨.str b, ?ok, bH (j := 2) underlying131 (fun w => sizeOf9 w) (fun w => isAgg9 w) (by omega) rfl, ?_⟩; (case ok => exact fun _ _ => trivial))) | intro _)
    all_goals first | (exfalso; omega) | (refine ret fun β w' hm => ?_; exact ⟨⟨false, 0, 0, none, 0, none, 0⟩, by simp [bI.val, ae.aT, SV.den, SV.aF], rfl, dM, sW, hm.below⟩) | (exfalso; apply hw; apply hnw.2; constructor; (simpa using (by assumption : (!AD) = false)); omega)
  ·have h0 := z0 (by omega)
   have h1 := z1 (by omega)
   have h2 := z2 (by omega)
   replace hNb := hNb h2
   replace Zq := Zq h1
   replace Zr := Zr h0
   replace hz := hz ⟨h0, h1, h2⟩
   replace hP := hP ⟨h0, h1, h2⟩
   replace OD := OD ⟨h0, h1, h2⟩
   clear hbad A0 A1 A2 hI z0 z1 z2 h0 h1 h2 hwh
   have hnd := ae.fM (b := 10) (x := ae.ax b) (by omega)
   generalize ae.ax b = vb at *
   generalize ae.ax a = va at *
   generalize ae.ax wd = vw at *
   by_cases hvb : vb = 0
   ·obtain ⟨rfl, rfl⟩ := hz hvb
    repeat' (first | exact ⟨⟩ | refine yG ?_ ?_ | (refine aH .i64 10 vb hw0 (by kernel_rfl) rfl (fun β w' hm => hNb w') (fun a3 c3 q7 q8 q9 => ?_)) | refine yN (j := 1) underlying121 sizeOf9 ?_ | refine yO (v := .str b) (aP 2 (.str b) (fun w => isAgg9 w) rfl (fun β => hy1)) ?_ | refine yO (aJ underlying70) ?_ | intro _)
    all_goals first | (exfalso; omega) | (refine ret fun β w' hm => ?_; exact ⟨⟨false, 0, 0, none, 0, none, 0⟩, by simp [bI.val, ae.aT, SV.den, SV.aF], rfl, dM, sW, hm.below⟩)
   ·obtain ⟨rfl, rfl⟩ := hP hvb
    replace OD := OD hvb
    repeat' (first | exact ⟨⟩ | refine yG ?_ ?_ | (refine aH .i64 10 vb hw0 (by kernel_rfl) rfl (fun β w' hm => hNb w') (fun a3 c3 q7 q8 q9 => ?_)) | refine yN (j := 1) underlying121 sizeOf9 ?_ | refine yO (v := .str b) (aP 2 (.str b) (fun w => isAgg9 w) rfl (fun β => hy1)) ?_ | refine yO (aJ underlying70) ?_ | intro _)
    all_goals first | (exfalso; omega) | skip
    refine iM 3 hw0 ?_
    refine yJ (T := {t : Option Addr × Nat × Option Addr × Nat // iw 10 ⟨false, P, Q, t.1, t.2.1, t.2.2.1, t.2.2.2⟩}) (fun t => ⟨[(2, .ptr 0 0), (4, .bool m), (10, .ptr 4 0)], [(0, true, .cells 72 [.lit false, .any (.slice none 0 0), .any (.slice none 0 0)]), (5, false, .aK (bV w.heap.size t.1.1 (nv .i64 10 P))), (6, false, .aK (bV w.heap.size t.1.2.2.1 (nv .i64 10 Q))), (4, true, .cells 72 [.bool false, .any (.slice t.1.1 (ae.nd 10 P) t.1.2.1), .any (.slice t.1.2.2.1 (ae.nd 10 Q) t.1.2.2.2)])], 7, 77⟩) [] [200019] [] [] (fun I2 hI2 => ?_) (fun t => ?_)
    ·repeat' (first | exact ⟨⟩ | refine yG ?_ ?_ | (refine aH .i64 10 vb hw0 (by kernel_rfl) rfl (fun β w' hm => hNb w') (fun a3 c3 q7 q8 q9 => ?_)) | (refine aH .i64 10 va hw0 (by kernel_rfl) rfl (fun β w' hm => Zq w') (fun a2 c2 q4 q5 q6 => ?_)) | (refine aH .i64 10 vw hw0 (by kernel_rfl) rfl (fun β w' hm => Zr w') (fun a1 c1 q1 q2 q3 => ?_)) | (refine dF .i64 10 ⟨false, P, Q⟩ hw0 (by kernel_rfl) rfl (fun β w' hm => by have W2 := OD ⟨false, vw, 1, a1, c1, some ⟨g1, 0, none⟩, 1⟩ ⟨false, va, vb, a2, c2, a3, c3⟩ w' hm.below (aX.of (df hm) (by rw [hv1]; exact (by first | exact (hm.own 7 rfl).1 | exact (hm.own 8 rfl).1 | exact (hm.own 9 rfl).1 | exact (hm.own 10 rfl).1 | exact (hm.own 11 rfl).1 | exact (hm.own 12 rfl).1)) ⟨q1, (fun h => by cases h), q2, by dsimp only; omega⟩) (aX.of (df hm) (df hm) ⟨q4, q7, q5, q8⟩) rfl rfl; simp only [bI.val, hn1] at W2; exact W2) (fun a5 c5 a6 c6 hc5 => ?_)) | (refine aI (sz := 1) rfl rfl rfl (xs := [.int .i64 1]) (fun β => rfl) rfl (by omega) (by omega) hu hsz hzv (fun g1 => ?_)) | refine yN (j := 0) underlying121 sizeOf9 ?_ | refine yN (j := 1) underlying121 sizeOf9 ?_ | refine yO (v := .str wd) (aP 1 (.str wd) (fun w => isAgg9 w) rfl (fun β => hx0)) ?_ | refine yO (v := .str a) (aP 2 (.str a) (fun w => isAgg9 w) rfl (fun β => hy0)) ?_ | refine yO (v := .str b) (aP 2 (.str b) (fun w => isAgg9 w) rfl (fun β => hy1)) ?_ | refine yO (aJ underlying70) ?_ | intro _)
     all_goals refine qY 10 4 rfl rfl rfl (Nat.zero_le _) ?_
     all_goals first | refine ai (Φ := bV w.heap.size a5 (nv .i64 10 P)) 5 7 rfl rfl rfl (Nat.zero_le _) (by kernel_rfl) ?_ | refine ai (Φ := bV w.heap.size a5 (nv .i64 10 P)) 5 8 rfl rfl rfl (Nat.zero_le _) (by kernel_rfl) ?_ | refine ai (Φ := bV w.heap.size a5 (nv .i64 10 P)) 5 9 rfl rfl rfl (Nat.zero_le _) (by kernel_rfl) ?_ | refine ai (Φ := bV w.heap.size a5 (nv .i64 10 P)) 5 10 rfl rfl rfl (Nat.zero_le _) (by kernel_rfl) ?_ | refine ai (Φ := bV w.heap.size a5 (nv .i64 10 P)) 5 11 rfl rfl rfl (Nat.zero_le _) (by kernel_rfl) ?_ | refine ai (Φ := bV w.heap.size a5 (nv .i64 10 P)) 5 12 rfl rfl rfl (Nat.zero_le _) (by kernel_rfl) ?_ | refine ai (Φ := bV w.heap.size a5 (nv .i64 10 P)) 5 13 rfl rfl rfl (Nat.zero_le _) (by kernel_rfl) ?_ | refine ai (Φ := bV w.heap.size a5 (nv .i64 10 P)) 5 14 rfl rfl rfl (Nat.zero_le _) (by kernel_rfl) ?_
     all_goals first | refine ai (Φ := bV w.heap.size a6 (nv .i64 10 Q)) 6 7 rfl rfl rfl (Nat.zero_le _) (by kernel_rfl) ?_ | refine ai (Φ := bV w.heap.size a6 (nv .i64 10 Q)) 6 8 rfl rfl rfl (Nat.zero_le _) (by kernel_rfl) ?_ | refine ai (Φ := bV w.heap.size a6 (nv .i64 10 Q)) 6 9 rfl rfl rfl (Nat.zero_le _) (by kernel_rfl) ?_ | refine ai (Φ := bV w.heap.size a6 (nv .i64 10 Q)) 6 10 rfl rfl rfl (Nat.zero_le _) (by kernel_rfl) ?_ | refine ai (Φ := bV w.heap.size a6 (nv .i64 10 Q)) 6 11 rfl rfl rfl (Nat.zero_le _) (by kernel_rfl) ?_ | refine ai (Φ := bV w.heap.size a6 (nv .i64 10 Q)) 6 12 rfl rfl rfl (Nat.zero_le _) (by kernel_rfl) ?_ | refine ai (Φ := bV w.heap.size a6 (nv .i64 10 Q)) 6 13 rfl rfl rfl (Nat.zero_le _) (by kernel_rfl) ?_ | refine ai (Φ := bV w.heap.size a6 (nv .i64 10 Q)) 6 14 rfl rfl rfl (Nat.zero_le _) (by kernel_rfl) ?_
     all_goals exact hI2 _ ⟨(a5, c5, a6, c6), hc5⟩ (by dsimp only; ((with_reducible show wk _ _); repeat' (first | exact trivial | exact au _ | refine eY ?_ | refine eqS ?_ | apply And.intro | exact yV | fail)); all_goals exact fun b x h => h)
    ·obtain ⟨⟨a5, c5, a6, c6⟩, hc5⟩ := t
     dsimp only at hc5 ⊢
     repeat' (first | exact ⟨⟩ | refine yG ?_ ?_ | intro _)
     all_goals first | (refine ret fun β w' hm => ?_; exact ⟨⟨m, P, Q, a5, c5, a6, c6⟩, rfl, rfl, ⟨hc5.1, hc5.2, hc5.3, hc5.4⟩, oK (df hm) (nS hm) (df hm) (nS hm), hm.below⟩)
end
theorem CX (s : List UInt8) (w : World) (hs : s.length <= 9) (ha : s.all ae.aY = true) : QC 132 #[.string (ah s)] w (.int .i64 (ae.ax s : Nat)) := by
 have hb : ∀ n, n <= s.length -> ae.ax (s.take n) < 1000000000 := fun n hn => by
  have h1 := ae.jW _ (AA ha n)
  have h2 : (s.take n).length <= 9 := by simp; omega
  exact zl h1 (Nat.pow_le_pow_right (by omega) h2)
 refine yE func132 rfl results132 ntmps132 [] [] [.str s] w ?_
 repeat' (first | exact ⟨⟩ | refine yG ?_ ?_ | intro _)
 refine yZ (T := {n : Nat // n <= s.length}) (fun t => ⟨[(0, .str s), (3, .int .i64 (ae.ax (s.take t.1) : Nat)), (6, .int .i64 (s.length : Nat)), (7, .int .i64 (t.1 : Nat))], [], 0, 20⟩) (fun t => s.length - t.1) ⟨0, Nat.zero_le _⟩ [] [] (fun t I hI => ?_) (by dsimp only; rw [List.take_zero]; ((with_reducible show wk _ _); repeat' (first | exact trivial | exact au _ | refine eY ?_ | refine eqS ?_ | apply And.intro | exact yV | fail)))
 obtain ⟨n, hn⟩ := t
 dsimp only
 have h1 := hb n hn
 by_cases hlt : n < s.length
 ·have h2 := hb (n + 1) (by omega)
  rw [ae.uq s n hlt] at h2
  have hd := ae.jR.1 (Kr ha hlt)
  repeat' (first | exact ⟨⟩ | refine yG ?_ ?_ | ((with_reducible show ∃ _, _); first | (refine ⟨n, rfl, by omega, ?_⟩)) | intro _)
  all_goals exact hI _ ⟨n + 1, by omega⟩ (by dsimp only; omega) (by dsimp only; rw [ae.uq s n hlt]; ((with_reducible show wk _ _); repeat' (first | exact trivial | exact au _ | refine eY ?_ | refine eqS ?_ | apply And.intro | exact yV | fail)))
 ·have e : s.take n = s := List.take_of_length_le (by omega)
  rw [e]
  repeat' (first | exact ⟨⟩ | refine yG ?_ ?_ | intro _)
  all_goals rfl
section
variable (s : List UInt8) (l : List (List UInt8)) (w : World) (hw0 : 0 < w.heap.size)
 (hS : ∀ w' : World, Calls Tryz.prog 126 #[.string (ah s), .int .u8 45] w' (fun e w'' => BW w' w'' /\ ∃ t : Nat × Nat, e = .returned (.slice (some ⟨t.1, 0, none⟩) (l).length t.2) /\ ∀ q ∈ [((some ⟨t.1, 0, none⟩ : Option Addr), bP l)], aS q.1 q.2 w'' /\ bz q.1 q.2 w'))
include hw0 hS
theorem Pj (h : l.length ≠ 3) : Calls Tryz.prog 65 #[.string (ah s)] w (dU .i64 10 ⟨false, 0, 0⟩ false w) := by
 generalize hn : l.length = n at *
 generalize bP l = xs at *
 refine yE func65 rfl results65 ntmps65 [] [] [.str s] w ?_
 repeat' (first | exact ⟨⟩ | refine yG ?_ ?_ | (refine bT (T := Nat × Nat) (fun t => .any (.slice (some ⟨t.1, 0, none⟩) n t.2)) (fun t => [(some ⟨t.1, 0, none⟩, xs)]) hw0 (by kernel_rfl) rfl (fun _ => rfl) (fun β w' hm => hS w') (fun p _ => ?_)) | refine yO (aJ underlying121) ?_ | intro _)
 all_goals first | (exfalso; omega) | (refine ret fun β w' hm => ?_; exact ⟨⟨false, 0, 0, none, 0, none, 0⟩, by simp [bI.val, ae.aT, SV.den, SV.aF], rfl, dM, sW, hm.below⟩)
variable (a b c : List UInt8) (hl : l = [a, b, c])
 (hA : ∀ g ∈ [a, b, c], ∀ w' : World, QC 127 #[.string (ah g)] w' (.bool (af.fJ g)))
include hl hA
theorem Ph (h : ¬ (a.length = 4 /\ b.length = 2 /\ c.length = 2 /\ af.fJ a = true /\ af.fJ b = true /\ af.fJ c = true)) : Calls Tryz.prog 65 #[.string (ah s)] w (dU .i64 10 ⟨false, 0, 0⟩ false w) := by
 subst hl
 have hx0 : (bP [a, b, c])[0]? = some (.string (ah a)) := rfl
 have hx1 : (bP [a, b, c])[1]? = some (.string (ah b)) := rfl
 have hx2 : (bP [a, b, c])[2]? = some (.string (ah c)) := rfl
 have A0 := hA a (by simp)
 have A1 := hA b (by simp)
 have A2 := hA c (by simp)
 clear hA
 generalize af.fJ a = D0 at *
 generalize af.fJ b = D1 at *
 generalize af.fJ c = D2 at *
 generalize bP [a, b, c] = xs at *
 refine yE func65 rfl results65 ntmps65 [] [300004] [.str s] w ?_
 repeat' (first | exact ⟨⟩ | refine yG ?_ ?_ | (refine bT (T := Nat × Nat) (fun t => .any (.slice (some ⟨t.1, 0, none⟩) 3 t.2)) (fun t => [(some ⟨t.1, 0, none⟩, xs)]) hw0 (by kernel_rfl) rfl (fun _ => rfl) (fun β w' hm => hS w') (fun p _ => ?_)) | refine yA (.bool D0) (fun _ => A0) ?_ | refine yA (.bool D1) (fun _ => A1) ?_ | refine yA (.bool D2) (fun _ => A2) ?_ | ((with_reducible show ∃ _ : SV, _); first | refine yO (aJ underlying121) ?_ | refine yN (j := 0) underlying121 sizeOf9 ?_ | refine yN (j := 1) underlying121 sizeOf9 ?_ | refine yN (j := 2) underlying121 sizeOf9 ?_ | refine yO (v := .str a) (aP 1 (.str a) (fun w => isAgg9 w) rfl (fun β => hx0)) ?_ | refine yO (v := .str b) (aP 1 (.str b) (fun w => isAgg9 w) rfl (fun β => hx1)) ?_ | refine yO (v := .str c) (aP 1 (.str c) (fun w => isAgg9 w) rfl (fun β => hx2)) ?_ | (refine ⟨.bool D0, by kernel_rfl, trivial, fun β w hm => A0 w, ?_⟩) | (refine ⟨.bool D1, by kernel_rfl, trivial, fun β w hm => A1 w, ?_⟩) | (refine ⟨.bool D2, by kernel_rfl, trivial, fun β w hm => A2 w, ?_⟩)) | intro _)
 all_goals first | (exfalso; omega) | (refine ret fun β w' hm => ?_; exact ⟨⟨false, 0, 0, none, 0, none, 0⟩, by simp [bI.val, ae.aT, SV.den, SV.aF], rfl, dM, sW, hm.below⟩) | (exfalso; clear hS A0 A1 A2; apply h; refine ⟨?_, ?_, ?_, ?_, ?_, ?_⟩ <;> first | omega | (simp_all; done))
variable (D : Int) (hB : -9223372036854775808 <= D /\ D <= 9223372036854775807)
 (hm : ∀ g ∈ [a, b, c], ∀ w' : World, QC 132 #[.string (ah g)] w' (.int .i64 (ae.ax g : Nat)))
 (hD : ∀ w' : World, QC 30 #[.int .i64 (ae.ax a : Nat), .int .i64 (ae.ax b : Nat), .int .i64 (ae.ax c : Nat)] w' (.int .i64 D))
include hB hm hD
theorem SL (h : a.length = 4 /\ b.length = 2 /\ c.length = 2 /\ af.fJ a = true /\ af.fJ b = true /\ af.fJ c = true) : Calls Tryz.prog 65 #[.string (ah s)] w (dU .i64 10 (ae.dR D) (decide (0 < D)) w) := by
 subst hl
 have hx0 : (bP [a, b, c])[0]? = some (.string (ah a)) := rfl
 have hx1 : (bP [a, b, c])[1]? = some (.string (ah b)) := rfl
 have hx2 : (bP [a, b, c])[2]? = some (.string (ah c)) := rfl
 have A0 := hA a (by simp)
 have A1 := hA b (by simp)
 have A2 := hA c (by simp)
 have M0 := hm a (by simp)
 have M1 := hm b (by simp)
 have M2 := hm c (by simp)
 clear hA hm
 obtain ⟨l1, l2, l3, d1, d2, d3⟩ := h
 rw [d1] at A0
 rw [d2] at A1
 rw [d3] at A2
 have W := fun (w' : World) (h : BW w w') => mO D w' (zl hw0 h.size) hB.1 hB.2
 generalize ae.ax a = va at *
 generalize ae.ax b = vb at *
 generalize ae.ax c = vc at *
 obtain ⟨wn, hwn⟩ : ∃ wn, ae.dR D = wn := ⟨_, rfl⟩
 rw [hwn] at W ⊢
 obtain ⟨m0, n0, e0⟩ := wn
 generalize bP [a, b, c] = xs at *
 refine yE func65 rfl results65 ntmps65 [] [300004] [.str s] w ?_
 repeat' (first | exact ⟨⟩ | refine yG ?_ ?_ | (refine bT (T := Nat × Nat) (fun t => .any (.slice (some ⟨t.1, 0, none⟩) 3 t.2)) (fun t => [(some ⟨t.1, 0, none⟩, xs)]) hw0 (by kernel_rfl) rfl (fun _ => rfl) (fun β w' hm => hS w') (fun p _ => ?_)) | refine yA (.lit true) (fun _ => A0) ?_ | refine yA (.lit true) (fun _ => A1) ?_ | refine yA (.lit true) (fun _ => A2) ?_ | ((with_reducible show ∃ _ : SV, _); first | refine yO (aJ underlying121) ?_ | refine yN (j := 0) underlying121 sizeOf9 ?_ | refine yN (j := 1) underlying121 sizeOf9 ?_ | refine yN (j := 2) underlying121 sizeOf9 ?_ | refine yO (v := .str a) (aP 1 (.str a) (fun w => isAgg9 w) rfl (fun β => hx0)) ?_ | refine yO (v := .str b) (aP 1 (.str b) (fun w => isAgg9 w) rfl (fun β => hx1)) ?_ | refine yO (v := .str c) (aP 1 (.str c) (fun w => isAgg9 w) rfl (fun β => hx2)) ?_ | (refine ⟨.lit true, by kernel_rfl, trivial, fun β w hm => A0 w, ?_⟩) | (refine ⟨.lit true, by kernel_rfl, trivial, fun β w hm => A1 w, ?_⟩) | (refine ⟨.lit true, by kernel_rfl, trivial, fun β w hm => A2 w, ?_⟩)) | intro _)
 all_goals first | (exfalso; omega) | skip
 refine yJ (T := Unit) (fun _ => ⟨[(2, .ptr 0 0), (5, .int .i64 D)], [(0, true, .cells 72 [.lit false, .any (.slice none 0 0), .any (.slice none 0 0)])], 2, 71⟩) [] [] [] [] (fun I hI => ?_) (fun _ => ?_)
 ·repeat' (first | exact ⟨⟩ | refine yG ?_ ?_ | refine yA (.int .i64 (va : Nat)) (fun _ => M0) ?_ | refine yA (.int .i64 (vb : Nat)) (fun _ => M1) ?_ | refine yA (.int .i64 (vc : Nat)) (fun _ => M2) ?_ | refine yA (.int .i64 D) (fun _ => hD) ?_ | ((with_reducible show ∃ _ : SV, _); first | refine yN (j := 0) underlying121 sizeOf9 ?_ | refine yN (j := 1) underlying121 sizeOf9 ?_ | refine yN (j := 2) underlying121 sizeOf9 ?_ | refine yO (v := .str a) (aP 1 (.str a) (fun w => isAgg9 w) rfl (fun β => hx0)) ?_ | refine yO (v := .str b) (aP 1 (.str b) (fun w => isAgg9 w) rfl (fun β => hx1)) ?_ | refine yO (v := .str c) (aP 1 (.str c) (fun w => isAgg9 w) rfl (fun β => hx2)) ?_ | (refine ⟨.int .i64 (va : Nat), by kernel_rfl, trivial, fun β w hm => M0 w, ?_⟩) | (refine ⟨.int .i64 (vb : Nat), by kernel_rfl, trivial, fun β w hm => M1 w, ?_⟩) | (refine ⟨.int .i64 (vc : Nat), by kernel_rfl, trivial, fun β w hm => M2 w, ?_⟩) | (refine ⟨.int .i64 D, by kernel_rfl, trivial, fun β w hm => hD w, ?_⟩)) | intro _)
  all_goals first | exact hI _ () (by exact yW)
 ·repeat' (first | exact ⟨⟩ | refine yG ?_ ?_ | (refine dF .i64 10 ⟨m0, n0, e0⟩ hw0 (by kernel_rfl) rfl (fun β w' hm => W w' hm.below) (fun a1 c1 a2 c2 hc1 => ?_)) | intro _)
  all_goals first | (refine ret fun β w' hm => ?_; exact ⟨⟨m0, n0, e0, a1, c1, a2, c2⟩, rfl, rfl, hc1, oK (df hm) (nS hm) (df hm) (nS hm), hm.below⟩)
end
theorem af.EY (g : List UInt8) (n : Nat) (h0 : 0 < n) : af.mV g n = true ↔ g.length = n /\ af.fJ g = true := by
 unfold af.mV af.fJ
 cases g with
 | nil => simp; omega
 | cons x g => simp [and_comm]
theorem Cc (s : List UInt8) (w : World) (hw0 : 0 < w.heap.size) (hl : s.length <= 40000) : mP 65 s (af.jH s) w := by
 have hS := fun (w' : World) => kJ 45 s w' (by omega)
 have hlen := jJ 45 s
 unfold af.jH
 by_cases h3 : (af.aN 45 s).length = 3
 ·match hsp : af.aN 45 s, h3 with
  | [a, b, c], _ =>
    rw [hsp] at hS hlen
    have la := hlen a (by simp)
    have lb := hlen b (by simp)
    have lc := hlen c (by simp)
    have hv : af.gX s = if af.mV a 4 = true /\ af.mV b 2 = true /\ af.mV c 2 = true then af.o8 (ae.ax a : Nat) (ae.ax b : Nat) (ae.ax c : Nat) else 0 := by
     unfold af.gX
     rw [hsp]
    have hA : ∀ g ∈ [a, b, c], ∀ w' : World, QC 127 #[.string (ah g)] w' (.bool (af.fJ g)) := fun g hg w' => ig g w' (by
     have := hlen g hg
     omega)
    have c1 := af.EY a 4 (by omega)
    have c2 := af.EY b 2 (by omega)
    have c3 := af.EY c 2 (by omega)
    by_cases hc : a.length = 4 /\ b.length = 2 /\ c.length = 2 /\ af.fJ a = true /\ af.fJ b = true /\ af.fJ c = true
    ·rw [if_pos ⟨c1.2 ⟨hc.1, hc.2.2.2.1⟩, c2.2 ⟨hc.2.1, hc.2.2.2.2.1⟩, c3.2 ⟨hc.2.2.1, hc.2.2.2.2.2⟩⟩] at hv
     have hb := af.Af (ae.ax a : Nat) (ae.ax b : Nat) (ae.ax c : Nat)
     have hm : ∀ g ∈ [a, b, c], ∀ w' : World, QC 132 #[.string (ah g)] w' (.int .i64 (ae.ax g : Nat)) := fun g hg w' => by
      have had : af.fJ g = true /\ g.length <= 9 := by
       simp only [List.mem_cons, List.not_mem_nil, or_false] at hg
       rcases hg with rfl | rfl | rfl
       ·exact ⟨hc.2.2.2.1, by omega⟩
       ·exact ⟨hc.2.2.2.2.1, by omega⟩
       ·exact ⟨hc.2.2.2.2.2, by omega⟩
      have ZZ : g.all ae.aY = true := by
       have := had.1
       unfold af.fJ at this
       simp only [Bool.and_eq_true] at this
       exact this.2
      exact CX g w' had.2 ZZ
     refine ⟨ae.dR (af.gX s), fun x hx => ?_, fun w' hbw => ?_⟩
     ·split at hx
      ·rename_i h0
       cases hx
       unfold ae.dR
       rw [decide_eq_false (by omega)]
       congr 1
       omega
      ·cases hx
     ·have := SL s [a, b, c] w' (zl hw0 hbw.size) hS a b c rfl hA (af.gX s) (by rw [hv]; omega) hm (fun w2 => by rw [hv]; exact SN _ _ _ w2) hc
      by_cases h0 : 0 < af.gX s
      ·rw [if_pos h0]; rw [decide_eq_true h0] at this; exact this
      ·rw [if_neg h0]; rw [decide_eq_false h0] at this; exact this
    ·rw [if_neg (fun h => hc ⟨(c1.1 h.1).1, (c2.1 h.2.1).1, (c3.1 h.2.2).1, (c1.1 h.1).2, (c2.1 h.2.1).2, (c3.1 h.2.2).2⟩)] at hv
     rw [hv, if_neg (by omega)]
     exact ⟨⟨false, 0, 0⟩, (fun x h => by cases h), fun w' hbw => Ph s [a, b, c] w' (zl hw0 hbw.size) hS a b c rfl hA hc⟩
 ·have hv : af.gX s = 0 := by
   unfold af.gX
   split
   ·rename_i h; rw [h] at h3; exact absurd rfl h3
   ·rfl
  rw [hv, if_neg (by omega)]
  exact ⟨⟨false, 0, 0⟩, (fun x h => by cases h), fun w' hbw => Pj s _ w' (zl hw0 hbw.size) hS h3⟩
end Go.Proofs.YtdkhkfdenlabaaaGreatDoor
