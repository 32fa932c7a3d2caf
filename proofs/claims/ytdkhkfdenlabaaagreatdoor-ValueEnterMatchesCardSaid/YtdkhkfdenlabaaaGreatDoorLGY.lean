/- Values, the reference: times. Values, the reference: moments; Enter of every text is what Values: the law of Enter. The frame of a law's proof: what was read below the heap's o Arguments that are fractions: opened to their fields. -/
import Derived.Test.YtdkhkfdenlabaaaGreatDoorLGG
import Derived.Test.YtdkhkfdenlabaaaGreatDoorLGX
import Derived.Test.YtdkhkfdenlabaaaGreatDoorLGS
import Derived.ProofKit
import Derived.OpenShut
import Derived.ShutString
import Derived.Below
import Derived.Carry
import Derived.Test.YtdkhkfdenlabaaaGreatDoorLGL
import Derived.Deep.Slices
import Derived.Deep.Fields
import Derived.ChangeSame
set_option linter.unusedSimpArgs false
set_option linter.unusedVariables false
set_option maxRecDepth 100000
set_option maxHeartbeats 64000000
namespace Go.Proofs.YtdkhkfdenlabaaaGreatDoor
open Go.RowKit
open Sym
attribute [local irreducible] Calls Sym.AggEq ExP.nd ExP.dig ExP.upd ExP.writeF ExP.writeE
theorem ExP.whole_nat (k : Nat) : ExP.wholeN ((k : Nat) : Int) = ⟨false, k, 1⟩ := by
 unfold ExP.wholeN
 rw [decide_eq_false (by omega)]
 congr 1
theorem VaP.ad_parts {g : List UInt8} (h : VaP.adP g = true) : g ≠ [] ∧ g.all ExP.digC = true := by
 unfold VaP.adP at h
 simp only [Bool.and_eq_true, Bool.not_eq_true', List.isEmpty_eq_false_iff] at h
 exact h
theorem VaP.ad_of {g : List UInt8} (h : g ≠ []) (h2 : g.all ExP.digC = true) : VaP.adP g = true := by
 unfold VaP.adP
 simp only [Bool.and_eq_true, Bool.not_eq_true', List.isEmpty_eq_false_iff]
 exact ⟨h, h2⟩
theorem VaP.hm_ad (a b : List UInt8) : VaP.hmP a b = true ↔ (VaP.adP a = true ∧ a.length ≤ 2 ∧ VaP.adP b = true ∧ b.length = 2 ∧ ExP.valS a ≤ 23 ∧ ExP.valS b ≤ 59) := by
 unfold VaP.hmP
 have hc := VaP.ad_cnt b 2 (by omega)
 simp only [Bool.and_eq_true, decide_eq_true_eq, hc]
 unfold VaP.adP
 simp only [Bool.and_eq_true]
 constructor
 ·rintro ⟨⟨⟨⟨⟨h1, h2⟩, h3⟩, h4, h5⟩, h6⟩, h7⟩
  exact ⟨⟨h1, h2⟩, h3, h5, h4, h6, h7⟩
 ·rintro ⟨⟨h1, h2⟩, h3, h5, h4, h6, h7⟩
  exact ⟨⟨⟨⟨⟨h1, h2⟩, h3⟩, h4, h5⟩, h6⟩, h7⟩
theorem ExP.ndS {n : Nat} (h : n < 10000000000000000000000000) : ExP.nd 10 n ≤ 1000000 := Nat.le_trans (ExP.nd_le (n := 25) (by omega) (by simpa using h)) (by omega)
theorem mul_num {A B C D : Nat} {P Q : Nat} (hP : A * C = P) (hQ : B * D = Q) (hA : A < 10000000000000000000000000) (hB : B < 10000000000000000000000000) (hC : C < 10000000000000000000000000) (hD : D < 10000000000000000000000000) (x y : FrV) (w : World) (hw0 : 0 < w.heap.size) (hx : FrIn .i64 10 x w) (hy : FrIn .i64 10 y w) (ex : x.num = ⟨false, A, B⟩) (ey : y.num = ⟨false, C, D⟩) : Calls Tryz.prog 133 #[x.val 10, y.val 10] w (FrOut .i64 10 ⟨false, P, Q⟩ w) := by
 have := rmul_any x y w hw0 hx hy (by show ExP.nd 10 x.num.n ≤ _; rw [ex]; exact ExP.ndS hA) (by show ExP.nd 10 x.num.d ≤ _; rw [ex]; exact ExP.ndS hB) (by show ExP.nd 10 y.num.n ≤ _; rw [ey]; exact ExP.ndS hC) (by show ExP.nd 10 y.num.d ≤ _; rw [ey]; exact ExP.ndS hD)
 rw [ex, ey] at this
 have e : ExP.mulN ⟨false, A, B⟩ ⟨false, C, D⟩ = ⟨false, P, Q⟩ := by unfold ExP.mulN; dsimp only; rw [hP, hQ]; rfl
 rw [e] at this
 exact this
theorem add_num {A B C D : Nat} {P Q : Nat} (hP : A * D + C * B = P) (hQ : B * D = Q) (hA : A < 10000000000000000000000000) (hB : B < 10000000000000000000000000) (hC : C < 10000000000000000000000000) (hD : D < 10000000000000000000000000) (x y : FrV) (w : World) (hw0 : 0 < w.heap.size) (hx : FrIn .i64 10 x w) (hy : FrIn .i64 10 y w) (ex : x.num = ⟨false, A, B⟩) (ey : y.num = ⟨false, C, D⟩) : Calls Tryz.prog 131 #[x.val 10, y.val 10] w (FrOut .i64 10 ⟨false, P, Q⟩ w) := by
 have := radd_any x y w hw0 hx hy (by show ExP.nd 10 x.num.n ≤ _; rw [ex]; exact ExP.ndS hA) (by show ExP.nd 10 x.num.d ≤ _; rw [ex]; exact ExP.ndS hB) (by show ExP.nd 10 y.num.n ≤ _; rw [ey]; exact ExP.ndS hC) (by show ExP.nd 10 y.num.d ≤ _; rw [ey]; exact ExP.ndS hD)
 rw [ex, ey] at this
 have e : ExP.sumN ⟨false, A, B⟩ ⟨false, C, D⟩ = ⟨false, P, Q⟩ := by unfold ExP.sumN; rw [if_pos rfl]; dsimp only; rw [hP, hQ]
 rw [e] at this
 exact this
theorem retime_any (s : List UInt8) (w : World) (hw0 : 0 < w.heap.size) (hl : s.length ≤ 40000) : RReads 66 s (VaP.clkV s) w := by
 rw [VaP.clkV_eq]
 have hS := fun (w' : World) => rsplit_any 58 s w' (by omega)
 have hlen := split_len 58 s
 have G := fun (w' : World) (h : BW w w') => whole_any 86400 w' (Nat.lt_of_lt_of_le hw0 h.size) (by omega) (by omega)
 rw [show ExP.wholeN 86400 = ⟨false, 86400, 1⟩ from ExP.whole_nat 86400] at G
 have hAD := fun (g : List UInt8) (h : g.length ≤ 100000) (w' : World) => allDigits_any g w' (by omega)
 have hSM : ∀ g : List UInt8, VaP.adP g = true → g.length ≤ 9 → ∀ w' : World, QC 132 #[.string (bstr g)] w' (.int .i64 (ExP.valS g : Nat)) := fun g h1 h2 w' => small9_any g w' h2 (VaP.ad_parts h1).2
 by_cases h23 : (VaP.splitC 58 s).length < 2 ∨ 3 < (VaP.splitC 58 s).length
 ·have hv : VaP.clkR s = none := by
   unfold VaP.clkR
   split
   ·rename_i h; rw [h] at h23; simp at h23
   ·rename_i h; rw [h] at h23; simp at h23
   ·rfl
  rw [hv]
  exact ⟨⟨false, 0, 0⟩, (fun x h => by cases h), fun w' hb => rtime_len s _ w' (Nat.lt_of_lt_of_le hw0 hb.size) hS h23⟩
 ·have main : ∀ (a b : List UInt8) (xs : List (List UInt8)), VaP.splitC 58 s = a :: b :: xs → (xs = [] ∨ ∃ c, xs = [c]) → RReads 66 s (VaP.clkR s) w := by
   intro a b xs hsp hxs
   rw [hsp] at hS hlen
   have la := hlen a (by simp)
   have lb := hlen b (by simp)
   have hn : (a :: b :: xs).length = 2 ∨ (a :: b :: xs).length = 3 := by
    rcases hxs with rfl | ⟨c, rfl⟩
    ·exact .inl rfl
    ·exact .inr rfl
   have hx0 : (strV (a :: b :: xs))[0]? = some (.string (bstr a)) := rfl
   have hx1 : (strV (a :: b :: xs))[1]? = some (.string (bstr b)) := rfl
   have A0 := hAD a (by omega)
   have A1 := hAD b (by omega)
   have M0 := fun h (h2 : a.length ≤ 2) => hSM a h (by omega)
   have M1 := fun h (h2 : b.length = 2) => hSM b h (by omega)
   by_cases hm : VaP.hmP a b = true
   ·obtain ⟨d0, l0, d1, l1, b0, b1⟩ := (VaP.hm_ad a b).1 hm
    have e3 : (3600 * ((ExP.valS a : Nat) : Int) + 60 * ((ExP.valS b : Nat) : Int)) = ((VaP.hmN a b : Nat) : Int) := by unfold VaP.hmN; omega
    have hN : VaP.hmN a b ≤ 86340 := by unfold VaP.hmN; omega
    have W := fun (w' : World) (h : BW w w') => whole_any ((VaP.hmN a b : Nat) : Int) w' (Nat.lt_of_lt_of_le hw0 h.size) (by omega) (by omega)
    rw [ExP.whole_nat, ← e3] at W
    rcases hxs with rfl | ⟨c, rfl⟩
    ·have hv : VaP.clkR s = some ⟨false, VaP.hmN a b, 86400⟩ := by
      unfold VaP.clkR
      rw [hsp]
      exact if_pos hm
     rw [hv]
     refine ⟨⟨false, VaP.hmN a b, 86400⟩, (fun x h => by cases h; rfl), fun w' hb => ?_⟩
     exact rtime_two s _ w' (Nat.lt_of_lt_of_le hw0 hb.size) hS a b hn hx0 hx1 A0 A1 M0 M1 _ _ (VaP.hmN a b) d0 d1 l0 l1 rfl rfl b0 b1 (fun w2 h2 => W w2 (belT hb h2)) (fun w2 h2 => G w2 (belT hb h2)) rfl (fun x y w2 h2 hx hy ex ey => mul_num (by omega) (by omega) (by omega) (by omega) (by omega) (by omega) x y w2 (Nat.lt_of_lt_of_le hw0 (belT hb h2).size) hx hy ex ey)
    ·have lc := hlen c (by simp)
     have hx2 : (strV (a :: b :: [c]))[2]? = some (.string (bstr c)) := rfl
     have hS2 := fun (w' : World) => rsplit_any 46 c w' (by omega)
     have hlen2 := split_len 46 c
     have hne := VaP.split_ne 46 c
     have hv : VaP.clkR s = match VaP.splitC 46 c with
       | [x] => VaP.clkG a b x [] false
       | [x, p] => VaP.clkG a b x p true
       | _ => none := by
      unfold VaP.clkR
      rw [hsp]
      rfl
     have sec : ∀ (x q : List UInt8) (tl : List (List UInt8)), VaP.splitC 46 c = x :: tl → (2 ≤ (x :: tl).length → (strV (x :: tl))[1]? = some (.string (bstr q))) → q.length ≤ 100000 → ∀ V : Option ExP.Num, (V = if tl.length ≤ 1 ∧ VaP.secP x (if tl.length = 1 then q else []) (decide (tl.length = 1)) = true then some ⟨false, VaP.hmN a b * 10 ^ (if tl.length = 1 then q else []).length + ExP.valS (x ++ (if tl.length = 1 then q else [])), 10 ^ (if tl.length = 1 then q else []).length * 86400⟩ else none) → RReads 66 s V w := by
      intro x q tl hsp2 hy1 hql V hV
      rw [hsp2] at hS2 hlen2
      have lx := hlen2 x (by simp)
      have A2 := hAD x (by omega)
      have A3 := hAD q hql
      have M2 := fun h (h2 : x.length = 2) => hSM x h (by omega)
      have hy0 : (strV (x :: tl))[0]? = some (.string (bstr x)) := rfl
      have hll : (x :: tl).length = tl.length + 1 := rfl
      have hsecI : (tl.length ≤ 1 ∧ VaP.secP x (if tl.length = 1 then q else []) (decide (tl.length = 1)) = true) ↔ ((x :: tl).length ≤ 2 ∧ x.length = 2 ∧ VaP.adP x = true ∧ ExP.valS x ≤ 59 ∧ ((x :: tl).length = 2 → VaP.adP q = true ∧ q.length ≤ 9)) := by
       rw [VaP.sec_parts, hll]
       constructor
       ·rintro ⟨h1, ⟨h2, h3⟩, h4, h5⟩
        refine ⟨by omega, h3, VaP.ad_of (fun e => by rw [e] at h3; cases h3) h2, h4, fun h => ?_⟩
        have e1 : tl.length = 1 := by omega
        have := h5 (decide_eq_true e1)
        rw [if_pos e1] at this
        exact ⟨VaP.ad_of this.1 this.2.1, this.2.2⟩
       ·rintro ⟨h1, h2, h3, h4, h5⟩
        refine ⟨by omega, ⟨(VaP.ad_parts h3).2, h2⟩, h4, fun h => ?_⟩
        have e1 := of_decide_eq_true h
        obtain ⟨k1, k2⟩ := h5 (by omega)
        rw [if_pos e1]
        exact ⟨(VaP.ad_parts k1).1, (VaP.ad_parts k1).2, k2⟩
      by_cases hs : (x :: tl).length ≤ 2 ∧ x.length = 2 ∧ VaP.adP x = true ∧ ExP.valS x ≤ 59 ∧ ((x :: tl).length = 2 → VaP.adP q = true ∧ q.length ≤ 9)
      ·rw [if_pos (hsecI.2 hs)] at hV
       obtain ⟨s1, s2, s3, s4, s5⟩ := hs
       have Wx := fun (w' : World) (h : BW w w') => whole_any ((ExP.valS x : Nat) : Int) w' (Nat.lt_of_lt_of_le hw0 h.size) (by omega) (by omega)
       rw [ExP.whole_nat] at Wx
       by_cases e1 : tl.length = 1
       ·obtain ⟨d3, lq⟩ := s5 (by omega)
        obtain ⟨q0, qa⟩ := VaP.ad_parts d3
        have hql0 : 0 < q.length := List.length_pos_iff.2 q0
        simp only [if_pos e1] at hV
        have hvq : ExP.valS q < 1000000000 := by
         have h1 := ExP.val_lt q qa
         have h2 : (10 : Nat) ^ q.length ≤ 10 ^ 9 := Nat.pow_le_pow_right (by omega) lq
         omega
        have hT : 10 ^ q.length ≤ 1000000000 := by
         have h2 : (10 : Nat) ^ q.length ≤ 10 ^ 9 := Nat.pow_le_pow_right (by omega) lq
         omega
        have hT0 : 0 < 10 ^ q.length := Nat.pow_pos (by omega)
        have hNq := fun (w' : World) => natOf_any q w' (by omega) qa
        have hSC : ∀ (a : Option Addr) (c g : Nat) (w' : World), 0 < w'.heap.size → SlAt (some ⟨g, 0, none⟩) [.int .i64 1] w' → Calls Tryz.prog 129 #[.agg #[.bool false, .slice a (ExP.nd 10 (ExP.valS q)) c, .slice (some ⟨g, 0, none⟩) 1 1], .int .i64 (0 - (q.length : Int))] w' (NumOut .i64 10 (10 ^ q.length) (fun a' c' => .agg #[.bool false, .slice a (ExP.nd 10 (ExP.valS q)) c, .slice a' (ExP.nd 10 (10 ^ q.length)) c']) w') := fun a c g w' hw0' hsl => by
         have hn1 : ExP.nd 10 1 = 1 := ExP.nd_one (by omega)
         have hv1 : nv .i64 10 1 = [.int .i64 1] := nv_one (by omega)
         have SC := rscaled_neg false (ExP.valS q) 1 a c (some ⟨g, 0, none⟩) 1 q.length w' hw0' hql0 (by omega) (by rw [hn1]; omega) (by rw [hv1]; exact hsl)
         rw [show (0 : Int) - (q.length : Int) = -((q.length : Nat) : Int) by omega]
         simp only [hn1, Nat.one_mul] at SC
         exact SC
        have hva : ExP.valS (x ++ q) = ExP.valS x * 10 ^ q.length + ExP.valS q := ExP.val_append x q
        rw [hva] at hV
        rw [hV]
        have hmul : (VaP.hmN a b + ExP.valS x) * 10 ^ q.length ≤ 86399 * 1000000000 := Nat.mul_le_mul (by omega) hT
        have hmul2 : (VaP.hmN a b + ExP.valS x) * 10 ^ q.length + ExP.valS q = VaP.hmN a b * 10 ^ q.length + (ExP.valS x * 10 ^ q.length + ExP.valS q) := by rw [Nat.add_mul, Nat.add_assoc]
        refine ⟨⟨false, VaP.hmN a b * 10 ^ q.length + (ExP.valS x * 10 ^ q.length + ExP.valS q), 10 ^ q.length * 86400⟩, (fun x h => by cases h; rfl), fun w' hb => ?_⟩
        have := rtime_pt s _ w' (Nat.lt_of_lt_of_le hw0 hb.size) hS a b hn hx0 hx1 A0 A1 M0 M1 _ _ (VaP.hmN a b) d0 d1 l0 l1 rfl rfl b0 b1 (fun w2 h2 => W w2 (belT hb h2)) (fun w2 h2 => G w2 (belT hb h2)) c x _ rfl hx2 hS2 (by rw [hll]; omega) hy0 A2 M2 q (fun h => hy1 (by omega)) A3 (ExP.valS x) (VaP.hmN a b + ExP.valS x) s3 s2 rfl s4 (fun w2 h2 => Wx w2 (belT hb h2)) (fun x y w2 h2 hx hy ex ey => add_num (by omega) (by omega) (by omega) (by omega) (by omega) (by omega) x y w2 (Nat.lt_of_lt_of_le hw0 (belT hb h2).size) hx hy ex ey) (by rw [hll]; omega) d3 lq (ExP.valS q) ((VaP.hmN a b + ExP.valS x) * 10 ^ q.length + ExP.valS q) (10 ^ q.length) (10 ^ q.length * 86400) hNq hSC (fun x y w2 h2 hx hy ex ey => add_num (by rw [Nat.mul_one]) (by rw [Nat.one_mul]) (by omega) (by omega) (by omega) (by omega) x y w2 (Nat.lt_of_lt_of_le hw0 (belT hb h2).size) hx hy ex ey) (fun x y w2 h2 hx hy ex ey => mul_num (by rw [Nat.mul_one]) rfl (by omega) (by omega) (by omega) (by omega) x y w2 (Nat.lt_of_lt_of_le hw0 (belT hb h2).size) hx hy ex ey)
        rw [hmul2] at this
        exact this
       ·simp only [if_neg e1, List.length_nil, Nat.pow_zero, Nat.mul_one, Nat.one_mul, List.append_nil] at hV
        rw [hV]
        refine ⟨⟨false, VaP.hmN a b + ExP.valS x, 86400⟩, (fun x h => by cases h; rfl), fun w' hb => ?_⟩
        exact rtime_one s _ w' (Nat.lt_of_lt_of_le hw0 hb.size) hS a b hn hx0 hx1 A0 A1 M0 M1 _ _ (VaP.hmN a b) d0 d1 l0 l1 rfl rfl b0 b1 (fun w2 h2 => W w2 (belT hb h2)) (fun w2 h2 => G w2 (belT hb h2)) c x _ rfl hx2 hS2 (by rw [hll]; omega) hy0 A2 M2 q (fun h => hy1 (by omega)) A3 (ExP.valS x) (VaP.hmN a b + ExP.valS x) s3 s2 rfl s4 (fun w2 h2 => Wx w2 (belT hb h2)) (fun x y w2 h2 hx hy ex ey => add_num (by omega) (by omega) (by omega) (by omega) (by omega) (by omega) x y w2 (Nat.lt_of_lt_of_le hw0 (belT hb h2).size) hx hy ex ey) (by rw [hll]; omega) (fun x y w2 h2 hx hy ex ey => mul_num (by omega) (by omega) (by omega) (by omega) (by omega) (by omega) x y w2 (Nat.lt_of_lt_of_le hw0 (belT hb h2).size) hx hy ex ey)
      ·rw [if_neg (fun h => hs (hsecI.1 h))] at hV
       rw [hV]
       refine ⟨⟨false, 0, 0⟩, (fun x h => by cases h), fun w' hb => ?_⟩
       exact rtime_sec s _ w' (Nat.lt_of_lt_of_le hw0 hb.size) hS a b hn hx0 hx1 A0 A1 M0 M1 _ _ (VaP.hmN a b) d0 d1 l0 l1 rfl rfl b0 b1 (fun w2 h2 => W w2 (belT hb h2)) (fun w2 h2 => G w2 (belT hb h2)) c x _ rfl hx2 hS2 (by rw [hll]; omega) hy0 A2 M2 q (fun h => hy1 (by omega)) A3 hs
     rw [hv]
     match hsp2 : VaP.splitC 46 c, hne with
     | [x], _ => exact sec x [] [] hsp2 (fun h => by simp at h) (by simp) _ (by unfold VaP.clkG; simp [hm])
     | [x, p], _ => exact sec x p [p] hsp2 (fun _ => rfl) (by have := hlen2 p (by rw [hsp2]; simp); omega) _ (by unfold VaP.clkG; simp [hm])
     | x :: p :: r :: tl, _ => exact sec x p (p :: r :: tl) hsp2 (fun _ => rfl) (by have := hlen2 p (by rw [hsp2]; simp); omega) _ (by simp)
     | [], h => exact absurd rfl h
   ·have hv : VaP.clkR s = none := by
     unfold VaP.clkR
     rw [hsp]
     rcases hxs with rfl | ⟨c, rfl⟩
     ·exact if_neg hm
     ·dsimp only
      split
      ·exact if_neg (fun h => hm h.1)
      ·exact if_neg (fun h => hm h.1)
      ·rfl
    rw [hv]
    exact ⟨⟨false, 0, 0⟩, (fun x h => by cases h), fun w' hb => rtime_hm s _ w' (Nat.lt_of_lt_of_le hw0 hb.size) hS a b hn hx0 hx1 A0 A1 M0 M1 (fun h => hm ((VaP.hm_ad a b).2 h))⟩
  match hsp : VaP.splitC 58 s, h23 with
  | [a, b], _ => exact main a b [] hsp (.inl rfl)
  | [a, b, c], _ => exact main a b [c] hsp (.inr ⟨c, rfl⟩)
  | [], h => simp at h
  | [a], h => simp at h
  | a :: b :: c :: d :: e, h => simp at h
theorem VaP.tw_ne {c : UInt8} : ∀ {s : List UInt8} {x : UInt8}, x ∈ s.takeWhile (· != c) → x ≠ c := by
 intro s
 induction s with
 | nil => intro x h; cases h
 | cons a r ih =>
   intro x h
   rw [List.takeWhile_cons] at h
   split at h
   ·rename_i ha
    rcases List.mem_cons.1 h with rfl | h
    ·simpa using ha
    ·exact ih h
   ·cases h
theorem remom_any (s : List UInt8) (w : World) (hw0 : 0 < w.heap.size) (hl : s.length ≤ 40000) : RReads 67 s (VaP.momV s) w := by
 obtain ⟨cl1, cl2⟩ := VaP.cutB_len 32 s
 rw [VaP.momV_eq]
 by_cases h : (32 : UInt8) ∈ s
 ·obtain ⟨p1, p2⟩ := VaP.cut_parts h
  have hc : VaP.cutB 32 s = (s.takeWhile (· != 32), (s.dropWhile (· != 32)).tail, true) := by
   unfold VaP.cutB
   rw [if_pos h]
  have he := VaP.cut_app h
  obtain ⟨p, hp⟩ : ∃ p, (s.takeWhile (· != 32)).length = p := ⟨_, rfl⟩
  have hall : ∀ x ∈ s.takeWhile (· != 32), x ≠ 32 := fun x hx => VaP.tw_ne hx
  have hps : p < s.length := by
   have := congrArg List.length he
   rw [List.length_append, List.length_cons] at this
   omega
  have h2 : ((s.getD p 0).toNat : Int) = 32 := by
   have e : s.getD p 0 = 32 := by
    rw [he, List.getD_eq_getElem?_getD, List.getElem?_append_right (by omega), hp, Nat.sub_self]
    rfl
   rw [e]; rfl
  have h1 : ∀ i, i < p → ¬ ((s.getD i 0).toNat : Int) = 32 := fun i hi hq => by
   have hil : i < (s.takeWhile (· != 32)).length := by omega
   have e : s.getD i 0 = (s.takeWhile (· != 32))[i] := by
    conv => lhs; rw [he]
    rw [List.getD_eq_getElem?_getD, List.getElem?_append_left (by omega), List.getElem?_eq_getElem (by omega)]
    rfl
   rw [e] at hq
   have h32 : ((32 : UInt8).toNat : Int) = 32 := rfl
   exact hall _ (List.getElem_mem hil) (UInt8.toNat_inj.1 (by omega))
  rw [hp] at p1 p2
  rw [hc] at cl1 cl2 ⊢
  dsimp only at cl1 cl2 ⊢
  have D := redate_any (s.takeWhile (· != 32)) w hw0 (by omega)
  have T := retime_any ((s.dropWhile (· != 32)).tail) w hw0 (by omega)
  rw [← p1] at D ⊢
  rw [← p2] at T ⊢
  obtain ⟨N1, g1, D⟩ := D
  obtain ⟨N2, g2, T⟩ := T
  have b1 := @VaP.dateO_parts (List.take p s)
  have b2 := @VaP.clk_small (List.drop (p + 1) s)
  generalize VaP.dateO (List.take p s) = dO at *
  generalize VaP.clkV (List.drop (p + 1) s) = cO at *
  have key : ∀ d z, dO = some d → cO = some z → ∀ (x y : FrV) (w' : World), BW w w' → FrIn .i64 10 x w' → FrIn .i64 10 y w' → x.num = d → y.num = z → Calls Tryz.prog 131 #[x.val 10, y.val 10] w' (FrOut .i64 10 (ExP.sumN d z) w') := by
   intro d z hd hz x y w' hb hx hy ex ey
   obtain ⟨d1, d2, d3⟩ := b1 hd
   obtain ⟨z1, z2, z3, z4⟩ := b2 hz
   have en : x.n = d.n := congrArg ExP.Num.n ex
   have ed : x.d = d.d := congrArg ExP.Num.d ex
   have fn : y.n = z.n := congrArg ExP.Num.n ey
   have fd : y.d = z.d := congrArg ExP.Num.d ey
   have := radd_any x y w' (Nat.lt_of_lt_of_le hw0 hb.size) hx hy (by rw [en]; exact ExP.ndS (by omega)) (by rw [ed]; exact ExP.ndS (by omega)) (by rw [fn]; exact ExP.ndS (by omega)) (by rw [fd]; exact ExP.ndS (by omega))
   rw [ex, ey] at this
   exact this
  cases dO with
  | none =>
    show RReads _ _ none w
    refine ⟨⟨false, 0, 0⟩, (fun x h => by cases h), fun w' hb => ?_⟩
    exact rmom_some s p w' (Nat.lt_of_lt_of_le hw0 hb.size) (by omega) (by omega) h1 hps h2 N1 N2 false cO.isSome (fun w2 h2 => D w2 (belT hb h2)) (fun w2 h2 => T w2 (belT hb h2)) ⟨false, 0, 0⟩ (fun h => by cases h) (fun _ => rfl)
  | some d =>
    obtain rfl := g1 d rfl
    cases cO with
    | none =>
      show RReads _ _ none w
      refine ⟨⟨false, 0, 0⟩, (fun x h => by cases h), fun w' hb => ?_⟩
      exact rmom_some s p w' (Nat.lt_of_lt_of_le hw0 hb.size) (by omega) (by omega) h1 hps h2 _ N2 true false (fun w2 h2 => D w2 (belT hb h2)) (fun w2 h2 => T w2 (belT hb h2)) ⟨false, 0, 0⟩ (fun _ h => by cases h) (fun _ => rfl)
    | some z =>
      obtain rfl := g2 z rfl
      show RReads _ _ (if true = true then some (ExP.sumN N1 N2) else none) w
      rw [if_pos rfl]
      refine ⟨ExP.sumN N1 N2, (fun x h => by cases h; rfl), fun w' hb => ?_⟩
      exact rmom_some s p w' (Nat.lt_of_lt_of_le hw0 hb.size) (by omega) (by omega) h1 hps h2 N1 N2 true true (fun w2 h2 => D w2 (belT hb h2)) (fun w2 h2 => T w2 (belT hb h2)) _ (fun _ _ x y w2 h2 hx hy ex ey => key N1 N2 rfl rfl x y w2 (belT hb h2) hx hy ex ey) (fun h => absurd ⟨rfl, rfl⟩ h)
 ·have hc : VaP.cutB 32 s = (s, [], false) := by
   unfold VaP.cutB
   rw [if_neg h]
  rw [hc]
  have h1 : ∀ i, i < s.length → ¬ ((s.getD i 0).toNat : Int) = 32 := fun i hi hq => by
   have e : s.getD i 0 = s[i] := by rw [List.getD_eq_getElem?_getD, List.getElem?_eq_getElem hi]; rfl
   rw [e] at hq
   have h32 : ((32 : UInt8).toNat : Int) = 32 := rfl
   have : s[i] = 32 := UInt8.toNat_inj.1 (by omega)
   exact h (this ▸ List.getElem_mem hi)
  dsimp only
  have hn : ∀ (V : Option ExP.Num), V = none → RReads 67 s V w := fun V hV => by
   subst hV
   exact ⟨⟨false, 0, 0⟩, (fun x h => by cases h), fun w' hb => rmom_none s s.length w' (Nat.lt_of_lt_of_le hw0 hb.size) (by omega) (Nat.le_refl _) h1 rfl⟩
  refine hn _ ?_
  split
  ·rfl
  ·rfl
def ExP.Small (x : ExP.Num) : Prop := 0 < x.d ∧ ExP.nd 10 x.n ≤ 1000000 ∧ ExP.nd 10 x.d ≤ 1000000
namespace VaP
open ExP
theorem num_low {s : Str} {x : Num} (h : numV s = some x) : Small x := by
 unfold numV at h
 split at h
 ·cases h
 ·unfold numG at h
  split at h
  ·cases h
  ·rename_i hp
   obtain ⟨d1, d2, d3⟩ := dec_small (Decidable.of_not_not (fun h => hp (.inl h)))
   split at h
   ·split at h
    ·cases h
     exact ⟨scale_pos (decN_pos _), Nat.le_trans d1 (by omega), scale_small d2⟩
    ·cases h
   ·cases h; exact ⟨d3, Nat.le_trans d1 (by omega), Nat.le_trans d2 (by omega)⟩
theorem mix_low {s : Str} {x : Num} (h : mixV s = some x) : Small x := by
 unfold mixV mixG at h
 split at h
 ·split at h
  ·rename_i hh
   obtain ⟨h1, h2, h3, h4⟩ := hh
   cases h
   have a := (whF_yes h1).2.2
   have b := (whF_yes h2).2.2
   have c := (whF_yes h3).2.2
   refine ⟨Nat.pos_of_ne_zero h4, ?_, Nat.le_trans (nd_le (by omega) c) (by omega)⟩
   dsimp only
   refine Nat.le_trans (nd_le (n := 201) (by omega) ?_) (by omega)
   have e : (10 : Nat) ^ 201 = 10 ^ 100 * 10 ^ 100 * 10 := by rw [← Nat.pow_add, ← Nat.pow_succ]
   have m1 := Nat.mul_le_mul (Nat.le_of_lt a) (Nat.le_of_lt c)
   have m3 : (10 : Nat) ^ 100 ≤ 10 ^ 100 * 10 ^ 100 := Nat.le_mul_of_pos_right _ (Nat.pow_pos (by omega))
   have m4 : 0 < (10 : Nat) ^ 100 := Nat.pow_pos (by omega)
   omega
  ·cases h
 ·cases h
theorem date_low {s : Str} {x : Num} (h : dateO s = some x) : Small x := by
 obtain ⟨h1, h2, h3⟩ := dateO_parts h
 exact ⟨by omega, ndS (by omega), ndS (by omega)⟩
theorem clk_low {s : Str} {x : Num} (h : clkV s = some x) : Small x := by
 obtain ⟨h1, h2, h3, h4⟩ := clk_small h
 exact ⟨h2, ndS (by omega), ndS (by omega)⟩
theorem mom_low {s : Str} {x : Num} (h : momV s = some x) : Small x := by
 rw [momV_eq] at h
 split at h
 ·rename_i d z hd hz
  split at h
  ·cases h
   obtain ⟨dm, dn, dd⟩ := d
   obtain ⟨zm, zn, zd⟩ := z
   obtain ⟨d1, d2, d3⟩ := dateO_parts hd
   obtain ⟨z1, z2, z3, z4⟩ := clk_small hz
   dsimp only at *
   subst d1 d2 z1
   have hmul : dn * zd ≤ 2958464 * 1000000000000000 := Nat.mul_le_mul d3 (by omega)
   have hs : sumN ⟨false, dn, 1⟩ ⟨false, zn, zd⟩ = ⟨false, dn * zd + zn * 1, 1 * zd⟩ := if_pos rfl
   rw [hs]
   exact ⟨by show 0 < 1 * zd; omega, ndS (by show dn * zd + zn * 1 < _; omega), ndS (by show 1 * zd < _; omega)⟩
  ·cases h
 ·cases h
end VaP
theorem rnumber_of {z : ExP.Num} (hg : ExP.Fineq z) (hs : ExP.Small z) (x : FrV) (w : World) (hw0 : 0 < w.heap.size) (hx : FrIn .i64 10 x w) (e : x.num = z) : Calls Tryz.prog 68 #[x.val 10] w (IsV (VaP.numF (ExP.writeF z)) w) := by
 have en : x.n = z.n := congrArg ExP.Num.n e
 have ed : x.d = z.d := congrArg ExP.Num.d e
 have := rnumber_any x w hw0 hx (by rw [ed]; exact hs.1) (by rw [en]; exact hs.2.1) (by rw [ed]; exact hs.2.2)
 rw [e] at this
 unfold VaP.rnumV at this
 rwa [if_pos hg.2] at this
theorem renter_any (s : List UInt8) (w : World) (hw0 : 0 < w.heap.size) (hXR : XR w) (hl : s.length ≤ 9223372036854775807) : Calls Tryz.prog 12 #[.string (bstr s)] w (IsV (VaP.enterV s) w) := by
 by_cases h0 : s = []
 ·subst h0; exact renter_empty w
 by_cases hT : VaP.txtE s = 0
 ·have hlen : s.length ≤ 32767 := by
   unfold VaP.txtE at hT
   split at hT
   ·omega
   ·omega
  by_cases hq : s.head? = some 39
  ·obtain ⟨r, rfl⟩ : ∃ r, s = 39 :: r := by
    cases s with
    | nil => cases hq
    | cons c r => exact ⟨r, by have : c = 39 := by simpa using hq
                               rw [this]⟩
   have hv : VaP.enterV (39 :: r) = VaP.textV r := by
    unfold VaP.enterV
    rw [if_neg h0, if_neg (fun h => h hT), if_pos hq]
    rfl
   rw [hv]
   exact renter_quote (39 :: r) w h0 hl hT rfl
  ·have hq' : ¬ ((s.getD 0 0).toNat : Int) = 39 := by
    cases s with
    | nil => exact absurd rfl h0
    | cons c r =>
      intro h
      have h : (c.toNat : Int) = 39 := h
      have h39 : ((39 : UInt8).toNat : Int) = 39 := rfl
      have : c = 39 := UInt8.toNat_inj.1 (by omega)
      exact hq (by rw [this]; rfl)
   by_cases hb : VaP.low s = [116, 114, 117, 101] ∨ VaP.low s = [102, 97, 108, 115, 101]
   ·have hv : VaP.enterV s = VaP.boolV (decide (VaP.low s = [116, 114, 117, 101])) := by
     unfold VaP.enterV
     rw [if_neg h0, if_neg (fun h => h hT), if_neg hq, if_pos hb]
    rw [hv]
    exact renter_bool s w h0 hl hT hq' (by omega) hb
   ·have hv := VaP.enterV_main h0 hT hq (fun h => hb (.inl h)) (fun h => hb (.inr h))
    have hi : (VaP.enterV s).items = [] := by
     rw [hv]
     split
     ·rfl
     ·split <;> rfl
    have hF : ∀ i : Nat, 1 ≤ i → i < 9 → s = VaP.ftext i → VaP.enterV s = VaP.faultV (i : Nat) := fun i h1 h9 e => by
     rw [hv, e, VaP.fcode_at h1 h9, if_pos (by omega)]
    rw [VaP.readV_eq] at hv
    obtain ⟨FA, gA, HA⟩ := renum_any s w hw0 h0 (by omega)
    obtain ⟨FB, gB, HB⟩ := remix_any s w hw0 (by omega)
    obtain ⟨FC, gC, HC⟩ := redate_any s w hw0 (by omega)
    obtain ⟨FD, gD, HD⟩ := retime_any s w hw0 (by omega)
    obtain ⟨FE, gE, HE⟩ := remom_any s w hw0 (by omega)
    have kA := @VaP.num_good s
    have kB := @VaP.mix_good s
    have kC := @VaP.date_good s
    have kD := @VaP.clk_good s
    have kE := @VaP.mom_good s
    have lA := @VaP.num_low s
    have lB := @VaP.mix_low s
    have lC := @VaP.date_low s
    have lD := @VaP.clk_low s
    have lE := @VaP.mom_low s
    have hTX : VaP.textV s = VaP.rawT s := by unfold VaP.textV; rw [if_pos hT]
    have hcode : (∀ i, 1 ≤ i → i < 9 → s ≠ VaP.ftext i) → VaP.enterV s = match (match VaP.numV s with
      | some x => some x
      | none => match VaP.mixV s with
        | some x => some x
        | none => match VaP.dateO s with
          | some x => some x
          | none => match VaP.clkV s with
            | some x => some x
            | none => VaP.momV s) with
      | some x => VaP.numF (ExP.writeF x)
      | none => VaP.rawT s := fun h => by
     have hz : ¬ VaP.fcode s ≠ 0 := fun h2 => h2 (VaP.fcode_no h)
     rw [if_neg hz] at hv
     exact hv
    clear hv
    generalize VaP.numV s = vA at *
    generalize VaP.mixV s = vB at *
    generalize VaP.dateO s = vC at *
    generalize VaP.clkV s = vD at *
    generalize VaP.momV s = vE at *
    have no : ∀ {V : Option ExP.Num}, V.isSome = false → V = none := fun {V} h => Option.not_isSome_iff_eq_none.1 (by rw [h]; exact Bool.false_ne_true)
    refine renter_main s w h0 hl hT hq' (by omega) hw0 hXR (fun h => hb (.inl h)) (fun h => hb (.inr h)) (VaP.enterV s) hi (fun i h1 h9 e w' => ?_) FA FB FC FD FE vA.isSome vB.isSome vC.isSome vD.isSome vE.isSome HA HB HC HD HE ?_ ?_ ?_ ?_ ?_ ?_
    ·rw [hF i h1 h9 e]; exact rfault_any _ w'
    ·intro hn h x w' hb' hx ex
     obtain ⟨z, rfl⟩ := Option.isSome_iff_exists.1 h
     obtain rfl := gA z rfl
     rw [hcode hn]
     exact rnumber_of (kA rfl) (lA rfl) x w' (Nat.lt_of_lt_of_le hw0 hb'.size) hx ex
    ·intro hn zA h x w' hb' hx ex
     obtain ⟨z, rfl⟩ := Option.isSome_iff_exists.1 h
     obtain rfl := no zA
     obtain rfl := gB z rfl
     rw [hcode hn]
     exact rnumber_of (kB rfl) (lB rfl) x w' (Nat.lt_of_lt_of_le hw0 hb'.size) hx ex
    ·intro hn zA zB h x w' hb' hx ex
     obtain ⟨z, rfl⟩ := Option.isSome_iff_exists.1 h
     obtain rfl := no zA
     obtain rfl := no zB
     obtain rfl := gC z rfl
     rw [hcode hn]
     exact rnumber_of (kC rfl) (lC rfl) x w' (Nat.lt_of_lt_of_le hw0 hb'.size) hx ex
    ·intro hn zA zB zC h x w' hb' hx ex
     obtain ⟨z, rfl⟩ := Option.isSome_iff_exists.1 h
     obtain rfl := no zA
     obtain rfl := no zB
     obtain rfl := no zC
     obtain rfl := gD z rfl
     rw [hcode hn]
     exact rnumber_of (kD rfl) (lD rfl) x w' (Nat.lt_of_lt_of_le hw0 hb'.size) hx ex
    ·intro hn zA zB zC zD h x w' hb' hx ex
     obtain ⟨z, rfl⟩ := Option.isSome_iff_exists.1 h
     obtain rfl := no zA
     obtain rfl := no zB
     obtain rfl := no zC
     obtain rfl := no zD
     obtain rfl := gE z rfl
     rw [hcode hn]
     exact rnumber_of (kE rfl) (lE rfl) x w' (Nat.lt_of_lt_of_le hw0 hb'.size) hx ex
    ·intro hn zA zB zC zD zE w'
     obtain rfl := no zA
     obtain rfl := no zB
     obtain rfl := no zC
     obtain rfl := no zD
     obtain rfl := no zE
     rw [hcode hn]
     have := rtextv_any s w' hl
     rw [hTX] at this
     exact this
 ·have hv : VaP.enterV s = VaP.faultV 2 := by
   unfold VaP.enterV
   rw [if_neg h0, if_pos hT]
  rw [hv]
  exact renter_bad s w h0 hl hT
theorem VaP.fit_enter {s : List UInt8} (h : s.length ≤ 9223372036854775807) : (VaP.enterV s).Fit ∧ (VaP.enterV s).items = [] := by
 have hn : ∀ x : ExP.Num, (VaP.numF (ExP.writeF x)).Fit := fun x => by
  have := ExP.writeF_len x
  exact VaP.fit_num (by omega) (by omega)
 have hr : (VaP.rawT s).Fit := ⟨by simp [VaP.rawT], by simp [VaP.rawT], h, by simp [VaP.rawT]⟩
 unfold VaP.enterV
 split
 ·exact ⟨⟨by simp [VaP.emptyV], by simp [VaP.emptyV], by simp [VaP.emptyV], by simp [VaP.emptyV]⟩, rfl⟩
 split
 ·exact ⟨VaP.fit_fault _, rfl⟩
 split
 ·exact ⟨VaP.fit_text (by rw [List.length_tail]; omega), VaP.items_text _⟩
 split
 ·exact ⟨VaP.fit_bool _, rfl⟩
 split
 ·exact ⟨VaP.fit_fault _, rfl⟩
 split
 ·exact ⟨hn _, rfl⟩
 ·exact ⟨hr, rfl⟩
theorem enterLaw_any (s : List UInt8) (w : World) (hw : XV w ∧ XR w) (hs : s.length ≤ 9223372036854775807) : QC 3 #[.string (bstr s)] w (.bool true) := by
 have hw0 := hw.1.pos
 have V := fun (w' : World) (h : BW w w') => values_any w' (hw.1.below h)
 have P := fun (w' : World) (h : BW w w') => venter_any s w' (hw.1.below h) hs
 have R := fun (w' : World) (h : BW w w') => renter_any s w' (hw.1.below h).pos (hw.2.below h) hs
 obtain ⟨hf, hi⟩ := VaP.fit_enter hs
 have S := fun (w' : World) => rsame_self (VaP.enterV s) w' hf hi
 generalize VaP.enterV s = v at *
 obtain ⟨k, ⟨n1, n2⟩, tx, on, cd, R0, L0, its⟩ := v
 obtain rfl : its = [] := hi
 refine yE Tryz.func3 rfl Tryz.results3 Tryz.ntmps3 [] [] [.str s] w ?_
 repeat' (first | refine yX ?_ | (apply And.intro <;> intro _) | apply bothI | refine retB fun β => ?_ | intro βe | refine yK (.lit true) (fun β w hm => V w hm.below) ?_ | refine yK (.agg [.int .i64 k, .str n1, .str n2, .str tx, .bool on, .int .i64 cd, .int .i64 R0, .int .i64 L0, .any (.slice none 0 0)]) (fun β w hm => P w hm.below) ?_ | refine yK (.agg [.int .i64 k, .str n1, .str n2, .str tx, .bool on, .int .i64 cd, .int .i64 R0, .int .i64 L0, .any (.slice none 0 0)]) (fun β w hm => R w hm.below) ?_ | refine yK (.lit true) (fun β w hm => S w) ?_ | exact trivial)
 all_goals first | rfl | (simp [SV.den]; done) | trace_state
end Go.Proofs.YtdkhkfdenlabaaaGreatDoor
namespace Go.Proofs.YtdkhkfdenlabaaaGreatDoor
open Go.ChangeShapes Go.WideShapes Go.ChangeAt Go.RowKit
theorem below_trodAll {H : Type} {enc : TypeId × Value → H} {P : Program} (hl : laidOutB P = true) {W W' : World} (hb : BW W W') :
  ∀ {ts : List TypeId} {vs : List Value} {ds : List (DataW H)} {ps : List MemPlace}, (ts.all fun t => P.readableRec t && decide (t < P.types.size)) = true →
    DataW.TrodAll enc P W 0 (fun _ => true) true ts vs ds ps → DataW.TrodAll enc P W' 0 (fun b => decide (b < W.heap.size)) true ts vs ds ps
 | [], [], [], _, _, h => h
 | [], _ :: _, _, _, _, h => h.elim
 | [], [], _ :: _, _, _, h => h.elim
 | _ :: _, [], _, _, _, h => h.elim
 | _ :: _, _ :: _, [], _, _, h => h.elim
 | t :: ts, v :: vs, d :: ds, ps, hr, h => by
   have hlt := h.lt
   obtain ⟨p, q, h1, h2, e⟩ := h
   simp only [List.all_cons, Bool.and_eq_true, decide_eq_true_eq] at hr
   exact ⟨p, q, Below.trod hl hr.1.1 hr.1.2 h1 hb (fun x hx => hlt x (by rw [e]; exact List.mem_append_left _ hx)), below_trodAll hl hb (by simpa using hr.2) h2, e⟩
end Go.Proofs.YtdkhkfdenlabaaaGreatDoor
namespace Go.Proofs.YtdkhkfdenlabaaaGreatDoor
open Go.ChangeShapes Go.WideShapes Go.ChangeAt Go.RowKit Go.Deep
section
variable {H : Type} {enc : TypeId × Value → H} {P : Program} {w : World} {base : Nat} {spare : Nat → Bool} {held : Bool}
end
section
variable {H : Type} {enc : TypeId × Value → H} {w : World} {base : Nat} {spare : Nat → Bool} {held : Bool}
end
end Go.Proofs.YtdkhkfdenlabaaaGreatDoor
