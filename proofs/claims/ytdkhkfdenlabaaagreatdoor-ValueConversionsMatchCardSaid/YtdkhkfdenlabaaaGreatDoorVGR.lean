/- Ye: the sG Fixed. -/
import Derived.Test.YtdkhkfdenlabaaaGreatDoorVGG
import Derived.Test.YtdkhkfdenlabaaaGreatDoorVGQ
import Derived.Test.YtdkhkfdenlabaaaGreatDoorVGN
import Derived.Test.YtdkhkfdenlabaaaGreatDoorVGD
import Derived.Test.YtdkhkfdenlabaaaGreatDoorVGM
set_option linter.unusedSimpArgs false
set_option linter.unusedVariables false
set_option maxRecDepth 100000
set_option maxHeartbeats 64000000
namespace Go.Proofs.YtdkhkfdenlabaaaGreatDoor
open Go.Proofs.Tryz
section
open Go.RowKit
open Sym
attribute [local irreducible] Calls Sym.bM ae.nd ae.bu ae.upd
theorem Cj (x : bI) (k : Nat) (w : World) (hw0 : 0 < w.heap.size) (hx : aX .i64 10 x w) (hd : 0 < x.d) (ng : ae.nd 10 x.n <= 10000) (hxd : ae.nd 10 x.d <= 10000) (hk : k <= 10000) :
  QC 101 #[x.val 10, .int .i64 (k : Int)] w (.string (ah (ae.jo (ae.dA (ae.aG x.num k)) k))) := by
 obtain ⟨m, n, d, a, c, b, e⟩ := x
 have eN : bI.num ⟨m, n, d, a, c, b, e⟩ = ⟨m, n, d⟩ := rfl
 rw [eN]
 have hpk : ((k : Nat) : Int).natAbs <= 10000 := by omega
 obtain ⟨b1, b2, b3, b4⟩ := ae.lh (b := 10) (x := ⟨m, n, d⟩) (by omega) ng hxd hpk hd
 have b5 := ae.tZ (b := 10) (by omega) b1 b2
 have e5 := ae.iL b5 (by omega)
 have S1 := fun (w' : World) (h : BW w w') => qH ⟨m, n, d, a, c, b, e⟩ (k : Int) w' (zl hw0 h.size) (by omega) (hx.below h) (by dsimp only at *; omega) (by dsimp only at *; omega)
 have eta : ∀ X : ae.Num, (⟨X.m, X.n, X.d⟩ : ae.Num) = X := fun _ => rfl
 dsimp only [bI.num, bI.val] at S1
 have S2 := fun a1 c1 a2 c2 (w' : World) (h : BW w w') hx => Eu ⟨(ae.aG ⟨m, n, d⟩ k).m, (ae.aG ⟨m, n, d⟩ k).n, (ae.aG ⟨m, n, d⟩ k).d, a1, c1, a2, c2⟩ w' (zl hw0 h.size) hx b3 (by dsimp only; omega) (by dsimp only; omega)
 dsimp only [bI.num, bI.val] at S2
 simp only [eta] at S2
 generalize ae.dA (ae.aG ⟨m, n, d⟩ k) = X2 at *
 generalize ae.aG ⟨m, n, d⟩ k = X1 at *
 obtain ⟨m1, n1, d1⟩ := X1
 obtain ⟨m2, n2, d2⟩ := X2
 obtain ⟨hx1, hx2, hx3⟩ := hx
 dsimp only at *
 have HT := fun a5 c5 (w' : World) h => pR a5 c5 n2 w' (by omega) h
 have hF : ae.jo ⟨m2, n2, d2⟩ k = if m2 = true /\ n2 ≠ 0 then 45 :: ae.Be (ae.ny (Lib.decDigits n2) k) k else ae.Be (ae.ny (Lib.decDigits n2) k) k := rfl
 rw [hF]
 clear hF
 generalize Lib.decDigits n2 = L at *
 obtain ⟨j, hj⟩ : ∃ j, j = k + 1 - L.length := ⟨_, rfl⟩
 have hPd : ∀ z, (List.replicate z (48 : UInt8) ++ L).length = z + L.length := fun z => by simp
 have hP2 : ae.ny L k = List.replicate j 48 ++ L := by rw [hj]; rfl
 have hdt : ae.Be (ae.ny L k) k = if 0 < k then (ae.ny L k).take ((ae.ny L k).length - k) ++ [46] ++ (ae.ny L k).drop ((ae.ny L k).length - k) else ae.ny L k := rfl
 rw [hdt, hP2, hPd]
 clear hdt hP2
 obtain ⟨i, hi⟩ : ∃ i, i = j + L.length - k := ⟨_, rfl⟩
 rw [<- hi]
 refine yE func101 rfl results101 ntmps101 [] [] [.agg [.bool m, .any (.slice a (ae.nd 10 n) c), .any (.slice b (ae.nd 10 d) e)], .int .i64 (k : Int)] w ?_
 repeat' (first | exact ⟨⟩ | refine yG ?_ ?_ | (refine Ac (Lz n a (Lz d b [])) .i64 10 ⟨m1, n1, d1⟩ hw0 (by kernel_rfl) rfl (jE (Nat.le_of_ble_eq_true rfl) hx1 rfl (jE (Nat.le_of_ble_eq_true rfl) hx2 rfl iD)) (fun β w' hm => S1 w' hm.below) (fun a3 c3 a4 c4 hc2 => ?_)) | (refine dF .i64 10 ⟨m2, n2, d2⟩ hw0 (by kernel_rfl) rfl (fun β w' hm => S2 a3 c3 a4 c4 w' hm.below (aX.of (df hm) (df hm) hc2)) (fun a5 c5 a6 c6 hc3 => ?_)) | refine yK (.str L) (fun β w hm => HT a5 c5 w (df hm)) ?_ | intro _)
 refine loop bF rfl (T := {z : Nat // z <= j}) (fun t => ⟨[(1, .int .i64 (k : Int)), (5, .ptr 5 0), (6, .str (List.replicate t.1 48 ++ L))], [(5, true, .cells 72 [.bool m2, .any (.slice a5 (ae.nd 10 n2) c5), .any (.slice a6 (ae.nd 10 d2) c6)])], 6, 42⟩) (fun t => j - t.1) ⟨0, Nat.zero_le _⟩ 1000 [] [] (fun _ => by exact Nat.zero_le _) (by dsimp only; ((with_reducible show wk _ _); repeat' (first | exact trivial | exact au _ | refine eY ?_ | refine eqS ?_ | apply And.intro | exact yV | fail))) (fun t I hI => ?_)
 obtain ⟨z, hz⟩ := t
 dsimp only
 have hzl := hPd z
 by_cases hlt : z < j
 ·obtain ⟨S, hS⟩ : ∃ S, S = List.replicate z (48 : UInt8) ++ L := ⟨_, rfl⟩
  have hS1 : List.replicate (z + 1) (48 : UInt8) ++ L = [48] ++ S := by rw [hS]; rfl
  rw [<- hS] at hzl ⊢
  clear hS
  repeat' (first | exact ⟨⟩ | refine yG ?_ ?_ | intro _)
  all_goals first | (exfalso; omega) | exact hI _ ⟨z + 1, by omega⟩ (by dsimp only; omega) (by dsimp only; rw [hS1]; ((with_reducible show wk _ _); repeat' (first | exact trivial | exact au _ | refine eY ?_ | refine eqS ?_ | apply And.intro | exact yV | fail)))
 ·obtain rfl : z = j := by omega
  clear hI
  have hZ : (List.replicate z (48 : UInt8)).length = z := by simp
  have RS := fun w => PI m2 a5 a6 n2 c5 (ae.nd 10 d2) c6 w
  have hsv : (if n2 = 0 then (0 : Int) else if m2 = true then -1 else 1) < 0 ↔ (m2 = true /\ n2 ≠ 0) := by
   by_cases h1 : n2 = 0 <;> cases m2 <;> simp [h1]
  generalize (if n2 = 0 then (0 : Int) else if m2 = true then -1 else 1) = sv at *
  generalize List.replicate z (48 : UInt8) = Z at *
  repeat' (first | exact ⟨⟩ | refine yG ?_ ?_ | refine yA (.int .i64 sv) (fun _ => RS) ?_ | ((with_reducible show ∃ _, _); first | (refine ⟨i, by omega, by omega, ?_⟩)) | intro _)
  all_goals first | (exfalso; omega) | skip
  all_goals (by_cases e1 : 0 < k)
  all_goals first | (exfalso; omega) | skip
  all_goals simp only [e1, if_true, if_false]
  all_goals first | (rw [if_pos (hsv.1 (by assumption))]; rfl) | (rw [if_neg (fun h => absurd (hsv.2 h) (by assumption))]; rfl) | fail
end
section
namespace ae
theorem Nq (x : Nat) : Nat.gcd x 10 = (if x % 2 = 0 then 2 else 1) * (if x % 5 = 0 then 5 else 1) := by
 have h1 : Nat.gcd x 10 = Nat.gcd (x % 10) 10 := by rw [Nat.gcd_comm x 10, Nat.gcd_rec 10 x, Nat.gcd_comm]
 have h2 : x % 2 = x % 10 % 2 := by omega
 have h3 : x % 5 = x % 10 % 5 := by omega
 rw [h1, h2, h3]
 have h4 : x % 10 < 10 := Nat.mod_lt _ (by omega)
 clear h1 h2 h3
 generalize x % 10 = y at *
 revert y
 decide
theorem XL {y : Nat} (b : Nat) (h : y % 2 ≠ 0) : (5 ^ b * y) % 2 ≠ 0 := by
 induction b with
 | zero => simpa using h
 | succ b ih => rw [Nat.pow_succ, Nat.mul_comm (5 ^ b) 5, Nat.mul_assoc]; omega
theorem UT {y : Nat} (a : Nat) (h : y % 5 ≠ 0) : (2 ^ a * y) % 5 ≠ 0 := by
 induction a with
 | zero => simpa using h
 | succ a ih => rw [Nat.pow_succ, Nat.mul_comm (2 ^ a) 2, Nat.mul_assoc]; omega
def X5 (r M d p : Nat) : Prop := ∃ a b, d = 2 ^ a * (5 ^ b * r) /\ p + max a b = M
structure Ul (r : Nat) : Prop where
 two : r % 2 ≠ 0
 five : r % 5 ≠ 0
theorem Lu {r a b : Nat} (h : Ul r) : (2 ^ a * (5 ^ b * r)) % 2 = 0 ↔ 0 < a := by
 cases a with
 | zero => have := XL b h.two; simp; omega
 | succ a => rw [Nat.pow_succ, Nat.mul_comm (2 ^ a) 2, Nat.mul_assoc]; omega
theorem F9 {r a b : Nat} (h : Ul r) : (2 ^ a * (5 ^ b * r)) % 5 = 0 ↔ 0 < b := by
 cases b with
 | zero => rw [Nat.pow_zero, Nat.one_mul]; have := UT a h.five; omega
 | succ b => rw [Nat.pow_succ, Nat.mul_comm (5 ^ b) 5, Nat.mul_assoc, Nat.mul_left_comm]; omega
theorem SE {r M d p : Nat} (h : Ul r) (hd : X5 r M d p) (h1 : Nat.gcd d 10 = 1) : d = r /\ p = M := by
 obtain ⟨a, b, rfl, h2⟩ := hd
 rw [Nq] at h1
 have ha : ¬ 0 < a := fun ha => by
  rw [if_pos (Lu h |>.2 ha)] at h1
  split at h1 <;> omega
 have hb : ¬ 0 < b := fun hb => by
  rw [if_pos (F9 h |>.2 hb)] at h1
  split at h1 <;> omega
 obtain rfl : a = 0 := by omega
 obtain rfl : b = 0 := by omega
 simp at h2 ⊢
 exact h2
theorem VI {r M d p : Nat} (h : Ul r) (hd : X5 r M d p) (h1 : Nat.gcd d 10 ≠ 1) : X5 r M (d / Nat.gcd d 10) (p + 1) := by
 obtain ⟨a, b, rfl, h2⟩ := hd
 rw [Nq] at *
 have e1 := Lu (a := a) (b := b) h
 have e2 := F9 (a := a) (b := b) h
 cases a with
 | zero =>
   rw [if_neg (by rw [e1]; omega)] at *
   cases b with
   | zero => rw [if_neg (by rw [e2]; omega)] at h1; exact absurd rfl h1
   | succ b =>
     rw [if_pos (by rw [e2]; omega)]
     refine ⟨0, b, ?_, by omega⟩
     have : 2 ^ 0 * (5 ^ (b + 1) * r) = 1 * 5 * (2 ^ 0 * (5 ^ b * r)) := by rw [Nat.pow_succ, Nat.pow_zero, Nat.one_mul, Nat.one_mul, Nat.one_mul]; ac_rfl
     rw [this, Nat.mul_div_cancel_left _ (by omega)]
 | succ a =>
   rw [if_pos (by rw [e1]; omega)] at *
   cases b with
   | zero =>
     rw [if_neg (by rw [e2]; omega)]
     exact ⟨a, 0, by rw [Nat.mul_one, Nat.pow_succ, Nat.mul_comm (2 ^ a) 2, Nat.mul_assoc 2, Nat.mul_div_cancel_left _ (by omega)], by omega⟩
   | succ b =>
     rw [if_pos (by rw [e2]; omega)]
     refine ⟨a, b, ?_, by omega⟩
     have : 2 ^ (a + 1) * (5 ^ (b + 1) * r) = 2 * 5 * (2 ^ a * (5 ^ b * r)) := by rw [Nat.pow_succ, Nat.pow_succ]; ac_rfl
     rw [this, Nat.mul_div_cancel_left _ (by omega)]
theorem Xy {r M p : Nat} (h : Ul r) (hd : X5 r M 1 p) : r = 1 /\ p = M := by
 obtain ⟨h1, h2⟩ := SE h hd (by decide)
 exact ⟨h1.symm, h2⟩
theorem Y9 (d : Nat) : 0 < d -> ∃ r a b, Ul r /\ d = 2 ^ a * (5 ^ b * r) := by
 induction d using Nat.strongRecOn with
 | _ d ih =>
 intro hd
 by_cases h2 : d % 2 = 0
 ·obtain ⟨r, a, b, h3, h4⟩ := ih (d / 2) (by omega) (by omega)
  refine ⟨r, a + 1, b, h3, ?_⟩
  rw [Nat.pow_succ, Nat.mul_comm (2 ^ a) 2, Nat.mul_assoc, <- h4]; omega
 by_cases h5 : d % 5 = 0
 ·obtain ⟨r, a, b, h3, h4⟩ := ih (d / 5) (by omega) (by omega)
  refine ⟨r, a, b + 1, h3, ?_⟩
  rw [Nat.pow_succ, Nat.mul_comm (5 ^ b) 5, Nat.mul_assoc, Nat.mul_left_comm, <- h4]; omega
 ·exact ⟨d, 0, 0, ⟨h2, h5⟩, by simp⟩
theorem SG {r a b n : Nat} (h : 2 ^ a * (5 ^ b * r) < 10 ^ n) (hr : 0 < r) : max a b <= 4 * n := by
 have h1 : 0 < 5 ^ b * r := Nat.mul_pos (Nat.pow_pos (by omega)) hr
 have h2 : 2 ^ a <= 2 ^ a * (5 ^ b * r) := Nat.le_mul_of_pos_right _ h1
 have h3 : 5 ^ b <= 5 ^ b * r := Nat.le_mul_of_pos_right _ hr
 have h4 : 5 ^ b * r <= 2 ^ a * (5 ^ b * r) := Nat.le_mul_of_pos_left _ (Nat.pow_pos (by omega))
 have h5 : 2 ^ b <= 5 ^ b := Nat.pow_le_pow_left (by omega) b
 have key : ∀ k, 2 ^ k < 10 ^ n -> k <= 4 * n := fun k hk => by
  have h6 : (10 : Nat) ^ n <= 2 ^ (4 * n) := by rw [Nat.pow_mul]; exact Nat.pow_le_pow_left (by omega) n
  have h7 : 2 ^ k < 2 ^ (4 * n) := zl hk h6
  exact Nat.le_of_lt ((Nat.pow_lt_pow_iff_right (by omega)).1 h7)
 have k1 := key a (by omega)
 have k2 := key b (by omega)
 omega
theorem Xx (a b : Nat) : 2 ^ a * (5 ^ b * 1) ∣ 10 ^ max a b := by
 refine ⟨2 ^ (max a b - a) * 5 ^ (max a b - b), ?_⟩
 rw [show (10 : Nat) = 2 * 5 from rfl, Nat.mul_pow]
 have h1 : 2 ^ max a b = 2 ^ a * 2 ^ (max a b - a) := by rw [<- Nat.pow_add]; congr 1; omega
 have h2 : 5 ^ max a b = 5 ^ b * 5 ^ (max a b - b) := by rw [<- Nat.pow_add]; congr 1; omega
 rw [h1, h2]
 generalize 2 ^ (max a b - a) = u
 generalize 5 ^ (max a b - b) = v
 ac_rfl
end ae
end
section
open Go.RowKit
open Sym
attribute [local irreducible] Calls Sym.bM ae.nd ae.bu ae.upd
def Yg (s : List UInt8) (is : Bool) (err : Int) (w : World) (e : Ending) (w' : World) : Prop := e = .returned (.tuple #[.string (ah s), .bool is, .int .i64 err]) /\ BW w w'
structure StT where
 d : Nat
 a : Option Addr
 c : Nat
 p : Nat
structure StI (r M : Nat) (t : StT) : Prop where
 pl : ae.X5 r M t.d t.p
 pos : 0 < t.d
 nd : ae.nd 1000000000 t.d <= 300
 an : t.a = none -> t.c = 0
 cn : ae.nd 1000000000 t.d <= t.c
section
variable (f : ae.Fr) (w : World) (hw : XW w) (hw0 : 0 < w.heap.size) (h1 : f.1.length <= 9223372036854775807) (h2 : f.2.length <= 9223372036854775807)
include hw0 h1 h2
include hw
theorem JD (r a b : Nat) (hr : ae.Ul r) (hE : ae.bQ f = 0) (hd : (ae.az f).d = 2 ^ a * (5 ^ b * r)) :
  Calls Tryz.prog 194 #[iI f] w (Yg (if r = 1 then ae.jo ⟨(ae.az f).m, (ae.az f).n * 10 ^ max a b / (ae.az f).d, 1⟩ (max a b) else []) (decide (r = 1)) 0 w) := by
 have R1 := fun (w' : World) (h : BW w w') => pO f w' (zl hw0 h.size) h1 h2
 obtain ⟨q1, q2, q3⟩ := ae.fZ hE (b := 1000000000) (by omega)
 obtain ⟨s1, s2, -⟩ := ae.fZ hE (b := 10) (by omega)
 rw [ae.sF hE, hE] at R1
 obtain ⟨i0, hi, hz0, hz1, hz2⟩ := info_parts kU
 have hu := underlying137
 have hsz := fun w => sizeOf161 w
 have hzv := fun w => zeroValue161 w
 have hn1 : ae.nd 1000000000 1 = 1 := ae.gq (by omega)
 have hv1 : nv .u32 1000000000 1 = [.int .u32 1] := oO (by omega)
 have Xk : ae.nd 1000000000 10 = 1 := ae.wI (by omega) (by omega) (.inr (by omega))
 have Xm : nv .u32 1000000000 10 = [.int .u32 10] := by unfold nv ae.dg; rw [Xk, ae.rD (by omega)]; rfl
 have hr0 : 0 < r := Nat.pos_of_ne_zero fun h => hr.two (by rw [h])
 generalize ae.az f = V at *
 obtain ⟨m, n, d0⟩ := V
 dsimp only at *
 have hM : max a b <= 4 * 300 := by
  have h3 := ae.dQ (b := 10) (by omega) (ae.dP (by omega) d0) s2
  rw [hd] at h3
  exact ae.SG h3 hr0
 have hP0 : ae.X5 r (max a b) d0 0 := ⟨a, b, hd, by omega⟩
 clear hd
 generalize max a b = M at *
 obtain ⟨f1, f2⟩ := f
 refine yE func194 rfl results194 ntmps194 [] [200015] [.agg [.str f1, .str f2]] w ?_
 repeat' (first | exact ⟨⟩ | refine yG ?_ ?_ | (refine eG .u32 1000000000 ⟨m, n, d0⟩ 0 hw0 (by kernel_rfl) rfl (fun β w' hm => R1 w' hm.below) (fun a1 c1 a2 c2 hcap => ?_)) | intro _)
 all_goals first | (exfalso; simp_all; done) | skip
 refine RI 2 rfl ?_
 refine loop bF rfl (T := {t : StT // StI r M t}) (fun t => ⟨[(5, .ptr 3 0), (7, .int .i64 (t.1.p : Nat)), (8, .any (.slice t.1.a (ae.nd 1000000000 t.1.d) t.1.c))], [(1, false, .aK (bV w.heap.size a1 (nv .u32 1000000000 n))), (2, false, .aK (bV w.heap.size a2 (nv .u32 1000000000 d0))), (3, true, .cells 139 [.bool m, .any (.slice a1 (ae.nd 1000000000 n) c1), .any (.slice a2 (ae.nd 1000000000 d0) c2)]), (4, false, .aK (bV w.heap.size t.1.a (nv .u32 1000000000 t.1.d)))], 5, 68⟩) (fun t => t.1.d) ⟨⟨d0, a2, c2, 0⟩, ⟨hP0, q3, q2, hcap.bn, hcap.cd⟩⟩ 1000 [] [200015] (fun _ => by exact Nat.zero_le _) (by dsimp only; ((with_reducible show wk _ _); repeat' (first | exact trivial | exact au _ | refine eY ?_ | refine eqS ?_ | apply And.intro | exact yV | fail)); all_goals exact fun b x h => h) (fun t I hI => ?_)
 obtain ⟨⟨d, sa, sc, p⟩, hpl, hdp, hdn, Zx, hdc⟩ := t
 dsimp only at hpl hdp hdn Zx hdc ⊢
 have hpM : p <= M := by obtain ⟨_, _, _, h⟩ := hpl; omega
 have HO := fun (w' : World) (h : BW w w') hs => one_any sa sc d w' (by omega) hs
 by_cases hd1 : d = 1
 ·subst hd1
  obtain ⟨hr1, rfl⟩ := ae.Xy hr hpl
  rw [if_pos hr1, decide_eq_true hr1]
  have T1 := fun (w' : World) (h : BW w w') => wU p w' (zl hw0 h.size) (by omega)
  have t1 : ae.nd 1000000000 (10 ^ p) <= p + 1 := Nat.le_trans (ae.BK (by omega) _) (by omega)
  have t2 := ae.BK (b := 10) (by omega) p
  have t3 := ae.iV (b := 1000000000) (x := n) (y := 10 ^ p) (by omega)
  have t4 := ae.iV (b := 10) (x := n) (y := 10 ^ p) (by omega)
  have t5 := ae.dD (b := 1000000000) (by omega) (Nat.div_le_self (n * 10 ^ p) d0)
  have t6 := ae.dD (b := 10) (by omega) (Nat.div_le_self (n * 10 ^ p) d0)
  have M1 := fun ta tc (w' : World) hs ht => times_any a1 ta c1 tc n (10 ^ p) w' (by omega) (by omega) hs ht
  have D1 := fun ta tc (w' : World) (h : BW w w') hs ht => jB ta a2 tc c2 (n * 10 ^ p) d0 w' (zl hw0 h.size) (by omega) (by omega) q3 hs ht
  have F1 := fun (x : bI) (w' : World) (h : BW w w') => zi x p w' (hw.below h) (by omega)
  have t7 : (Lib.decDigits (n * 10 ^ p / d0)).length <= 1000000 := ae.iL (A := 1000000) (by omega) (by omega)
  generalize n * 10 ^ p / d0 = Q at *
  generalize n * 10 ^ p % d0 = Z at *
  generalize n * 10 ^ p = N at *
  generalize 10 ^ p = P at *
  generalize hT : ae.jo ⟨m, Q, 1⟩ p = T at *
  repeat' (first | exact ⟨⟩ | refine yG ?_ ?_ | refine yK (.prop ((1 : Nat) = 1) inferInstance) (fun β w hm => HO w hm.below (hm.dS 4 rfl)) ?_ | (refine aH .u32 1000000000 P hw0 (by kernel_rfl) rfl (fun β w' hm => T1 w' hm.below) (fun ta tc j1 j2 j3 => ?_)) | (refine aH .u32 1000000000 N hw0 (by kernel_rfl) rfl (fun β w' hm => M1 ta tc w' (hm.dS 1 rfl) (df hm)) (fun ua uc k1 k2 k3 => ?_)) | (refine fU .u32 1000000000 Q Z hw0 (by kernel_rfl) rfl (fun β w' hm => D1 ua uc w' hm.below (df hm) (hm.dS 2 rfl)) (fun u1 v1 u2 v2 m1 m2 m3 m4 m5 m6 => ?_)) | refine yK (.str T) (fun β w hm => by rw [<- hT]; have := F1 ⟨m, Q, 1, u1, v1, some ⟨g1, 0, none⟩, 1⟩ w hm.below (aX.of (df hm) (by rw [hv1]; first | exact (hm.own 9 rfl).1 | exact (hm.own 10 rfl).1) ⟨m1, (fun h => by cases h), m2, by dsimp only; omega⟩) (by dsimp only; omega) (by dsimp only; omega); simp only [bI.val, bI.num, hn1] at this; exact this) ?_ | (refine aI (sz := 1) rfl rfl rfl (xs := [.int .u32 10]) (fun β => rfl) rfl (by omega) (by omega) hu hsz hzv (fun g1 => ?_)) | (refine aI (sz := 1) rfl rfl rfl (xs := [.int .u32 1]) (fun β => rfl) rfl (by omega) (by omega) hu hsz hzv (fun g1 => ?_)) | intro _)
  all_goals first | rfl | (exfalso; omega) | skip
 ·have DV := fun g1 (w' : World) (h : 0 < w'.heap.size) hs ht => jB sa (some ⟨g1, 0, none⟩) sc 1 d 10 w' h (by omega) (by omega) (by omega) hs ht
  rw [Xk, Xm] at DV
  have HG := fun g1 (w' : World) (h : 0 < w'.heap.size) hs ht => uN (Lz d sa (Lz 10 (some ⟨g1, 0, none⟩) [])) sa (some ⟨g1, 0, none⟩) sc 1 d 10 w' h (by omega) (by omega) Zx hdc (fun h => by cases h) (by omega) (fun h => by unfold Lz; rw [if_neg (by omega)]; exact List.mem_cons_self ..) (fun _ => by unfold Lz; rw [if_neg (by omega), if_neg (by omega)]; exact List.mem_cons_of_mem _ (List.mem_cons_self ..)) hs ht
  rw [Xk] at HG
  have hgp : 0 < Nat.gcd d 10 := Nat.gcd_pos_of_pos_left _ hdp
  have hgd := Nat.gcd_dvd_left d 10
  have hg10 : Nat.gcd d 10 <= 10 := Nat.le_of_dvd (by omega) (Nat.gcd_dvd_right d 10)
  have hgn := ae.dD (b := 1000000000) (by omega) hg10
  have hst := ae.VI hr hpl
  have hno := ae.SE hr hpl
  have hq10 : d % 10 = 0 -> Nat.gcd d 10 = 10 := fun h => Nat.gcd_eq_right (Nat.dvd_of_mod_eq_zero h)
  obtain ⟨q, hq⟩ : ∃ q, q = d / 10 := ⟨_, rfl⟩
  obtain ⟨rr, hrr⟩ : ∃ rr, rr = d % 10 := ⟨_, rfl⟩
  rw [<- hq, <- hrr] at DV
  rw [<- hrr] at hq10
  have HZ := fun a c w => lH a (ae.nd 1000000000 rr) c w
  have hz : ((ae.nd 1000000000 rr : Nat) : Int) = 0 ↔ rr = 0 := by
   have := ae.fM (b := 1000000000) (x := rr) (by omega)
   omega
  by_cases hr0 : rr = 0
  ·have hg := hq10 hr0
   rw [hg, <- hq] at hst
   have hqp : 0 < q := by omega
   have hqn := ae.dD (b := 1000000000) (x := q) (y := d) (by omega) (by omega)
   repeat' (first | exact ⟨⟩ | refine yG ?_ ?_ | refine yK (.prop (d = 1) inferInstance) (fun β w hm => HO w hm.below (hm.dS 4 rfl)) ?_ | (refine fU .u32 1000000000 q rr hw0 (by kernel_rfl) rfl (fun β w' hm => DV g1 w' (zl hw0 hm.aU) (hm.dS 4 rfl) (by first | exact (hm.own 5 rfl).1 | exact (hm.own 6 rfl).1)) (fun u1 v1 u2 v2 k1 k2 k3 k4 k5 k6 => ?_)) | refine yK (.prop (((ae.nd 1000000000 rr : Nat) : Int) = 0) inferInstance) (fun β w hm => HZ u2 v2 w) ?_ | (refine aI (sz := 1) rfl rfl rfl (xs := [.int .u32 10]) (fun β => rfl) rfl (by omega) (by omega) hu hsz hzv (fun g1 => ?_)) | (refine aI (sz := 1) rfl rfl rfl (xs := [.int .u32 1]) (fun β => rfl) rfl (by omega) (by omega) hu hsz hzv (fun g1 => ?_)) | intro _)
   all_goals first | (exfalso; omega) | skip
   all_goals refine ai (Φ := bV w.heap.size u1 (nv .u32 1000000000 q)) 4 6 rfl rfl rfl (by exact Nat.zero_le _) (by kernel_rfl) ?_
   all_goals exact hI _ ⟨⟨q, u1, v1, p + 1⟩, ⟨hst (by omega), hqp, by dsimp only; omega, k1, k2⟩⟩ (by dsimp only; omega) (by dsimp only; ((with_reducible show wk _ _); repeat' (first | exact trivial | exact au _ | refine eY ?_ | refine eqS ?_ | apply And.intro | exact yV | fail)); all_goals exact fun b x h => h)
  ·generalize Nat.gcd d 10 = g at *
   have HOG := fun ga gc (w' : World) hs => one_any ga gc g w' (by omega) hs
   have DG := fun ga gc (w' : World) (h : 0 < w'.heap.size) hs ht => jB sa ga sc gc d g w' h (by omega) (by omega) hgp hs ht
   by_cases hg1 : g = 1
   ·have hr1 : ¬ r = 1 := fun h => hd1 (by rw [(hno hg1).1]; exact h)
    rw [if_neg hr1, decide_eq_false hr1]
    repeat' (first | exact ⟨⟩ | refine yG ?_ ?_ | refine yK (.prop (d = 1) inferInstance) (fun β w hm => HO w hm.below (hm.dS 4 rfl)) ?_ | (refine fU .u32 1000000000 q rr hw0 (by kernel_rfl) rfl (fun β w' hm => DV g1 w' (zl hw0 hm.aU) (hm.dS 4 rfl) (by first | exact (hm.own 5 rfl).1 | exact (hm.own 6 rfl).1)) (fun u1 v1 u2 v2 k1 k2 k3 k4 k5 k6 => ?_)) | refine yK (.prop (((ae.nd 1000000000 rr : Nat) : Int) = 0) inferInstance) (fun β w hm => HZ u2 v2 w) ?_ | (refine zf 8 (nv .u32 1000000000 10) rfl (fun i v h => by rw [Xm] at h; exact h) ?_; refine mQ (Lz d sa (Lz 10 (some ⟨g1, 0, none⟩) [])) .u32 1000000000 g hw0 (by kernel_rfl) rfl (cu 4 (Nat.le_of_ble_eq_true rfl) rfl (cu 8 (Nat.le_of_ble_eq_true rfl) rfl iD)) (fun β w' hm => HG g1 w' (zl hw0 hm.aU) (hm.dS 4 rfl) (hm.dS 8 rfl)) (fun ga gc j1 j2 j3 => ?_)) | refine yK (.prop (g = 1) inferInstance) (fun β w hm => HOG ga gc w (df hm)) ?_ | (refine aI (sz := 1) rfl rfl rfl (xs := [.int .u32 10]) (fun β => rfl) rfl (by omega) (by omega) hu hsz hzv (fun g1 => ?_)) | (refine aI (sz := 1) rfl rfl rfl (xs := [.int .u32 1]) (fun β => rfl) rfl (by omega) (by omega) hu hsz hzv (fun g1 => ?_)) | intro _)
    all_goals first | rfl | (exfalso; omega) | skip
   ·have hdg : d / g < d := Nat.div_lt_self hdp (by omega)
    have Z7 : 0 < d / g := Nat.div_pos (Nat.le_of_dvd hdp hgd) hgp
    have hqn := ae.dD (b := 1000000000) (x := d / g) (y := d) (by omega) (by omega)
    repeat' (first | exact ⟨⟩ | refine yG ?_ ?_ | refine yK (.prop (d = 1) inferInstance) (fun β w hm => HO w hm.below (hm.dS 4 rfl)) ?_ | (refine fU .u32 1000000000 q rr hw0 (by kernel_rfl) rfl (fun β w' hm => DV g1 w' (zl hw0 hm.aU) (hm.dS 4 rfl) (by first | exact (hm.own 5 rfl).1 | exact (hm.own 6 rfl).1)) (fun u1 v1 u2 v2 k1 k2 k3 k4 k5 k6 => ?_)) | refine yK (.prop (((ae.nd 1000000000 rr : Nat) : Int) = 0) inferInstance) (fun β w hm => HZ u2 v2 w) ?_ | (refine zf 8 (nv .u32 1000000000 10) rfl (fun i v h => by rw [Xm] at h; exact h) ?_; refine mQ (Lz d sa (Lz 10 (some ⟨g1, 0, none⟩) [])) .u32 1000000000 g hw0 (by kernel_rfl) rfl (cu 4 (Nat.le_of_ble_eq_true rfl) rfl (cu 8 (Nat.le_of_ble_eq_true rfl) rfl iD)) (fun β w' hm => HG g1 w' (zl hw0 hm.aU) (hm.dS 4 rfl) (hm.dS 8 rfl)) (fun ga gc j1 j2 j3 => ?_)) | refine yK (.prop (g = 1) inferInstance) (fun β w hm => HOG ga gc w (df hm)) ?_ | (refine fU .u32 1000000000 (d / g) (d % g) hw0 (by kernel_rfl) rfl (fun β w' hm => DG ga gc w' (zl hw0 hm.aU) (hm.dS 4 rfl) (df hm)) (fun u3 v3 u4 v4 m1 m2 m3 m4 m5 m6 => ?_)) | (refine aI (sz := 1) rfl rfl rfl (xs := [.int .u32 10]) (fun β => rfl) rfl (by omega) (by omega) hu hsz hzv (fun g1 => ?_)) | (refine aI (sz := 1) rfl rfl rfl (xs := [.int .u32 1]) (fun β => rfl) rfl (by omega) (by omega) hu hsz hzv (fun g1 => ?_)) | intro _)
    all_goals first | (exfalso; omega) | skip
    all_goals refine ai (Φ := bV w.heap.size u3 (nv .u32 1000000000 (d / g))) 4 10 rfl rfl rfl (by exact Nat.zero_le _) (by kernel_rfl) ?_
    all_goals exact hI _ ⟨⟨d / g, u3, v3, p + 1⟩, ⟨hst hg1, Z7, by dsimp only; omega, m1, m2⟩⟩ hdg (by dsimp only; ((with_reducible show wk _ _); repeat' (first | exact trivial | exact au _ | refine eY ?_ | refine eqS ?_ | apply And.intro | exact yV | fail)); all_goals exact fun b x h => h)
end
end
section
attribute [local irreducible] ae.nd ae.bu ae.upd
namespace ae
theorem RV {N d : Nat} (hd : 0 < d) (h : d ∣ N) : (N + N + d) / (d + d) = N / d := by
 obtain ⟨q, rfl⟩ := h
 rw [Nat.mul_div_cancel_left _ hd]
 have e1 : d * q + d * q + d = (2 * q + 1) * d := by rw [Nat.add_mul, Nat.one_mul, Nat.mul_comm d q, <- Nat.add_mul, <- Nat.two_mul]
 have e2 : d + d = 2 * d := by omega
 rw [e1, e2, Nat.mul_div_mul_right _ _ hd]
 omega
theorem JC {V : Num} {a b : Nat} (hd : V.d = 2 ^ a * (5 ^ b * 1)) : jo (dA (aG V (max a b : Nat))) (max a b) = jo ⟨V.m, V.n * 10 ^ max a b / V.d, 1⟩ (max a b) := by
 obtain ⟨m, n, d⟩ := V
 dsimp only at hd
 have h0 : 0 < d := by rw [hd]; exact Nat.mul_pos (Nat.pow_pos (by omega)) (Nat.mul_pos (Nat.pow_pos (by omega)) (by omega))
 have h1 : d ∣ n * 10 ^ max a b := by rw [hd]; exact Nat.dvd_trans (Xx a b) (Nat.dvd_mul_left _ _)
 clear hd
 generalize max a b = M at *
 have h2 : aG ⟨m, n, d⟩ (M : Int) = ⟨m, n * 10 ^ M, d⟩ := by
  unfold aG
  rw [if_neg (by omega), Int.natAbs_natCast]
 rw [h2]
 unfold dA
 dsimp only
 rw [RV h0 h1]
end ae
end
section
open Go.RowKit
open Sym
attribute [local irreducible] Calls Sym.bM ae.nd ae.bu ae.upd ae.ak ae.ay
namespace af
def oP (s : Str) : Str := Lib.trimSuffix (Lib.trimRightB s 48) [46]
def Pl (d : Nat) (one : Bool) (k : Nat) : Prop := ∃ r a b, ae.Ul r /\ d = 2 ^ a * (5 ^ b * r) /\ one = decide (r = 1) /\ k = max a b
theorem SB (d : Nat) (h : 0 < d) : ∃ t : Bool × Nat, Pl d t.1 t.2 := by
 obtain ⟨r, a, b, h1, h2⟩ := ae.Y9 d h
 exact ⟨(decide (r = 1), max a b), r, a, b, h1, h2, rfl, rfl⟩
open Classical in
noncomputable def Ei (d : Nat) : Bool × Nat := if h : ∃ t : Bool × Nat, Pl d t.1 t.2 then Classical.choose h else (false, 0)
theorem SH (d : Nat) (h : 0 < d) : Pl d (Ei d).1 (Ei d).2 := by
 unfold Ei
 rw [dif_pos (SB d h)]
 exact Classical.choose_spec (SB d h)
noncomputable def fD (x : ae.Num) : Str :=
 if (Ei x.d).1 = true /\ (ae.jo (ae.dA (ae.aG x (Ei x.d).2)) (Ei x.d).2).length <= 40 then ae.jo (ae.dA (ae.aG x (Ei x.d).2)) (Ei x.d).2
 else if ae.ay (ae.jq x 12) = 0 then oP (ae.jo (ae.dA (ae.aG x 12)) 12) else [35, 78, 85, 77, 33]
def boolT (b : Bool) : Str := if b then [84, 82, 85, 69] else [70, 65, 76, 83, 69]
noncomputable def showS (t : VT) : Str := if t.kind = 1 then fD (ae.az t.num) else if t.kind = 2 then t.text else if t.kind = 3 then boolT t.on else if t.kind = 4 then iF t.code else []
noncomputable def showT (t : VT) : Str := if t.kind = 5 then (match t.items with | [] => [] | x :: _ => showS x) else showS t
end af
theorem ae.UN (s : List UInt8) (k : Nat) : (ae.Be s k).length <= s.length + 1 := by
 unfold ae.Be
 split
 ·simp only [List.length_append, List.length_take, List.length_drop, List.length_cons, List.length_nil]; omega
 ·omega
theorem ae.UW (x : ae.Num) (k : Nat) : (ae.jo x k).length <= (Lib.decDigits x.n).length + k + 3 := by
 unfold ae.jo
 have h1 := ae.UN (ae.ny (Lib.decDigits x.n) k) k
 rw [ae.NL] at h1
 dsimp only
 split
 ·rw [List.length_cons]; omega
 ·omega
theorem af.tK {f : ae.Fr} (hE : ae.bQ f = 0) (k : Nat) (hk : k <= 2000) : (ae.jo (ae.dA (ae.aG (ae.az f) k)) k).length <= 10000 := by
 obtain ⟨s1, s2, q3⟩ := ae.fZ hE (b := 10) (by omega)
 obtain ⟨e1, e2, -, -⟩ := ae.lh (b := 10) (x := ae.az f) (k := (k : Int)) (K := k) (by omega) s1 s2 (by omega) q3
 have e5 := ae.iL (ae.tZ (b := 10) (by omega) e1 e2) (by omega)
 have := ae.UW (ae.dA (ae.aG (ae.az f) k)) k
 omega
theorem af.Jh {f : ae.Fr} (hE : ae.bQ f = 0) {one : Bool} {k : Nat} (h : af.Pl (ae.az f).d one k) : k <= 1200 := by
 obtain ⟨r, a, b, h1, h2, -, rfl⟩ := h
 obtain ⟨s1, s2, q3⟩ := ae.fZ hE (b := 10) (by omega)
 have h3 := ae.dQ (b := 10) (by omega) (ae.dP (by omega) (ae.az f).d) s2
 rw [h2] at h3
 have hr0 : 0 < r := Nat.pos_of_ne_zero fun h => h1.two (by rw [h])
 have := ae.SG h3 hr0
 omega
theorem P6 (s : List UInt8) (c : UInt8) (w : World) (hc : c.toNat < 128) (hs : s.length <= 9223372036854775807) : QC 197 #[.string (ah s), .string (ah [c])] w (.string (ah (Lib.trimRightB s c))) := by
 refine (Tryz.strings_TrimRight_one (ah s) c hc w (by rw [bW]; exact hs)).mono fun e w' ⟨he, hw⟩ => ⟨by rw [he]; simp [ah], hw ▸ Below.refl _ _⟩
theorem P7 (s p : List UInt8) (w : World) (hs : s.length <= 9223372036854775807) : QC 196 #[.string (ah s), .string (ah p)] w (.string (ah (Lib.trimSuffix s p))) := by
 refine (Tryz.strings_TrimSuffix (ah s) (ah p) w (by rw [bW]; exact hs)).mono fun e w' ⟨he, hw⟩ => ⟨by rw [he]; simp [ah], hw ▸ Below.refl _ _⟩
theorem Gz (f : ae.Fr) (w : World) (hw : XV w) (hw0 : 0 < w.heap.size) (h1 : f.1.length <= 9223372036854775807) (h2 : f.2.length <= 9223372036854775807) (hE : ae.bQ f = 0) :
  QC 154 #[iI f] w (.string (ah (af.fD (ae.az f)))) := by
 obtain ⟨-, -, q3⟩ := ae.fZ hE (b := 10) (by omega)
 have hP := af.SH _ q3
 have hk := af.Jh hE hP
 have l1 := af.tK hE (af.Ei (ae.az f).d).2 (by omega)
 have l2 := af.tK hE 12 (by omega)
 have c12 : ((12 : Nat) : Int) = 12 := rfl
 rw [c12] at l2
 obtain ⟨r, a, b, hr, hd, hone, hkk⟩ := hP
 have S := fun (w' : World) (h : BW w w') => JD f w' (hw.below h).xw (zl hw0 h.size) h1 h2 r a b hr hE hd
 have F := fun (w' : World) (h : BW w w') => Rj f w' (hw.below h).xw (zl hw0 h.size) h1 h2 12 hE (by omega)
 rw [c12] at F
 have sf : r = 1 -> ae.jo ⟨(ae.az f).m, (ae.az f).n * 10 ^ max a b / (ae.az f).d, 1⟩ (max a b) = ae.jo (ae.dA (ae.aG (ae.az f) (max a b : Nat))) (max a b) := fun h => by
  rw [<- ae.JC (V := ae.az f) (a := a) (b := b) (by rw [hd, h])]
 have hD : af.fD (ae.az f) = if (af.Ei (ae.az f).d).1 = true /\ (ae.jo (ae.dA (ae.aG (ae.az f) (af.Ei (ae.az f).d).2)) (af.Ei (ae.az f).d).2).length <= 40 then ae.jo (ae.dA (ae.aG (ae.az f) (af.Ei (ae.az f).d).2)) (af.Ei (ae.az f).d).2 else if ae.ay (ae.jq (ae.az f) 12) = 0 then af.oP (ae.jo (ae.dA (ae.aG (ae.az f) 12)) 12) else [35, 78, 85, 77, 33] := rfl
 rw [hone, hkk] at hD
 have l3 : (Lib.trimRightB (ae.jo (ae.dA (ae.aG (ae.az f) 12)) 12) 48).length <= 10000 := by
  refine Nat.le_trans ?_ l2
  unfold Lib.trimRightB
  rw [List.length_reverse]
  exact Nat.le_trans (List.dropWhile_sublist _).length_le (by rw [List.length_reverse]; exact Nat.le_refl _)
 have T1 := fun w => P6 (ae.jo (ae.dA (ae.aG (ae.az f) 12)) 12) 48 w (by decide) (by omega)
 have T2 := fun w => P7 (Lib.trimRightB (ae.jo (ae.dA (ae.aG (ae.az f) 12)) 12) 48) [46] w (by omega)
 have N := fun (w' : World) (h : BW w w') => xQ 5 w' (hw.below h)
 generalize hX : ae.jo (ae.dA (ae.aG (ae.az f) 12)) 12 = X at *
 generalize ae.ay (ae.jq (ae.az f) 12) = E at *
 have hst : af.oP X = Lib.trimSuffix (Lib.trimRightB X 48) [46] := rfl
 rw [hst] at hD
 generalize Lib.trimRightB X 48 = Y at *
 generalize Lib.trimSuffix Y [46] = Z at *
 generalize af.fD (ae.az f) = R at *
 rw [hkk] at l1
 generalize hA : ae.jo (ae.dA (ae.aG (ae.az f) (max a b : Nat))) (max a b) = A at *
 obtain ⟨f1, f2⟩ := f
 by_cases h1r : r = 1
 ·have sf := sf h1r
  rw [sf, if_pos h1r, decide_eq_true h1r] at S
  rw [decide_eq_true h1r] at hD
  by_cases hE0 : E = 0
  ·rw [if_pos hE0] at F
   rw [hE0] at F
   rw [if_pos hE0] at hD
   refine yE func154 rfl results154 ntmps154 [] [] [.agg [.str f1, .str f2]] w ?_
   repeat' (first | exact ⟨⟩ | refine yG ?_ ?_ | refine yB (.bg [.str (A : List UInt8), .lit true, .int .i64 0]) (fun _ => S) ?_ | refine yB (.bg [.str X, .int .i64 0]) (fun _ => F) ?_ | refine yB (.bg [.str [], .int .i64 0]) (fun _ => F) ?_ | refine yB (.str (af.iF 5)) (fun _ => N) ?_ | refine yA (.str Y) (fun _ => T1) ?_ | refine yA (.str Z) (fun _ => T2) ?_ | intro _)
   all_goals first | (exfalso; omega) | (rw [hD, if_pos ⟨rfl, by omega⟩]; rfl) | (rw [hD, if_neg (fun h => by omega)]; rfl)
  ·rw [if_neg hE0] at F hD
   refine yE func154 rfl results154 ntmps154 [] [] [.agg [.str f1, .str f2]] w ?_
   repeat' (first | exact ⟨⟩ | refine yG ?_ ?_ | refine yB (.bg [.str (A : List UInt8), .lit true, .int .i64 0]) (fun _ => S) ?_ | refine yB (.bg [.str X, .int .i64 0]) (fun _ => F) ?_ | refine yB (.bg [.str [], .int .i64 E]) (fun _ => F) ?_ | refine yB (.str (af.iF 5)) (fun _ => N) ?_ | refine yA (.str Y) (fun _ => T1) ?_ | refine yA (.str Z) (fun _ => T2) ?_ | intro _)
   all_goals first | (exfalso; omega) | (rw [hD, if_pos ⟨rfl, by omega⟩]; rfl) | (rw [hD, if_neg (fun h => by omega)]; rfl)
 ·rw [if_neg h1r, decide_eq_false h1r] at S
  rw [decide_eq_false h1r, if_neg (fun h => by cases h.1)] at hD
  by_cases hE0 : E = 0
  ·rw [if_pos hE0] at F
   rw [hE0] at F
   rw [if_pos hE0] at hD
   refine yE func154 rfl results154 ntmps154 [] [] [.agg [.str f1, .str f2]] w ?_
   repeat' (first | exact ⟨⟩ | refine yG ?_ ?_ | refine yB (.bg [.str ([] : List UInt8), .lit false, .int .i64 0]) (fun _ => S) ?_ | refine yB (.bg [.str X, .int .i64 0]) (fun _ => F) ?_ | refine yB (.bg [.str [], .int .i64 0]) (fun _ => F) ?_ | refine yB (.str (af.iF 5)) (fun _ => N) ?_ | refine yA (.str Y) (fun _ => T1) ?_ | refine yA (.str Z) (fun _ => T2) ?_ | intro _)
   all_goals first | (exfalso; omega) | (rw [hD]; rfl)
  ·rw [if_neg hE0] at F hD
   refine yE func154 rfl results154 ntmps154 [] [] [.agg [.str f1, .str f2]] w ?_
   repeat' (first | exact ⟨⟩ | refine yG ?_ ?_ | refine yB (.bg [.str ([] : List UInt8), .lit false, .int .i64 0]) (fun _ => S) ?_ | refine yB (.bg [.str X, .int .i64 0]) (fun _ => F) ?_ | refine yB (.bg [.str [], .int .i64 E]) (fun _ => F) ?_ | refine yB (.str (af.iF 5)) (fun _ => N) ?_ | refine yA (.str Y) (fun _ => T1) ?_ | refine yA (.str Z) (fun _ => T2) ?_ | intro _)
   all_goals first | (exfalso; omega) | (rw [hD]; rfl)
end
section
open Go.RowKit
open Sym
attribute [local irreducible] Calls Sym.bM ae.nd ae.bu ae.upd
namespace ae
theorem yQ {x : Num} (hd : 0 < x.d) (h1 : nd 10 x.n <= 300) (h2 : nd 10 x.d <= 300) (hg : Nat.gcd x.n x.d = 1) (hm : x.m = true -> x.n ≠ 0) : ay x = 0 /\ ak x = (pU x.m (Lib.decDigits x.n), Lib.decDigits x.d) := by
 by_cases hn : x.n = 0
 ·rw [ay, ak, if_pos hn, if_pos hn]
  have hd1 : x.d = 1 := by rw [hn, Nat.gcd_zero_left] at hg; exact hg
  have hm0 : x.m = false := Bool.eq_false_iff.2 fun h => hm h hn
  rw [hn, hd1, hm0, Lib.decDigits_one (by omega), Lib.decDigits_one (by omega)]
  exact ⟨rfl, rfl⟩
 ·have h3 := iL h1 (by omega)
  have h4 := iL h2 (by omega)
  have ho : ¬ lg x := by unfold lg gI iq; rw [hg, Nat.div_one, Nat.div_one]; omega
  rw [ay, ak, if_neg hn, if_neg hn, if_neg ho, if_neg ho]
  unfold gI iq
  rw [hg, Nat.div_one, Nat.div_one]
  exact ⟨rfl, rfl⟩
end ae
structure ZJ where
 d : Nat
 a : Option Addr
 c : Nat
 k : Nat
structure PcI (j : Nat -> Nat) (A : Nat) (t : ZJ) : Prop where
 le : t.k <= A
 ed : t.d = j t.k
 an : t.a = none -> t.c = 0
 cn : ae.nd 10 t.d <= t.c
theorem Jr (x : bI) (w : World) (hw0 : 0 < w.heap.size) (hx : aX .i64 10 x w) (hd : 0 < x.d) (ng : ae.nd 10 x.n <= 300) (hxd : ae.nd 10 x.d <= 300) (hg : Nat.gcd x.n x.d = 1) (hxm : x.m = true -> x.n ≠ 0)
  (r a b : Nat) (hr : ae.Ul r) (hdr : x.d = 2 ^ a * (5 ^ b * r)) :
  QC 100 #[x.val 10] w (.int .i64 (if r = 1 then ((max a b : Nat) : Int) else -1)) := by
 have R1 := fun (w' : World) (h : BW w w') => kH x w' (zl hw0 h.size) (hx.below h) hd (by omega) (by omega)
 obtain ⟨e1, e2⟩ := ae.yQ (x := x.num) hd ng hxd hg hxm
 rw [e1, e2] at R1
 obtain ⟨i0, hi, hz0, hz1, hz2⟩ := info_parts jw
 have hu := underlying70
 have hsz := fun w => sizeOf3 w
 have hzv := fun w => zeroValue3 w
 have hn5 : ae.nd 10 5 = 1 := ae.wI (by omega) (by omega) (.inr (by omega))
 have hv5 : nv .i64 10 5 = [.int .i64 5] := by unfold nv ae.dg; rw [hn5, ae.rD (by omega)]; rfl
 have hlen := ae.iL hxd (by omega)
 have N1 := fun w' => jf (Lib.decDigits x.d) w' (by omega) (ae.jA _)
 rw [ae.oI] at N1
 obtain ⟨m, n, d, xa, xc, xb, xe⟩ := x
 dsimp only [bI.num, bI.val] at *
 have hr0 : 0 < r := Nat.pos_of_ne_zero fun h => hr.two (by rw [h])
 have hM : max a b <= 4 * 300 := by
  have h3 := ae.dQ (b := 10) (by omega) (ae.dP (by omega) d) hxd
  rw [hdr] at h3
  exact ae.SG h3 hr0
 have mZ : ∀ z, 0 < z -> 0 < ae.nd 10 z := fun z h => (ae.fM (by omega)).2 h
 have hpre : ∀ z, 0 < z -> (nv .i64 10 z)[0]? = some (.int .i64 ((z % 10 : Nat) : Int)) := fun z h => by rw [eQ (mZ z h), ae.Yt]
 have hsome : ∀ (q : Option Addr) (qc z : Nat), 0 < z -> (q = none -> qc = 0) -> ae.nd 10 z <= qc -> ∃ ad, q = some ad := fun q qc z hz hq hqc => by
  cases q with
  | none => have := mZ z hz; have := hq rfl; omega
  | some ad => exact ⟨ad, rfl⟩
 have hQ2 : ∀ k, (2 ^ k * (5 ^ b * r)) % 2 = 0 ↔ 0 < k := fun k => ae.Lu hr
 have hQ5 : ∀ k, (5 ^ k * r) % 5 = 0 ↔ 0 < k := fun k => by have := ae.F9 (a := 0) (b := k) hr; rwa [Nat.pow_zero, Nat.one_mul] at this
 have hS2 : ∀ k, 2 ^ (k + 1) * (5 ^ b * r) = 2 * (2 ^ k * (5 ^ b * r)) := fun k => by rw [Nat.pow_succ, Nat.mul_comm (2 ^ k) 2, Nat.mul_assoc]
 have hS5 : ∀ k, 5 ^ (k + 1) * r = 5 * (5 ^ k * r) := fun k => by rw [Nat.pow_succ, Nat.mul_comm (5 ^ k) 5, Nat.mul_assoc]
 have hD0 : ∀ k, k <= a -> 0 < 2 ^ (a - k) * (5 ^ b * r) /\ 2 ^ (a - k) * (5 ^ b * r) <= d := fun k hk => by
  have h5 : 0 < 5 ^ b * r := Nat.mul_pos (Nat.pow_pos (by omega)) hr0
  refine ⟨Nat.mul_pos (Nat.pow_pos (by omega)) h5, ?_⟩
  rw [hdr]
  exact Nat.mul_le_mul_right _ (Nat.pow_le_pow_right (by omega) (by omega))
 have hF0 : ∀ k, k <= b -> 0 < 5 ^ (b - k) * r /\ 5 ^ (b - k) * r <= d := fun k hk => by
  have h5 := (hD0 a (Nat.le_refl _)).2
  rw [Nat.sub_self, Nat.pow_zero, Nat.one_mul] at h5
  refine ⟨Nat.mul_pos (Nat.pow_pos (by omega)) hr0, Nat.le_trans (Nat.mul_le_mul_right _ (Nat.pow_le_pow_right (by omega) (by omega))) h5⟩
 have hxe : 2 ^ (a - 0) * (5 ^ b * r) = d := hdr.symm
 have hfe : 2 ^ (a - a) * (5 ^ b * r) = 5 ^ (b - 0) * r := by rw [Nat.sub_self, Nat.pow_zero, Nat.one_mul, Nat.sub_zero]
 have hre : 5 ^ (b - b) * r = r := by rw [Nat.sub_self, Nat.pow_zero, Nat.one_mul]
 have hD2 : ∀ k, k < a -> (2 ^ (a - k) * (5 ^ b * r)) / 2 = 2 ^ (a - (k + 1)) * (5 ^ b * r) /\ (2 ^ (a - k) * (5 ^ b * r)) % 2 = 0 := fun k hk => by
  have h := hS2 (a - (k + 1))
  rw [show a - (k + 1) + 1 = a - k by omega] at h
  rw [h]; omega
 have hD1 : (2 ^ (a - a) * (5 ^ b * r)) % 2 ≠ 0 := fun h => by have := (hQ2 _).1 h; omega
 have hF2 : ∀ k, k < b -> (5 ^ (b - k) * r) / 5 = 5 ^ (b - (k + 1)) * r /\ (5 ^ (b - k) * r) % 5 = 0 := fun k hk => by
  have h := hS5 (b - (k + 1))
  rw [show b - (k + 1) + 1 = b - k by omega] at h
  rw [h]; omega
 have hF1 : (5 ^ (b - b) * r) % 5 ≠ 0 := fun h => by have := (hQ5 _).1 h; omega
 generalize hDj : (fun k => 2 ^ (a - k) * (5 ^ b * r)) = Dj at *
 have eD : ∀ k, 2 ^ (a - k) * (5 ^ b * r) = Dj k := fun k => by rw [<- hDj]
 simp only [eD] at hD0 hD2 hD1 hxe hfe
 generalize hFj : (fun k => 5 ^ (b - k) * r) = Fj at *
 have eF : ∀ k, 5 ^ (b - k) * r = Fj k := fun k => by rw [<- hFj]
 simp only [eF] at hF0 hF2 hF1 hfe hre
 clear eD eF hDj hFj hS2 hS5 hQ2 hQ5
 refine yE func100 rfl results100 ntmps100 [] [] [.agg [.bool m, .any (.slice xa (ae.nd 10 n) xc), .any (.slice xb (ae.nd 10 d) xe)]] w ?_
 repeat' (first | exact ⟨⟩ | refine yG ?_ ?_ | refine yB (.bg [.agg [.str (ae.pU m (Lib.decDigits n)), .str (Lib.decDigits d)], .int .i64 0]) (fun _ => R1) ?_ | (refine aH .i64 10 d hw0 (by kernel_rfl) rfl (fun β w' hm => N1 w') (fun a1 c1 q1 q2 q3 => ?_)) | intro _)
 all_goals first | (exfalso; omega) | skip
 refine loop bF rfl (T := {t : ZJ // PcI Dj a t}) (fun t => ⟨[(5, .any (.slice t.1.a (ae.nd 10 t.1.d) t.1.c)), (6, .int .i64 (t.1.k : Nat)), (7, .int .i64 0)], [(2, false, .aK (bV w.heap.size t.1.a (nv .i64 10 t.1.d)))], 3, 47⟩) (fun t => a - t.1.k) ⟨⟨d, a1, c1, 0⟩, ⟨Nat.zero_le _, hxe.symm, q1, q2⟩⟩ 1000 [] [] (fun _ => by exact Nat.zero_le _) (by dsimp only; ((with_reducible show wk _ _); repeat' (first | exact trivial | exact au _ | refine eY ?_ | refine eqS ?_ | apply And.intro | exact yV | fail)); all_goals exact fun b x h => h) (fun t I hI => ?_)
 obtain ⟨⟨D, sa, sc, k⟩, hk, Yz, hsa, hsc⟩ := t
 dsimp only at hk Yz hsa hsc ⊢
 obtain ⟨Rq, hDd⟩ := hD0 k hk
 rw [<- Yz] at Rq hDd
 have hDn := ae.dD (b := 10) (by omega) hDd
 have hDp := mZ D Rq
 obtain ⟨ad, rfl⟩ := hsome sa sc D Rq hsa hsc
 by_cases hka : k < a
 ·obtain ⟨g1, g2⟩ := hD2 k hka
  rw [<- Yz] at g1 g2
  have HF := fun (w' : World) hs => Iz (some ad) sc D w' (by omega) hs
  rw [g1] at HF
  have hev : ((D % 10 : Nat) : Int) % 2 = 0 := by omega
  repeat' (first | exact ⟨⟩ | refine yG ?_ ?_ | (refine aH .i64 10 (Dj (k + 1)) hw0 (by kernel_rfl) rfl (fun β w' hm => HF w' (hm.dS 2 rfl)) (fun ua uc h1 h2 h3 => ?_)) | refine yO (aJ underlying70) ?_ | refine yN (j := 0) underlying70 sizeOf3 ?_ | refine yO (jv (by omega) (by omega)) ?_ | refine yO (v := .int .i64 ((D % 10 : Nat) : Int)) (aP 2 (.int .i64 ((D % 10 : Nat) : Int)) (fun w => isAgg3 w) rfl (fun β => by rw [Nat.zero_mul]; exact hpre D Rq)) ?_ | intro _)
  all_goals first | (exfalso; omega) | skip
  all_goals refine ai (Φ := bV w.heap.size ua (nv .i64 10 (Dj (k + 1)))) 2 3 rfl rfl rfl (by exact Nat.zero_le _) (by kernel_rfl) ?_
  all_goals exact hI _ ⟨⟨Dj (k + 1), ua, uc, k + 1⟩, ⟨by dsimp only; omega, rfl, h1, h2⟩⟩ (by dsimp only; omega) (by dsimp only; ((with_reducible show wk _ _); repeat' (first | exact trivial | exact au _ | refine eY ?_ | refine eqS ?_ | apply And.intro | exact yV | fail)); all_goals exact fun b x h => h)
 ·obtain rfl : k = a := by omega
  have hod : ¬ ((D % 10 : Nat) : Int) % 2 = 0 := by rw [<- Yz] at hD1; omega
  repeat' (first | exact ⟨⟩ | refine yG ?_ ?_ | refine yO (aJ underlying70) ?_ | refine yN (j := 0) underlying70 sizeOf3 ?_ | refine yO (jv (by omega) (by omega)) ?_ | refine yO (v := .int .i64 ((D % 10 : Nat) : Int)) (aP 2 (.int .i64 ((D % 10 : Nat) : Int)) (fun w => isAgg3 w) rfl (fun β => by rw [Nat.zero_mul]; exact hpre D Rq)) ?_ | intro _)
  all_goals first | (exfalso; omega) | skip
  refine loop bF rfl (T := {t : ZJ // PcI Fj b t}) (fun t => ⟨[(5, .any (.slice t.1.a (ae.nd 10 t.1.d) t.1.c)), (6, .int .i64 (k : Nat)), (7, .int .i64 (t.1.k : Nat))], [(2, false, .aK (bV w.heap.size t.1.a (nv .i64 10 t.1.d)))], 3, 47⟩) (fun t => b - t.1.k) ⟨⟨D, some ad, sc, 0⟩, ⟨Nat.zero_le _, by dsimp only; rw [Yz, hfe], hsa, hsc⟩⟩ 1000 [] [] (fun _ => by exact Nat.zero_le _) (by dsimp only; ((with_reducible show wk _ _); repeat' (first | exact trivial | exact au _ | refine eY ?_ | refine eqS ?_ | apply And.intro | exact yV | fail)); all_goals exact fun b x h => h) (fun t I2 hI2 => ?_)
  clear hI
  obtain ⟨⟨F, fa, fc, l⟩, hl, Zo, hfa, hfc⟩ := t
  dsimp only at hl Zo hfa hfc ⊢
  obtain ⟨ZQ, hFd⟩ := hF0 l hl
  rw [<- Zo] at ZQ hFd
  have hFn := ae.dD (b := 10) (by omega) hFd
  have DV := fun g (w' : World) (h : 0 < w'.heap.size) hs ht => oG fa (some ⟨g, 0, none⟩) fc 1 F 5 w' h (by omega) (by omega) (by omega) hs ht
  rw [hn5, hv5] at DV
  by_cases hlb : l < b
  ·obtain ⟨g1, g2⟩ := hF2 l hlb
   rw [<- Zo] at g1 g2
   rw [g1, g2] at DV
   have hz0 := ae.aT 10
   repeat' (first | exact ⟨⟩ | refine yG ?_ ?_ | (refine fU .i64 10 (Fj (l + 1)) 0 hw0 (by kernel_rfl) rfl (fun β w' hm => DV g1 w' (zl hw0 hm.aU) (hm.dS 2 rfl) (hm.own 3 rfl).1) (fun u1 v1 u2 v2 k1 k2 k3 k4 k5 k6 => ?_)) | (refine aI (sz := 1) rfl rfl rfl (xs := [.int .i64 5]) (fun β => rfl) rfl (by omega) (by omega) hu hsz hzv (fun g1 => ?_)) | refine yO (aJ underlying70) ?_ | intro _)
   all_goals first | (exfalso; omega) | skip
   all_goals refine ai (Φ := bV w.heap.size u1 (nv .i64 10 (Fj (l + 1)))) 2 4 rfl rfl rfl (by exact Nat.zero_le _) (by kernel_rfl) ?_
   all_goals exact hI2 _ ⟨⟨Fj (l + 1), u1, v1, l + 1⟩, ⟨by dsimp only; omega, rfl, k1, k2⟩⟩ (by dsimp only; omega) (by dsimp only; ((with_reducible show wk _ _); repeat' (first | exact trivial | exact au _ | refine eY ?_ | refine eqS ?_ | apply And.intro | exact yV | fail)); all_goals exact fun b x h => h)
  ·obtain rfl : l = b := by omega
   rw [<- Zo] at hF1 hre
   obtain ⟨q, hq⟩ : ∃ q, q = F / 5 := ⟨_, rfl⟩
   obtain ⟨rr, hrr⟩ : ∃ rr, rr = F % 5 := ⟨_, rfl⟩
   rw [<- hq, <- hrr] at DV
   have Zy := mZ rr (by omega)
   have TX := fun (w' : World) hs => pR fa fc F w' (by omega) hs
   have h1 := ae.Na (g := F)
   rw [hre] at h1 TX
   generalize Lib.decDigits r = L at *
   repeat' (first | exact ⟨⟩ | refine yG ?_ ?_ | (refine fU .i64 10 q rr hw0 (by kernel_rfl) rfl (fun β w' hm => DV g1 w' (zl hw0 hm.aU) (hm.dS 2 rfl) (hm.own 3 rfl).1) (fun u1 v1 u2 v2 k1 k2 k3 k4 k5 k6 => ?_)) | refine yK (.str L) (fun β w hm => by rw [hre]; exact TX w (by rw [<- hre]; exact hm.dS 2 rfl)) ?_ | (refine aI (sz := 1) rfl rfl rfl (xs := [.int .i64 5]) (fun β => rfl) rfl (by omega) (by omega) hu hsz hzv (fun g1 => ?_)) | refine yO (aJ underlying70) ?_ | intro _)
   ·rw [if_neg (fun h => absurd (h1.2 h) (by assumption))]; rfl
   ·rw [if_pos (h1.1 (Decidable.not_not.1 (by assumption))), show ((max k l : Nat) : Int) = max (k : Int) (l : Int) by omega]; rfl
end
end Go.Proofs.YtdkhkfdenlabaaaGreatDoor
