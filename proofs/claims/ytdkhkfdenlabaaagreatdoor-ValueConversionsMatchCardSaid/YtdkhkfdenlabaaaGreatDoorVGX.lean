/- Uh numbers read: the sG Re -/
import Derived.Test.YtdkhkfdenlabaaaGreatDoorVGG
import Derived.Test.YtdkhkfdenlabaaaGreatDoorVGQ
import Derived.Test.YtdkhkfdenlabaaaGreatDoorVGO
import Derived.Test.YtdkhkfdenlabaaaGreatDoorVGT
set_option linter.unusedSimpArgs false
set_option linter.unusedVariables false
set_option maxRecDepth 100000
set_option maxHeartbeats 64000000
namespace Go.Proofs.YtdkhkfdenlabaaaGreatDoor
open Go.Proofs.Tryz
open Go.RowKit
open Sym
attribute [local irreducible] Calls Sym.bM ae.nd ae.bu ae.upd ae.ak ae.ay
theorem QL (s : List UInt8) : ae.aO s = (if s.head? = some 45 then s.tail else s, s.head? == some 45) := by
 unfold ae.aO
 by_cases h : s.head? = some 45
 ·rw [if_pos h, if_pos h, h]; rfl
 ·rw [if_neg h, if_neg h, beq_eq_false_iff_ne.2 h]
theorem head_cons {s : List UInt8} {c : UInt8} (h : s.head? = some c) : s = c :: s.tail := by
 cases s with
 | nil => cases h
 | cons d r => simp at h; subst h; rfl
theorem Jj (s : List UInt8) (N0 : ae.Num) (E0 : Int) (w : World) (hw0 : 0 < w.heap.size) (hs : s.length <= 1000) (W P T rest : List UInt8) (m : Bool)
  (hcut : ae.aO s = (rest, m)) (hW : W = ae.aW rest) (hP : P = ae.x8 (ae.bf rest)) (hT : T = ae.BQ (ae.bf rest))
  (hX : ae.nz (ae.bf rest) = true -> N0 = ⟨false, 0, 0⟩ /\ E0 = 10)
  (X8 : ae.nz (ae.bf rest) ≠ true -> W = [] -> N0 = ⟨false, 0, 0⟩ /\ E0 = 10)
  (Xe : ae.nz (ae.bf rest) ≠ true -> ae.lU T = false -> N0 = ⟨false, 0, 0⟩ /\ E0 = 10)
  (hG : ae.nz (ae.bf rest) ≠ true -> W ≠ [] -> ae.lU T = true -> N0 = ae.aG ⟨m, ae.ax (W ++ P), 1⟩ (ae.lK T - (P.length : Int)) /\ E0 = ae.ay N0) :
  Calls Tryz.prog 128 #[.string (ah s)] w (iC .i64 10 N0 E0 w) := by
 have hlen := iP s
 rw [hcut] at hlen
 dsimp only at hlen
 have hR := ae.eH rest
 have hr1 := ae.Ey rest
 have hr2 := ae.Jv rest
 refine yE func128 rfl results128 ntmps128 [20] [] [.str s] w ?_
 have HH := fun w => jS s 45 w (by omega)
 repeat' (first | refine yX ?_ | (apply And.intro <;> intro _) | apply gK | refine jO fun β => ?_ | intro βe | refine yA (.bool (s.head? == some 45)) (fun _ => HH) ?_ | exact trivial)
 all_goals first | (exfalso; omega) | skip
 refine yJ (T := Unit) (fun _ => ⟨[(0, .str s), (2, .ptr 0 0), (4, .str rest), (5, .bool m)], [(0, true, .cells 72 [.lit false, .any (.slice none 0 0), .any (.slice none 0 0)])], 1, 106⟩) [] [] [32] [] (fun I hI => ?_) (fun _ => ?_)
 ·rw [QL] at hcut
  by_cases h45 : s.head? = some 45
  ·rw [if_pos h45, h45] at hcut
   simp only [Prod.mk.injEq] at hcut
   obtain ⟨h1, rfl⟩ := hcut
   have hse := head_cons h45
   rw [h1] at hse
   subst hse
   repeat' (first | refine yX ?_ | (apply And.intro <;> intro _) | apply gK | refine jO fun β => ?_ | intro βe | ((with_reducible show ∃ _, _); first | (refine ⟨1, rfl, by simp, ?_⟩)) | exact trivial)
   all_goals first | (exfalso; simp_all; done) | skip
   all_goals exact hI _ () (by (try dsimp only); ((with_reducible show wk _ _); repeat' (first | exact trivial | exact au _ | refine eY ?_ | refine eqS ?_ | apply And.intro | exact yV | fail)))
  ·rw [if_neg h45, beq_eq_false_iff_ne.2 h45] at hcut
   simp only [Prod.mk.injEq] at hcut
   obtain ⟨rfl, rfl⟩ := hcut
   repeat' (first | refine yX ?_ | (apply And.intro <;> intro _) | apply gK | refine jO fun β => ?_ | intro βe | ((with_reducible show ∃ _, _); first | (refine ⟨1, rfl, by simp, ?_⟩)) | exact trivial)
   all_goals first | (exfalso; simp_all; done) | skip
   all_goals exact hI _ () (by (try dsimp only); ((with_reducible show wk _ _); repeat' (first | exact trivial | exact au _ | refine eY ?_ | refine eqS ?_ | apply And.intro | exact yV | fail)))
 clear HH hcut
 have HS := fun w => JG rest w (by omega)
 rw [<- hW] at HS hr1 hr2 hR
 have HD := fun w => jS (ae.bf rest) 46 w (by omega)
 generalize ae.bf rest = r1 at *
 obtain ⟨n, hn⟩ : ∃ n, W.length = n := ⟨_, rfl⟩
 rw [hn] at HS hr1 hr2 hR
 repeat' (first | refine yX ?_ | (apply And.intro <;> intro _) | apply gK | refine jO fun β => ?_ | intro βe | refine yA (.int .i64 (n : Nat)) (fun _ => HS) ?_ | refine yA (.bool (r1.head? == some 46)) (fun _ => HD) ?_ | ((with_reducible show ∃ _, _); first | (refine ⟨n, rfl, by omega, ?_⟩; first | rw [hr1] | rw [hr2])) | exact trivial)
 refine yJ (T := {u : Unit // ae.nz r1 ≠ true}) (fun _ => ⟨[(0, .str s), (2, .ptr 0 0), (4, .str T), (5, .bool m), (7, .str W), (8, .str P)], [(0, true, .cells 72 [.lit false, .any (.slice none 0 0), .any (.slice none 0 0)])], 1, 106⟩) [] [] [48] [] (fun I hI => ?_) (fun t => ?_)
 ·by_cases h46 : r1.head? = some 46
  ·have e1 := head_cons h46
   have eX : ae.nz r1 = (ae.aW r1.tail).isEmpty := by unfold ae.nz; rw [h46]; rfl
   rw [ae.x8, if_pos h46] at hP
   rw [ae.BQ, if_pos h46] at hT
   have hQ := ae.eH r1.tail
   have ZV := ae.Ey r1.tail
   have hQ2 := ae.Jv r1.tail
   have HQ := fun w => JG r1.tail w (by simp only [List.length_tail]; omega)
   rw [<- hP] at HQ ZV hQ2 hQ eX
   rw [<- hT] at hQ hQ2
   generalize r1.tail = u at *
   subst e1
   clear hP hT h46
   obtain ⟨q, hq⟩ : ∃ q, P.length = q := ⟨_, rfl⟩
   rw [hq] at HQ ZV hQ2 hQ
   have hq0 : q <= 1000 := by simp only [List.length_cons] at hR; omega
   have hS1 : List.drop 1 (List.take (1 + q) (46 :: u)) = P := by rw [Nat.add_comm]; simpa using ZV
   have hS2 : List.drop (1 + q) (46 :: u) = T := by rw [Nat.add_comm]; simpa using hQ2
   have hl1 : (46 :: u : List UInt8).length = u.length + 1 := rfl
   repeat' (first | refine yX ?_ | (apply And.intro <;> intro _) | apply gK | refine jO fun β => ?_ | intro βe | refine yA (.int .i64 (q : Nat)) (fun _ => HQ) ?_ | ((with_reducible show ∃ _, _); first | (refine ⟨1, rfl, by simp, ?_⟩) | (refine ⟨1, 1 + q, rfl, by omega, by omega, by omega, ?_⟩; rw [hS1]) | (refine ⟨1 + q, by omega, by omega, ?_⟩; rw [hS2])) | exact trivial)
   all_goals first | (exfalso; simp_all; done) | skip
   ·rename_i hP0
    obtain ⟨rfl, rfl⟩ := hX (by rw [eX, hP0]; rfl)
    refine ret fun β w' hm => ?_
    exact iZ rfl hm.below
   ·rename_i hP0
    exact hI _ ⟨(), by rw [eX]; simpa using hP0⟩ (by (try dsimp only); ((with_reducible show wk _ _); repeat' (first | exact trivial | exact au _ | refine eY ?_ | refine eqS ?_ | apply And.intro | exact yV | fail)))
  ·rw [ae.x8, if_neg h46] at hP
   rw [ae.BQ, if_neg h46] at hT
   subst hP hT
   have eX : ae.nz T ≠ true := by unfold ae.nz; rw [beq_eq_false_iff_ne.2 h46]; simp
   repeat' (first | refine yX ?_ | (apply And.intro <;> intro _) | apply gK | refine jO fun β => ?_ | intro βe | exact trivial)
   all_goals first | (exfalso; simp_all; done) | skip
   all_goals exact hI _ ⟨(), eX⟩ (by (try dsimp only); ((with_reducible show wk _ _); repeat' (first | exact trivial | exact au _ | refine eY ?_ | refine eqS ?_ | apply And.intro | exact yV | fail)))
 obtain ⟨_, hX0⟩ := t
 replace X8 := X8 hX0
 replace Xe := Xe hX0
 replace hG := hG hX0
 clear hX hX0
 have hTl : T.length <= 1000 := by
  rw [hT]; unfold ae.BQ
  split
  ·rename_i h
   have h1 := ae.eH r1.tail
   have h2 : r1.tail.length <= r1.length := by simp
   omega
  ·omega
 have hPl : P.length <= 1000 /\ W.length + P.length <= 1000 := by
  rw [hP]; unfold ae.x8
  split
  ·have h1 := ae.eH r1.tail
   have h2 : r1.tail.length <= r1.length := by simp
   omega
  ·simp; omega
 have U5 : P.all ae.aY = true := by
  rw [hP]; unfold ae.x8
  split
  ·exact ae.gu _
  ·rfl
 have hWa : W.all ae.aY = true := by rw [hW]; exact ae.gu _
 clear hP hT hW hR hr1 hr2 HS HD hn
 repeat' (first | refine yX ?_ | (apply And.intro <;> intro _) | apply gK | refine jO fun β => ?_ | intro βe | exact trivial)
 refine yJ (T := {u : Unit // ae.lU T = true}) (fun _ => ⟨[(0, .str s), (2, .ptr 0 0), (5, .bool m), (7, .str W), (8, .str P), (9, .int .i64 (ae.lK T))], [(0, true, .cells 72 [.lit false, .any (.slice none 0 0), .any (.slice none 0 0)])], 1, 106⟩) [] [] [] [] (fun I hI => ?_) (fun t => ?_)
 ·cases T with
  | nil =>
    repeat' (first | refine yX ?_ | (apply And.intro <;> intro _) | apply gK | refine jO fun β => ?_ | intro βe | exact trivial)
    all_goals first | (exfalso; simp_all; done) | skip
    all_goals exact hI _ ⟨(), rfl⟩ (by (try dsimp only); ((with_reducible show wk _ _); repeat' (first | exact trivial | exact au _ | refine eY ?_ | refine eqS ?_ | apply And.intro | exact yV | fail)))
  | cons c t =>
    have hB : ae.lU (c :: t) = ((c == 101 || c == 69) && ae.jX (ae.nU t)) := rfl
    have hV : ae.lK (c :: t) = if ae.yC t = true then -(ae.ax (ae.nU t) : Int) else (ae.ax (ae.nU t) : Int) := rfl
    have hc0 : ((c :: t : List UInt8).getD 0 0).toNat = c.toNat := rfl
    have hc8 := c.toNat_lt
    have htl : t.length <= 1000 := by simp only [List.length_cons] at hTl; omega
    by_cases hc : ¬(c = 101 \/ c = 69)
    ·have hce : (c == 101 || c == 69) = false := by
      simp only [not_or] at hc
      simp [hc.1, hc.2]
     have hcn : c.toNat ≠ 101 /\ c.toNat ≠ 69 := ⟨fun e => hc (.inl (UInt8.toNat_inj.1 e)), fun e => hc (.inr (UInt8.toNat_inj.1 e))⟩
     rw [hce, Bool.false_and] at hB
     obtain ⟨rfl, rfl⟩ := Xe hB
     repeat' (first | refine yX ?_ | (apply And.intro <;> intro _) | apply gK | refine jO fun β => ?_ | intro βe | ((with_reducible show ∃ _, _); first | (refine ⟨0, rfl, by simp, ?_⟩) | (refine ⟨1, rfl, by simp, ?_⟩)) | exact trivial)
     all_goals first | (exfalso; omega) | (exfalso; simp_all; done) | skip
     all_goals refine ret fun β w' hm => ?_
     all_goals exact iZ rfl hm.below
    replace hc := Decidable.not_not.1 hc
    have hce : (c == 101 || c == 69) = true := by rcases hc with rfl | rfl <;> rfl
    have hcn : c.toNat = 101 \/ c.toNat = 69 := by rcases hc with rfl | rfl <;> simp
    rw [hce, Bool.true_and] at hB
    have hsP : ae.yC t = (t.head? == some 45) := rfl
    have hsR : ae.nU t = if t.head? = some 45 \/ t.head? = some 43 then t.tail else t := rfl
    by_cases h45 : t.head? = some 45
    ·obtain ⟨u, rfl⟩ : ∃ u, t = 45 :: u := ⟨_, head_cons h45⟩
     have e1 : ae.yC (45 :: u) = true := rfl
     have e2 : ae.nU (45 :: u) = u := rfl
     rw [e2] at hB
     have yT := fun w => jS (45 :: u) 45 w (by omega)
     have zS := fun w => jS (45 :: u) 43 w (by omega)
     rw [show (((45 : UInt8) :: u).head? == some 45) = true from rfl] at yT
     rw [show (((45 : UInt8) :: u).head? == some 43) = false from rfl] at zS
     have hul : u.length <= 1000 := by simp only [List.length_cons] at hTl; omega
     have HA := fun w => ig u w (by omega)
     have hK : ae.jX u = (!u.isEmpty && (u.all ae.aY && decide (u.length <= 3))) := rfl
     by_cases hok : ae.jX u = true
     ·obtain ⟨o1, o2, o3, o4, o5⟩ := ae.jZ hok
      have hv := ae.JY hok
      have HM := fun w => yD u w o4 o5
      have hi : (!u.isEmpty && u.all ae.aY) = true := by rw [o5]; simpa using o1
      rw [hi] at HA
      rw [hok] at hB
      have hV2 : ae.lK (c :: 45 :: u) = -(ae.ax u : Int) := by rw [hV]; simp only [e1, e2, if_true]; try rfl
      clear hV hK
      generalize ae.ax u = v at *
      have hdl : (List.drop 1 (c :: 45 :: u)).length = (45 :: u).length := rfl
      have Ru : (List.drop 1 (List.drop 1 (c :: 45 :: u))).length = (45 :: u).length - 1 := by simp
      have Rw : (45 :: u).length = u.length + 1 := rfl
      have hdn : ((List.drop 1 (c :: 45 :: u)).getD 0 0).toNat = 45 := rfl
      repeat' (first | refine yX ?_ | (apply And.intro <;> intro _) | apply gK | refine jO fun β => ?_ | intro βe | refine yA (.lit false) (fun _ => zS) ?_ | refine yA (.lit true) (fun _ => yT) ?_ | refine yA (.lit true) (fun _ => HA) ?_ | refine yA (.int .i64 (v : Nat)) (fun _ => HM) ?_ | ((with_reducible show ∃ _, _); first | (refine ⟨0, rfl, by simp, ?_⟩) | (refine ⟨1, rfl, by simp, ?_⟩)) | exact trivial)
      all_goals first | (exfalso; omega) | (exfalso; exact (by assumption : ¬¬ ((c :: 45 :: u : List UInt8) = [])) (by simp)) | skip
      all_goals exact hI _ ⟨(), hB⟩ (by (try dsimp only); rw [hV2]; ((with_reducible show wk _ _); repeat' (first | exact trivial | exact au _ | refine eY ?_ | refine eqS ?_ | apply And.intro | exact yV | fail)))
     ·have hnb : ae.lU (c :: 45 :: u) = false := by rw [hB]; exact Bool.eq_false_iff.2 hok
      obtain ⟨rfl, rfl⟩ := Xe hnb
      have hno : (!u.isEmpty && u.all ae.aY) = true -> 3 < u.length := fun h => by
       rw [Bool.and_eq_true] at h
       rw [h.1, h.2] at hK
       rw [hK] at hok
       simpa using hok
      generalize (!u.isEmpty && u.all ae.aY) = b at *
      have hdl : (List.drop 1 (c :: 45 :: u)).length = (45 :: u).length := rfl
      have Ru : (List.drop 1 (List.drop 1 (c :: 45 :: u))).length = (45 :: u).length - 1 := by simp
      have Rw : (45 :: u).length = u.length + 1 := rfl
      have hdn : ((List.drop 1 (c :: 45 :: u)).getD 0 0).toNat = 45 := rfl
      cases b with
      | false =>
        repeat' (first | refine yX ?_ | (apply And.intro <;> intro _) | apply gK | refine jO fun β => ?_ | intro βe | refine yA (.lit false) (fun _ => zS) ?_ | refine yA (.lit true) (fun _ => yT) ?_ | refine yA (.lit false) (fun _ => HA) ?_ | ((with_reducible show ∃ _, _); first | (refine ⟨0, rfl, by simp, ?_⟩) | (refine ⟨1, rfl, by simp, ?_⟩)) | exact trivial)
        all_goals first | (exfalso; omega) | (exfalso; exact (by assumption : ¬¬ ((c :: 45 :: u : List UInt8) = [])) (by simp)) | skip
        all_goals refine ret fun β w' hm => ?_
        all_goals exact iZ rfl hm.below
      | true =>
        have h3 := hno rfl
        repeat' (first | refine yX ?_ | (apply And.intro <;> intro _) | apply gK | refine jO fun β => ?_ | intro βe | refine yA (.lit false) (fun _ => zS) ?_ | refine yA (.lit true) (fun _ => yT) ?_ | refine yA (.lit true) (fun _ => HA) ?_ | ((with_reducible show ∃ _, _); first | (refine ⟨0, rfl, by simp, ?_⟩) | (refine ⟨1, rfl, by simp, ?_⟩)) | exact trivial)
        all_goals first | (exfalso; omega) | (exfalso; exact (by assumption : ¬¬ ((c :: 45 :: u : List UInt8) = [])) (by simp)) | skip
        all_goals refine ret fun β w' hm => ?_
        all_goals exact iZ rfl hm.below
    by_cases h43 : t.head? = some 43
    ·obtain ⟨u, rfl⟩ : ∃ u, t = 43 :: u := ⟨_, head_cons h43⟩
     have e1 : ae.yC (43 :: u) = false := rfl
     have e2 : ae.nU (43 :: u) = u := rfl
     rw [e2] at hB
     have yT := fun w => jS (43 :: u) 45 w (by omega)
     have zS := fun w => jS (43 :: u) 43 w (by omega)
     rw [show (((43 : UInt8) :: u).head? == some 45) = false from rfl] at yT
     rw [show (((43 : UInt8) :: u).head? == some 43) = true from rfl] at zS
     have hul : u.length <= 1000 := by simp only [List.length_cons] at hTl; omega
     have HA := fun w => ig u w (by omega)
     have hK : ae.jX u = (!u.isEmpty && (u.all ae.aY && decide (u.length <= 3))) := rfl
     by_cases hok : ae.jX u = true
     ·obtain ⟨o1, o2, o3, o4, o5⟩ := ae.jZ hok
      have hv := ae.JY hok
      have HM := fun w => yD u w o4 o5
      have hi : (!u.isEmpty && u.all ae.aY) = true := by rw [o5]; simpa using o1
      rw [hi] at HA
      rw [hok] at hB
      have hV2 : ae.lK (c :: 43 :: u) = (ae.ax u : Int) := by rw [hV]; simp only [e1, e2, Bool.false_eq_true, if_false]; try rfl
      clear hV hK
      generalize ae.ax u = v at *
      have hdl : (List.drop 1 (c :: 43 :: u)).length = (43 :: u).length := rfl
      have Ru : (List.drop 1 (List.drop 1 (c :: 43 :: u))).length = (43 :: u).length - 1 := by simp
      have Rw : (43 :: u).length = u.length + 1 := rfl
      have hdn : ((List.drop 1 (c :: 43 :: u)).getD 0 0).toNat = 43 := rfl
      repeat' (first | refine yX ?_ | (apply And.intro <;> intro _) | apply gK | refine jO fun β => ?_ | intro βe | refine yA (.lit true) (fun _ => zS) ?_ | refine yA (.lit false) (fun _ => yT) ?_ | refine yA (.lit true) (fun _ => HA) ?_ | refine yA (.int .i64 (v : Nat)) (fun _ => HM) ?_ | ((with_reducible show ∃ _, _); first | (refine ⟨0, rfl, by simp, ?_⟩) | (refine ⟨1, rfl, by simp, ?_⟩)) | exact trivial)
      all_goals first | (exfalso; omega) | (exfalso; exact (by assumption : ¬¬ ((c :: 43 :: u : List UInt8) = [])) (by simp)) | skip
      all_goals exact hI _ ⟨(), hB⟩ (by (try dsimp only); rw [hV2]; ((with_reducible show wk _ _); repeat' (first | exact trivial | exact au _ | refine eY ?_ | refine eqS ?_ | apply And.intro | exact yV | fail)))
     ·have hnb : ae.lU (c :: 43 :: u) = false := by rw [hB]; exact Bool.eq_false_iff.2 hok
      obtain ⟨rfl, rfl⟩ := Xe hnb
      have hno : (!u.isEmpty && u.all ae.aY) = true -> 3 < u.length := fun h => by
       rw [Bool.and_eq_true] at h
       rw [h.1, h.2] at hK
       rw [hK] at hok
       simpa using hok
      generalize (!u.isEmpty && u.all ae.aY) = b at *
      have hdl : (List.drop 1 (c :: 43 :: u)).length = (43 :: u).length := rfl
      have Ru : (List.drop 1 (List.drop 1 (c :: 43 :: u))).length = (43 :: u).length - 1 := by simp
      have Rw : (43 :: u).length = u.length + 1 := rfl
      have hdn : ((List.drop 1 (c :: 43 :: u)).getD 0 0).toNat = 43 := rfl
      cases b with
      | false =>
        repeat' (first | refine yX ?_ | (apply And.intro <;> intro _) | apply gK | refine jO fun β => ?_ | intro βe | refine yA (.lit true) (fun _ => zS) ?_ | refine yA (.lit false) (fun _ => yT) ?_ | refine yA (.lit false) (fun _ => HA) ?_ | ((with_reducible show ∃ _, _); first | (refine ⟨0, rfl, by simp, ?_⟩) | (refine ⟨1, rfl, by simp, ?_⟩)) | exact trivial)
        all_goals first | (exfalso; omega) | (exfalso; exact (by assumption : ¬¬ ((c :: 43 :: u : List UInt8) = [])) (by simp)) | skip
        all_goals refine ret fun β w' hm => ?_
        all_goals exact iZ rfl hm.below
      | true =>
        have h3 := hno rfl
        repeat' (first | refine yX ?_ | (apply And.intro <;> intro _) | apply gK | refine jO fun β => ?_ | intro βe | refine yA (.lit true) (fun _ => zS) ?_ | refine yA (.lit false) (fun _ => yT) ?_ | refine yA (.lit true) (fun _ => HA) ?_ | ((with_reducible show ∃ _, _); first | (refine ⟨0, rfl, by simp, ?_⟩) | (refine ⟨1, rfl, by simp, ?_⟩)) | exact trivial)
        all_goals first | (exfalso; omega) | (exfalso; exact (by assumption : ¬¬ ((c :: 43 :: u : List UInt8) = [])) (by simp)) | skip
        all_goals refine ret fun β w' hm => ?_
        all_goals exact iZ rfl hm.below
    ·have e1 : ae.yC t = false := by rw [hsP]; exact beq_eq_false_iff_ne.2 h45
     have e2 : ae.nU t = t := by rw [hsR, if_neg (by simp [h45, h43])]
     rw [e2] at hB
     have yT := fun w => jS (t) 45 w (by omega)
     have zS := fun w => jS (t) 43 w (by omega)
     rw [beq_eq_false_iff_ne.2 h45] at yT
     rw [beq_eq_false_iff_ne.2 h43] at zS
     have hul : t.length <= 1000 := by simp only [List.length_cons] at hTl; omega
     have HA := fun w => ig t w (by omega)
     have hK : ae.jX t = (!t.isEmpty && (t.all ae.aY && decide (t.length <= 3))) := rfl
     by_cases hok : ae.jX t = true
     ·obtain ⟨o1, o2, o3, o4, o5⟩ := ae.jZ hok
      have hv := ae.JY hok
      have HM := fun w => yD t w o4 o5
      have hi : (!t.isEmpty && t.all ae.aY) = true := by rw [o5]; simpa using o1
      rw [hi] at HA
      rw [hok] at hB
      have hV2 : ae.lK (c :: t) = (ae.ax t : Int) := by rw [hV]; simp only [e1, e2, Bool.false_eq_true, if_false]; try rfl
      clear hV hK
      generalize ae.ax t = v at *
      have hdl : (List.drop 1 (c :: t)).length = (t).length := rfl
      have Ru : (List.drop 1 (List.drop 1 (c :: t))).length = (t).length - 1 := by simp
      have Rw : (t).length = t.length + 0 := rfl
      repeat' (first | refine yX ?_ | (apply And.intro <;> intro _) | apply gK | refine jO fun β => ?_ | intro βe | refine yA (.lit false) (fun _ => zS) ?_ | refine yA (.lit false) (fun _ => yT) ?_ | refine yA (.lit true) (fun _ => HA) ?_ | refine yA (.int .i64 (v : Nat)) (fun _ => HM) ?_ | ((with_reducible show ∃ _, _); first | (refine ⟨0, rfl, by simp, ?_⟩) | (refine ⟨1, rfl, by simp, ?_⟩)) | exact trivial)
      all_goals first | (exfalso; omega) | (exfalso; exact (by assumption : ¬¬ ((c :: t : List UInt8) = [])) (by simp)) | skip
      all_goals exact hI _ ⟨(), hB⟩ (by (try dsimp only); rw [hV2]; ((with_reducible show wk _ _); repeat' (first | exact trivial | exact au _ | refine eY ?_ | refine eqS ?_ | apply And.intro | exact yV | fail)))
     ·have hnb : ae.lU (c :: t) = false := by rw [hB]; exact Bool.eq_false_iff.2 hok
      obtain ⟨rfl, rfl⟩ := Xe hnb
      have hno : (!t.isEmpty && t.all ae.aY) = true -> 3 < t.length := fun h => by
       rw [Bool.and_eq_true] at h
       rw [h.1, h.2] at hK
       rw [hK] at hok
       simpa using hok
      generalize (!t.isEmpty && t.all ae.aY) = b at *
      have hdl : (List.drop 1 (c :: t)).length = (t).length := rfl
      have Ru : (List.drop 1 (List.drop 1 (c :: t))).length = (t).length - 1 := by simp
      have Rw : (t).length = t.length + 0 := rfl
      cases b with
      | false =>
        repeat' (first | refine yX ?_ | (apply And.intro <;> intro _) | apply gK | refine jO fun β => ?_ | intro βe | refine yA (.lit false) (fun _ => zS) ?_ | refine yA (.lit false) (fun _ => yT) ?_ | refine yA (.lit false) (fun _ => HA) ?_ | ((with_reducible show ∃ _, _); first | (refine ⟨0, rfl, by simp, ?_⟩) | (refine ⟨1, rfl, by simp, ?_⟩)) | exact trivial)
        all_goals first | (exfalso; omega) | (exfalso; exact (by assumption : ¬¬ ((c :: t : List UInt8) = [])) (by simp)) | skip
        all_goals refine ret fun β w' hm => ?_
        all_goals exact iZ rfl hm.below
      | true =>
        have h3 := hno rfl
        repeat' (first | refine yX ?_ | (apply And.intro <;> intro _) | apply gK | refine jO fun β => ?_ | intro βe | refine yA (.lit false) (fun _ => zS) ?_ | refine yA (.lit false) (fun _ => yT) ?_ | refine yA (.lit true) (fun _ => HA) ?_ | ((with_reducible show ∃ _, _); first | (refine ⟨0, rfl, by simp, ?_⟩) | (refine ⟨1, rfl, by simp, ?_⟩)) | exact trivial)
        all_goals first | (exfalso; omega) | (exfalso; exact (by assumption : ¬¬ ((c :: t : List UInt8) = [])) (by simp)) | skip
        all_goals refine ret fun β w' hm => ?_
        all_goals exact iZ rfl hm.below
 obtain ⟨_, hB⟩ := t
 have hvl := ae.Fz _ hB
 by_cases hW0 : W = []
 ·obtain ⟨rfl, rfl⟩ := X8 hW0
  subst hW0
  repeat' (first | refine yX ?_ | (apply And.intro <;> intro _) | apply gK | refine jO fun β => ?_ | intro βe | exact trivial)
  all_goals first | (exfalso; exact absurd rfl (by assumption)) | skip
  all_goals refine ret fun β w' hm => ?_
  all_goals exact iZ rfl hm.below
 obtain ⟨hN, hE⟩ := hG hW0 hB
 clear hG X8 Xe
 have ha : (W ++ P).all ae.aY = true := by rw [List.all_append, hWa, U5]; rfl
 have HP := fun w => jf (W ++ P) w (by rw [List.length_append]; omega) ha
 have hn := ae.qG (b := 10) (by omega) ha
 rw [List.length_append] at hn
 obtain ⟨i0, hi, hz0, hz1, hz2⟩ := info_parts jw
 have hu := underlying70
 have hsz := fun w => sizeOf3 w
 have hzv := fun w => zeroValue3 w
 have hn1 : ae.nd 10 1 = 1 := ae.gq (by omega)
 have hv1 : nv .i64 10 1 = [.int .i64 1] := oO (by omega)
 have W1 := fun (x : bI) (w' : World) (h : BW w w') => kH x w' (zl hw0 h.size)
 generalize ae.lK T = v at *
 generalize ae.ax (W ++ P) = V at *
 obtain ⟨k, hk⟩ : ∃ k, k = (v - (P.length : Int)).natAbs := ⟨_, rfl⟩
 have hk2 : k <= 2000 := by omega
 have hnt := ae.rW k
 have hnm := ae.iV (b := 10) (x := V) (y := 10 ^ k) (by omega)
 have hkp : 0 < 10 ^ k := Nat.pow_pos (by omega)
 by_cases hneg : v - (P.length : Int) < 0
 ·have xU : N0 = ⟨m, V, 10 ^ k⟩ := by
   rw [hN, ae.aG, if_pos hneg, <- hk]
   simp
  have hkk : v - (P.length : Int) = -(k : Int) := by omega
  clear hN
  subst xU hE
  have SC := fun a c g (w' : World) (h0 : 0 < w'.heap.size) h => sK m V 1 a c (some ⟨g, 0, none⟩) 1 k w' h0 (by omega) (by omega) (by omega) h
  simp only [hn1, hv1, Nat.one_mul] at SC
  repeat' (first | refine yX ?_ | (apply And.intro <;> intro _) | apply gK | refine jO fun β => ?_ | intro βe | (refine aH .i64 10 V hw0 (by kernel_rfl) rfl (fun β w' hm => HP w') (fun a1 c1 q1 q2 q3 => ?_)) | (refine Fb .i64 10 (10 ^ k) (fun a' c' => .agg [.bool m, .any (.slice a1 (ae.nd 10 V) c1), .any (.slice a' (ae.nd 10 (10 ^ k)) c')]) hw0 (by kernel_rfl) rfl (fun a' c' => ⟨trivial, rfl, rfl, trivial⟩) (fun β w' hm => by simp only [SV.aF, SV.den]; rw [hkk]; exact SC a1 c1 g1 w' (zl hw0 hm.aU) (by first | exact (hm.own 1 rfl).1 | exact (hm.own 2 rfl).1 | exact (hm.own 3 rfl).1)) (fun a2 c2 q4 q5 => ?_)) | refine yK (.bg [.agg [.str (ae.ak ⟨m, V, 10 ^ k⟩).1, .str (ae.ak ⟨m, V, 10 ^ k⟩).2], .int .i64 (ae.ay ⟨m, V, 10 ^ k⟩)]) (fun β w hm => W1 ⟨m, V, 10 ^ k, a1, c1, a2, c2⟩ w hm.below (aX.of (df hm) (df hm) ⟨q1, q4, q2, q5⟩) hkp (by dsimp only; omega) (by dsimp only; omega)) ?_ | (refine aI (sz := 1) rfl rfl rfl (xs := [.int .i64 1]) (fun β => rfl) rfl (by omega) (by omega) hu hsz hzv (fun g1 => ?_)) | exact trivial)
  all_goals first | (exfalso; omega) | (exfalso; simp_all; done) | skip
  all_goals refine ret fun β w' hm => ?_
  all_goals exact ⟨⟨m, V, 10 ^ k, a1, c1, a2, c2⟩, rfl, rfl, ⟨q1, q4, q2, q5⟩, oK (df hm) (nS hm) (df hm) (nS hm), hm.below⟩
 ·have xU : N0 = ⟨m, V * 10 ^ k, 1⟩ := by
   rw [hN, ae.aG, if_neg hneg, <- hk]
  have hkk : v - (P.length : Int) = (k : Int) := by omega
  clear hN
  subst xU hE
  have SC := fun a c g (w' : World) (h0 : 0 < w'.heap.size) h => zM m V 1 a c (some ⟨g, 0, none⟩) 1 k w' h0 (by omega) (by omega) h
  simp only [hn1] at SC
  repeat' (first | refine yX ?_ | (apply And.intro <;> intro _) | apply gK | refine jO fun β => ?_ | intro βe | (refine aH .i64 10 V hw0 (by kernel_rfl) rfl (fun β w' hm => HP w') (fun a1 c1 q1 q2 q3 => ?_)) | (refine Fb .i64 10 (V * 10 ^ k) (fun a' c' => .agg [.bool m, .any (.slice a' (ae.nd 10 (V * 10 ^ k)) c'), .any (.slice (some ⟨g1, 0, none⟩) 1 1)]) hw0 (by kernel_rfl) rfl (fun a' c' => ⟨trivial, rfl, rfl, trivial⟩) (fun β w' hm => by simp only [SV.aF, SV.den]; rw [hkk]; exact SC a1 c1 g1 w' (zl hw0 hm.aU) (df hm)) (fun a2 c2 q4 q5 => ?_)) | refine yK (.bg [.agg [.str (ae.ak ⟨m, V * 10 ^ k, 1⟩).1, .str (ae.ak ⟨m, V * 10 ^ k, 1⟩).2], .int .i64 (ae.ay ⟨m, V * 10 ^ k, 1⟩)]) (fun β w hm => by have W2 := W1 ⟨m, V * 10 ^ k, 1, a2, c2, some ⟨g1, 0, none⟩, 1⟩ w hm.below (aX.of (df hm) (by rw [hv1]; exact (by first | exact (hm.own 1 rfl).1 | exact (hm.own 2 rfl).1 | exact (hm.own 3 rfl).1)) ⟨q4, (fun h => by cases h), q5, by dsimp only; omega⟩) (by dsimp only; omega) (by dsimp only; omega) (by dsimp only; omega); simp only [bI.val, hn1] at W2; exact W2) ?_ | (refine aI (sz := 1) rfl rfl rfl (xs := [.int .i64 1]) (fun β => rfl) rfl (by omega) (by omega) hu hsz hzv (fun g1 => ?_)) | exact trivial)
  all_goals first | (exfalso; omega) | (exfalso; simp_all; done) | skip
  all_goals refine ret fun β w' hm => ?_
  all_goals exact ⟨⟨m, V * 10 ^ k, 1, a2, c2, some ⟨g1, 0, none⟩, 1⟩, by simp only [bI.val, hn1]; rfl, rfl, ⟨q4, (fun h => by cases h), q5, by dsimp only; omega⟩, oK (df hm) (nS hm) (by dsimp only; rw [hv1]; first | exact (hm.own 1 rfl).1 | exact (hm.own 2 rfl).1 | exact (hm.own 3 rfl).1) (by dsimp only; rw [hv1]; first | exact bY (hm.own 1 rfl).2.1 rfl | exact bY (hm.own 2 rfl).2.1 rfl | exact bY (hm.own 3 rfl).2.1 rfl), hm.below⟩
section
attribute [local semireducible] ae.ak ae.ay
end
theorem Gg (s : List UInt8) (w : World) (h : 1000 < s.length) : Calls Tryz.prog 128 #[.string (ah s)] w (iC .i64 10 ⟨false, 0, 0⟩ 3 w) := by
 refine yE func128 rfl results128 ntmps128 [] [] [.str s] w ?_
 repeat' (first | exact ⟨⟩ | refine yG ?_ ?_ | intro _)
 all_goals first | (exfalso; omega) | skip
 all_goals refine ret fun β w' hm => ?_
 all_goals exact iZ rfl hm.below
theorem Jk (s : List UInt8) (w : World) (hw0 : 0 < w.heap.size) : Calls Tryz.prog 128 #[.string (ah s)] w (iC .i64 10 (if ae.jM s = 0 then ae.fA s else ⟨false, 0, 0⟩) (if ae.jM s = 0 then ae.ay (ae.fA s) else ae.jM s) w) := by
 have hE : ae.jM s = if 1000 < s.length then 3 else if ae.nz (ae.bf (ae.aO s).1) = true \/ ae.gY s = [] \/ ae.lU (ae.fD s) = false then 10 else 0 := rfl
 by_cases h : 1000 < s.length
 ·rw [if_pos h] at hE
  rw [hE]
  exact Gg s w h
 rw [if_neg h] at hE
 refine Jj s _ _ w hw0 (by omega) (ae.gY s) (ae.iE s) (ae.fD s) (ae.aO s).1 (ae.aO s).2 rfl rfl rfl rfl (fun hx => ?_) (fun _ hx => ?_) (fun _ hx => ?_) (fun h1 h2 h3 => ?_)
 ·rw [if_pos (.inl hx)] at hE; rw [hE]; exact ⟨rfl, rfl⟩
 ·rw [if_pos (.inr (.inl hx))] at hE; rw [hE]; exact ⟨rfl, rfl⟩
 ·rw [if_pos (.inr (.inr hx))] at hE; rw [hE]; exact ⟨rfl, rfl⟩
 ·rw [if_neg (fun h => h.elim h1 (fun h => h.elim h2 (fun h => by rw [h3] at h; cases h)))] at hE
  rw [hE]
  exact ⟨rfl, rfl⟩
end Go.Proofs.YtdkhkfdenlabaaaGreatDoor
