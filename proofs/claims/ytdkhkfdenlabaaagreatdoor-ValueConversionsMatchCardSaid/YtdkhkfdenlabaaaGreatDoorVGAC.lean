/- Values, the reference: Zz; Enter of -/
import Derived.Test.YtdkhkfdenlabaaaGreatDoorVGG
import Derived.Test.YtdkhkfdenlabaaaGreatDoorVGZ
import Derived.Test.YtdkhkfdenlabaaaGreatDoorVGAB
import Derived.Test.YtdkhkfdenlabaaaGreatDoorVGW
import Derived.Test.YtdkhkfdenlabaaaGreatDoorVGU
import Derived.ProofKit
import Derived.OpenShut
import Derived.ShutString
import Derived.Below
import Derived.Carry
import Derived.Test.YtdkhkfdenlabaaaGreatDoorVGL
import Derived.Deep.Slices
import Derived.Deep.Fields
import Derived.ChangeSame
import Derived.Test.YtdkhkfdenlabaaaGreatDoorVGP
set_option linter.unusedSimpArgs false
set_option linter.unusedVariables false
set_option maxRecDepth 100000
set_option maxHeartbeats 64000000
namespace Go.Proofs.YtdkhkfdenlabaaaGreatDoor
open Go.Proofs.Tryz
section
open Go.RowKit
open Sym
attribute [local irreducible] Calls Sym.bM ae.nd ae.bu ae.upd ae.ak ae.ay
theorem af.Zj {c : UInt8} : ∀ {s : List UInt8} {x : UInt8}, x ∈ s.takeWhile (· != c) -> x ≠ c := by
 intro s
 induction s with
 | nil => intro x h; cases h
 | cons a r ih =>
   intro x h
   rw [List.takeWhile_cons] at h
   split at h
   ·rename_i ha
    rcases List.mem_cons.1 h with rfl | h
    ·simpa using ha
    ·exact ih h
   ·cases h
theorem Pq (s : List UInt8) (w : World) (hw0 : 0 < w.heap.size) (hl : s.length <= 40000) : mP 67 s (af.zX s) w := by
 obtain ⟨Yq, Yr⟩ := af.ru 32 s
 rw [af.Ah]
 by_cases h : (32 : UInt8) ∈ s
 ·obtain ⟨p1, p2⟩ := af.xC h
  have hc : af.bK 32 s = (s.takeWhile (· != 32), (s.dropWhile (· != 32)).tail, true) := by
   unfold af.bK
   rw [if_pos h]
  have he := af.qm h
  obtain ⟨p, hp⟩ : ∃ p, (s.takeWhile (· != 32)).length = p := ⟨_, rfl⟩
  have hall : ∀ x ∈ s.takeWhile (· != 32), x ≠ 32 := fun x hx => af.Zj hx
  have hps : p < s.length := by
   have := congrArg List.length he
   rw [List.length_append, List.length_cons] at this
   omega
  have h2 : ((s.getD p 0).toNat : Int) = 32 := by
   have e : s.getD p 0 = 32 := by
    rw [he, List.getD_eq_getElem?_getD, List.getElem?_append_right (by omega), hp, Nat.sub_self]
    rfl
   rw [e]; rfl
  have h1 : ∀ i, i < p -> ¬ ((s.getD i 0).toNat : Int) = 32 := fun i hi hq => by
   have hil : i < (s.takeWhile (· != 32)).length := by omega
   have e : s.getD i 0 = (s.takeWhile (· != 32))[i] := by
    conv => lhs; rw [he]
    rw [List.getD_eq_getElem?_getD, List.getElem?_append_left (by omega), List.getElem?_eq_getElem (by omega)]
    rfl
   rw [e] at hq
   have h32 : ((32 : UInt8).toNat : Int) = 32 := rfl
   exact hall _ (List.getElem_mem hil) (UInt8.toNat_inj.1 (by omega))
  rw [hp] at p1 p2
  rw [hc] at Yq Yr ⊢
  dsimp only at Yq Yr ⊢
  have D := Cc (s.takeWhile (· != 32)) w hw0 (by omega)
  have T := Ci ((s.dropWhile (· != 32)).tail) w hw0 (by omega)
  rw [<- p1] at D ⊢
  rw [<- p2] at T ⊢
  obtain ⟨N1, g1, D⟩ := D
  obtain ⟨N2, g2, T⟩ := T
  have b1 := @af.kX (List.take p s)
  have b2 := @af.mF (List.drop (p + 1) s)
  generalize af.jH (List.take p s) = dO at *
  generalize af.jQ (List.drop (p + 1) s) = cO at *
  have key : ∀ d z, dO = some d -> cO = some z -> ∀ (x y : bI) (w' : World), BW w w' -> aX .i64 10 x w' -> aX .i64 10 y w' -> x.num = d -> y.num = z -> Calls Tryz.prog 131 #[x.val 10, y.val 10] w' (fF .i64 10 (ae.fP d z) w') := by
   intro d z hd hz x y w' hb hx hy ex ey
   obtain ⟨d1, d2, d3⟩ := b1 hd
   obtain ⟨z1, z2, z3, z4⟩ := b2 hz
   have en : x.n = d.n := congrArg ae.Num.n ex
   have ed : x.d = d.d := congrArg ae.Num.d ex
   have fn : y.n = z.n := congrArg ae.Num.n ey
   have fd : y.d = z.d := congrArg ae.Num.d ey
   have := wO x y w' (zl hw0 hb.size) hx hy (by rw [en]; exact ae.GV (by omega)) (by rw [ed]; exact ae.GV (by omega)) (by rw [fn]; exact ae.GV (by omega)) (by rw [fd]; exact ae.GV (by omega))
   rw [ex, ey] at this
   exact this
  cases dO with
  | none =>
    show mP _ _ none w
    refine ⟨⟨false, 0, 0⟩, (fun x h => by cases h), fun w' hb => ?_⟩
    exact yw s p w' (zl hw0 hb.size) (by omega) (by omega) h1 hps h2 N1 N2 false cO.isSome (fun w2 h2 => D w2 (bZ hb h2)) (fun w2 h2 => T w2 (bZ hb h2)) ⟨false, 0, 0⟩ (fun h => by cases h) (fun _ => rfl)
  | some d =>
    obtain rfl := g1 d rfl
    cases cO with
    | none =>
      show mP _ _ none w
      refine ⟨⟨false, 0, 0⟩, (fun x h => by cases h), fun w' hb => ?_⟩
      exact yw s p w' (zl hw0 hb.size) (by omega) (by omega) h1 hps h2 _ N2 true false (fun w2 h2 => D w2 (bZ hb h2)) (fun w2 h2 => T w2 (bZ hb h2)) ⟨false, 0, 0⟩ (fun _ h => by cases h) (fun _ => rfl)
    | some z =>
      obtain rfl := g2 z rfl
      show mP _ _ (if true = true then some (ae.fP N1 N2) else none) w
      rw [if_pos rfl]
      refine ⟨ae.fP N1 N2, (fun x h => by cases h; rfl), fun w' hb => ?_⟩
      exact yw s p w' (zl hw0 hb.size) (by omega) (by omega) h1 hps h2 N1 N2 true true (fun w2 h2 => D w2 (bZ hb h2)) (fun w2 h2 => T w2 (bZ hb h2)) _ (fun _ _ x y w2 h2 hx hy ex ey => key N1 N2 rfl rfl x y w2 (bZ hb h2) hx hy ex ey) (fun h => absurd ⟨rfl, rfl⟩ h)
 ·have hc : af.bK 32 s = (s, [], false) := by
   unfold af.bK
   rw [if_neg h]
  rw [hc]
  have h1 : ∀ i, i < s.length -> ¬ ((s.getD i 0).toNat : Int) = 32 := fun i hi hq => by
   have e : s.getD i 0 = s[i] := by rw [List.getD_eq_getElem?_getD, List.getElem?_eq_getElem hi]; rfl
   rw [e] at hq
   have h32 : ((32 : UInt8).toNat : Int) = 32 := rfl
   have : s[i] = 32 := UInt8.toNat_inj.1 (by omega)
   exact h (this ▸ List.getElem_mem hi)
  dsimp only
  have hn : ∀ (V : Option ae.Num), V = none -> mP 67 s V w := fun V hV => by
   subst hV
   exact ⟨⟨false, 0, 0⟩, (fun x h => by cases h), fun w' hb => PD s s.length w' (zl hw0 hb.size) (by omega) (Nat.le_refl _) h1 rfl⟩
  refine hn _ ?_
  split
  ·rfl
  ·rfl
def ae.Small (x : ae.Num) : Prop := 0 < x.d /\ ae.nd 10 x.n <= 1000000 /\ ae.nd 10 x.d <= 1000000
namespace af
open ae
theorem Vt {s : Str} {x : Num} (h : nT s = some x) : Small x := by
 unfold nT at h
 split at h
 ·cases h
 ·unfold wJ at h
  split at h
  ·cases h
  ·rename_i hp
   obtain ⟨d1, d2, d3⟩ := DU (Decidable.of_not_not (fun h => hp (.inl h)))
   split at h
   ·split at h
    ·cases h
     exact ⟨ui (vW _), Nat.le_trans d1 (by omega), scale_small d2⟩
    ·cases h
   ·cases h; exact ⟨d3, Nat.le_trans d1 (by omega), Nat.le_trans d2 (by omega)⟩
theorem Vl {s : Str} {x : Num} (h : uy s = some x) : Small x := by
 unfold uy Dw at h
 split at h
 ·split at h
  ·rename_i hh
   obtain ⟨h1, h2, h3, h4⟩ := hh
   cases h
   have a := (kV h1).2.2
   have b := (kV h2).2.2
   have c := (kV h3).2.2
   refine ⟨Nat.pos_of_ne_zero h4, ?_, Nat.le_trans (dX (by omega) c) (by omega)⟩
   dsimp only
   refine Nat.le_trans (dX (n := 201) (by omega) ?_) (by omega)
   have e : (10 : Nat) ^ 201 = 10 ^ 100 * 10 ^ 100 * 10 := by rw [<- Nat.pow_add, <- Nat.pow_succ]
   have m1 := Nat.mul_le_mul (Nat.le_of_lt a) (Nat.le_of_lt c)
   have m3 : (10 : Nat) ^ 100 <= 10 ^ 100 * 10 ^ 100 := Nat.le_mul_of_pos_right _ (Nat.pow_pos (by omega))
   have m4 : 0 < (10 : Nat) ^ 100 := Nat.pow_pos (by omega)
   omega
  ·cases h
 ·cases h
theorem QM {s : Str} {x : Num} (h : jH s = some x) : Small x := by
 obtain ⟨h1, h2, h3⟩ := kX h
 exact ⟨by omega, GV (by omega), GV (by omega)⟩
theorem UF {s : Str} {x : Num} (h : jQ s = some x) : Small x := by
 obtain ⟨h1, h2, h3, h4⟩ := mF h
 exact ⟨h2, GV (by omega), GV (by omega)⟩
theorem Vo {s : Str} {x : Num} (h : zX s = some x) : Small x := by
 rw [Ah] at h
 split at h
 ·rename_i d z hd hz
  split at h
  ·cases h
   obtain ⟨dm, dn, dd⟩ := d
   obtain ⟨zm, zn, zd⟩ := z
   obtain ⟨d1, d2, d3⟩ := kX hd
   obtain ⟨z1, z2, z3, z4⟩ := mF hz
   dsimp only at *
   subst d1 d2 z1
   have hmul : dn * zd <= 2958464 * 1000000000000000 := Nat.mul_le_mul d3 (by omega)
   have hs : fP ⟨false, dn, 1⟩ ⟨false, zn, zd⟩ = ⟨false, dn * zd + zn * 1, 1 * zd⟩ := if_pos rfl
   rw [hs]
   exact ⟨by show 0 < 1 * zd; omega, GV (by show dn * zd + zn * 1 < _; omega), GV (by show 1 * zd < _; omega)⟩
  ·cases h
 ·cases h
end af
theorem nK {z : ae.Num} (hg : ae.yS z) (hs : ae.Small z) (x : bI) (w : World) (hw0 : 0 < w.heap.size) (hx : aX .i64 10 x w) (e : x.num = z) : Calls Tryz.prog 68 #[x.val 10] w (ql (af.iR (ae.ak z)) w) := by
 have en : x.n = z.n := congrArg ae.Num.n e
 have ed : x.d = z.d := congrArg ae.Num.d e
 have := Jp x w hw0 hx (by rw [ed]; exact hs.1) (by rw [en]; exact hs.2.1) (by rw [ed]; exact hs.2.2)
 rw [e] at this
 unfold af.Tf at this
 rwa [if_pos hg.2] at this
theorem LD (s : List UInt8) (w : World) (hw0 : 0 < w.heap.size) (Zv : XR w) (hl : s.length <= 9223372036854775807) : Calls Tryz.prog 12 #[.string (ah s)] w (ql (af.bG s) w) := by
 by_cases h0 : s = []
 ·subst h0; exact Gj w
 by_cases hT : af.jV s = 0
 ·have hlen : s.length <= 32767 := by
   unfold af.jV at hT
   split at hT
   ·omega
   ·omega
  by_cases hq : s.head? = some 39
  ·obtain ⟨r, rfl⟩ : ∃ r, s = 39 :: r := by
    cases s with
    | nil => cases hq
    | cons c r => exact ⟨r, by have : c = 39 := by simpa using hq
                               rw [this]⟩
   have hv : af.bG (39 :: r) = af.jm r := by
    unfold af.bG
    rw [if_neg h0, if_neg (fun h => h hT), if_pos hq]
    rfl
   rw [hv]
   exact Gl (39 :: r) w h0 hl hT rfl
  ·have hq' : ¬ ((s.getD 0 0).toNat : Int) = 39 := by
    cases s with
    | nil => exact absurd rfl h0
    | cons c r =>
      intro h
      have h : (c.toNat : Int) = 39 := h
      have h39 : ((39 : UInt8).toNat : Int) = 39 := rfl
      have : c = 39 := UInt8.toNat_inj.1 (by omega)
      exact hq (by rw [this]; rfl)
   by_cases hb : af.low s = [116, 114, 117, 101] \/ af.low s = [102, 97, 108, 115, 101]
   ·have hv : af.bG s = af.AP (decide (af.low s = [116, 114, 117, 101])) := by
     unfold af.bG
     rw [if_neg h0, if_neg (fun h => h hT), if_neg hq, if_pos hb]
    rw [hv]
    exact Jm s w h0 hl hT hq' (by omega) hb
   ·have hv := af.rG h0 hT hq (fun h => hb (.inl h)) (fun h => hb (.inr h))
    have hi : (af.bG s).items = [] := by
     rw [hv]
     split
     ·rfl
     ·split <;> rfl
    have hF : ∀ i : Nat, 1 <= i -> i < 9 -> s = af.bD i -> af.bG s = af.eu (i : Nat) := fun i h1 h9 e => by
     rw [hv, e, af.Ic h1 h9, if_pos (by omega)]
    rw [af.BZ] at hv
    obtain ⟨FA, gA, HA⟩ := Pv s w hw0 h0 (by omega)
    obtain ⟨FB, gB, HB⟩ := Po s w hw0 (by omega)
    obtain ⟨FC, gC, HC⟩ := Cc s w hw0 (by omega)
    obtain ⟨FD, gD, HD⟩ := Ci s w hw0 (by omega)
    obtain ⟨FE, gE, HE⟩ := Pq s w hw0 (by omega)
    have kA := @af.BM s
    have kB := @af.BI s
    have kC := @af.xE s
    have kD := @af.AV s
    have kE := @af.BJ s
    have lA := @af.Vt s
    have lB := @af.Vl s
    have lC := @af.QM s
    have lD := @af.UF s
    have lE := @af.Vo s
    have YD : af.jm s = af.BX s := by unfold af.jm; rw [if_pos hT]
    have hcode : (∀ i, 1 <= i -> i < 9 -> s ≠ af.bD i) -> af.bG s = match (match af.nT s with
      | some x => some x
      | none => match af.uy s with
        | some x => some x
        | none => match af.jH s with
          | some x => some x
          | none => match af.jQ s with
            | some x => some x
            | none => af.zX s) with
      | some x => af.iR (ae.ak x)
      | none => af.BX s := fun h => by
     have hz : ¬ af.zt s ≠ 0 := fun h2 => h2 (af.Ie h)
     rw [if_neg hz] at hv
     exact hv
    clear hv
    generalize af.nT s = vA at *
    generalize af.uy s = vB at *
    generalize af.jH s = vC at *
    generalize af.jQ s = vD at *
    generalize af.zX s = vE at *
    have no : ∀ {V : Option ae.Num}, V.isSome = false -> V = none := fun {V} h => Option.not_isSome_iff_eq_none.1 (by rw [h]; exact Bool.false_ne_true)
    refine Jn s w h0 hl hT hq' (by omega) hw0 Zv (fun h => hb (.inl h)) (fun h => hb (.inr h)) (af.bG s) hi (fun i h1 h9 e w' => ?_) FA FB FC FD FE vA.isSome vB.isSome vC.isSome vD.isSome vE.isSome HA HB HC HD HE ?_ ?_ ?_ ?_ ?_ ?_
    ·rw [hF i h1 h9 e]; exact nJ _ w'
    ·intro hn h x w' hb' hx ex
     obtain ⟨z, rfl⟩ := Option.isSome_iff_exists.1 h
     obtain rfl := gA z rfl
     rw [hcode hn]
     exact nK (kA rfl) (lA rfl) x w' (zl hw0 hb'.size) hx ex
    ·intro hn zA h x w' hb' hx ex
     obtain ⟨z, rfl⟩ := Option.isSome_iff_exists.1 h
     obtain rfl := no zA
     obtain rfl := gB z rfl
     rw [hcode hn]
     exact nK (kB rfl) (lB rfl) x w' (zl hw0 hb'.size) hx ex
    ·intro hn zA zB h x w' hb' hx ex
     obtain ⟨z, rfl⟩ := Option.isSome_iff_exists.1 h
     obtain rfl := no zA
     obtain rfl := no zB
     obtain rfl := gC z rfl
     rw [hcode hn]
     exact nK (kC rfl) (lC rfl) x w' (zl hw0 hb'.size) hx ex
    ·intro hn zA zB zC h x w' hb' hx ex
     obtain ⟨z, rfl⟩ := Option.isSome_iff_exists.1 h
     obtain rfl := no zA
     obtain rfl := no zB
     obtain rfl := no zC
     obtain rfl := gD z rfl
     rw [hcode hn]
     exact nK (kD rfl) (lD rfl) x w' (zl hw0 hb'.size) hx ex
    ·intro hn zA zB zC zD h x w' hb' hx ex
     obtain ⟨z, rfl⟩ := Option.isSome_iff_exists.1 h
     obtain rfl := no zA
     obtain rfl := no zB
     obtain rfl := no zC
     obtain rfl := no zD
     obtain rfl := gE z rfl
     rw [hcode hn]
     exact nK (kE rfl) (lE rfl) x w' (zl hw0 hb'.size) hx ex
    ·intro hn zA zB zC zD zE w'
     obtain rfl := no zA
     obtain rfl := no zB
     obtain rfl := no zC
     obtain rfl := no zD
     obtain rfl := no zE
     rw [hcode hn]
     have := CO s w' hl
     rw [YD] at this
     exact this
 ·have hv : af.bG s = af.eu 2 := by
   unfold af.bG
   rw [if_neg h0, if_pos hT]
  rw [hv]
  exact LG s w h0 hl hT
end
section
open Go.RowKit
open Sym
theorem af.KP (s : List UInt8) (h : (af.bG s).kind = 1) : ae.bQ (af.bG s).num = 0 := by
 unfold af.bG at h ⊢
 split at h
 ·cases h
 rename_i h0
 rw [if_neg h0]
 split at h
 ·cases h
 rename_i h1
 rw [if_neg h1]
 split at h
 ·unfold af.jm at h
  split at h <;> cases h
 rename_i h2
 rw [if_neg h2]
 split at h
 ·cases h
 rename_i h3
 rw [if_neg h3]
 split at h
 ·cases h
 rename_i h4
 rw [if_neg h4]
 cases hR : af.jr s with
 | none => rw [hR] at h; cases h
 | some x =>
   have hg := af.Pn hR
   exact (ae.qM hg.1 hg.2).1
theorem Hy (t : af.VT) (a : Option Addr) (cap : Nat) (w : World) (hw : XV w /\ XR w) (ht : oL w t a cap) : QC 8 #[jk t a cap] w (.bool true) :=
 Hz t a cap w hw.1 hw.2 hw.1.pos ht (fun s w' h hs => MF s w' (hw.1.below h) hs) (fun s w' h hs => LD s w' (zl hw.1.pos h.size) (hw.2.below h) hs) af.KP
  (fun w' h => by have := xZ 1 w' (hw.1.below h).xw (by omega) (by omega)
                  rwa [show Lib.itoa 1 = [49] from Lib.decDigits_one (by omega)] at this)
  (fun w' h => by have := xZ 0 w' (hw.1.below h).xw (by omega) (by omega)
                  rwa [show Lib.itoa 0 = [48] from Lib.decDigits_one (by omega)] at this)
end
section
open Go.ChangeShapes Go.WideShapes Go.ChangeAt Go.RowKit
theorem uA {H : Type} {enc : TypeId × Value -> H} {P : Program} (hl : laidOutB P = true) {W W' : World} (hb : BW W W') :
  ∀ {ts : List TypeId} {vs : List Value} {ds : List (DataW H)} {ps : List MemPlace}, (ts.all fun t => P.readableRec t && decide (t < P.types.size)) = true ->
    DataW.TrodAll enc P W 0 (fun _ => true) true ts vs ds ps -> DataW.TrodAll enc P W' 0 (fun b => decide (b < W.heap.size)) true ts vs ds ps
 | [], [], [], _, _, h => h
 | [], _ :: _, _, _, _, h => h.elim
 | [], [], _ :: _, _, _, h => h.elim
 | _ :: _, [], _, _, _, h => h.elim
 | _ :: _, _ :: _, [], _, _, h => h.elim
 | t :: ts, v :: vs, d :: ds, ps, hr, h => by
   have hlt := h.lt
   obtain ⟨p, q, h1, h2, e⟩ := h
   simp only [List.all_cons, Bool.and_eq_true, decide_eq_true_eq] at hr
   exact ⟨p, q, Below.trod hl hr.1.1 hr.1.2 h1 hb (fun x hx => hlt x (by rw [e]; exact List.mem_append_left _ hx)), uA hl hb (by simpa using hr.2) h2, e⟩
end
section
open Go.ChangeShapes Go.WideShapes Go.ChangeAt Go.RowKit Go.Deep
section
variable {H : Type} {enc : TypeId × Value -> H} {P : Program} {w : World} {base : Nat} {spare : Nat -> Bool} {held : Bool}
theorem tJ {n : Nat} {t : TypeId} {k : IntKind} {u : Value} {y} (ht : P.underlying t = some (.int k)) (h : DataW.trod enc P w base spare held n t [u] = some y) : ∃ m, u = .int k m /\ (Lit.int k m).wf = true := by
 obtain ⟨m, e, -, hw⟩ := DataW.trod_int ht h
 exact ⟨m, by simpa using e, hw⟩
theorem KR {n : Nat} {t : TypeId} {u : Value} {y} (ht : P.underlying t = some .bool) (h : DataW.trod enc P w base spare held n t [u] = some y) : ∃ b, u = .bool b := by
 obtain ⟨m, e, -⟩ := DataW.trod_bool ht h
 exact ⟨m, by simpa using e⟩
theorem xO {n : Nat} {t : TypeId} {u : Value} {y} (ht : P.underlying t = some .string) (h : DataW.trod enc P w base spare held n t [u] = some y) : ∃ l : List UInt8, u = .string (ah l) /\ l.length <= 9223372036854775807 := by
 obtain ⟨s, e, -, hs⟩ := DataW.trod_string ht h
 obtain ⟨l, rfl⟩ := Ux s
 exact ⟨l, by simpa using e, by rw [bW] at hs; exact hs⟩
end
section
variable {H : Type} {enc : TypeId × Value -> H} {w : World} {base : Nat} {spare : Nat -> Bool} {held : Bool}
end
section
variable {H : Type} {enc : TypeId × Value -> H} {w : World} {base : Nat} {spare : Nat -> Bool} {held : Bool}
theorem KG {a : Addr} {n : Nat} {cs : List Value} (h : w.cells? base a n = some cs) : cs.length = n /\ ∀ (j : Nat) (v : Value), cs[j]? = some v -> w.cell? (a.add j) = some v := by
 unfold World.cells? at h
 split at h
 ·have hl := Lib.mapM_length h
  simp only [List.length_range] at hl
  refine ⟨hl, fun j v hv => ?_⟩
  have hj : j < n := by
   have := (List.getElem?_eq_some_iff.1 hv).1
   omega
  obtain ⟨b, hb, hf⟩ := Lib.mapM_at h j j (by simp [hj])
  rw [hb] at hv
  cases hv
  exact hf
 ·cases h
theorem Ib {α : Type} {n : Nat} {P : Nat -> α -> Prop} [Inhabited α] (h : ∀ i, i < n -> ∃ x, P i x) : ∃ f : Nat -> α, ∀ i, i < n -> P i (f i) :=
 ⟨fun i => if hi : i < n then Classical.choose (h i hi) else default, fun i hi => by
  simp only [dif_pos hi]
  exact Classical.choose_spec (h i hi)⟩
theorem J3 : ∀ (fuel : Nat) (cs : List Value) (x : DataW H × List MemPlace), DataW.trod enc Tryz.prog w base spare held fuel 28 cs = some x -> ∃ (t : af.VT) (a : Option Addr) (cap : Nat), cs = lY t (a, cap) /\ oL w t a cap := by
 intro fuel
 induction fuel using Nat.strongRecOn with
 | _ fuel ih =>
 intro cs x h
 obtain ⟨xs, n, rfl, -, hl, hlen, hg⟩ := DataW.trod_struct underlying28 h
 have hc9 : Tryz.prog.cellsOf 28 = 9 := by kernel_rfl
 rw [hc9] at hl
 have hx8 : xs.length = 8 := hlen
 match cs, hl, xs, hx8 with
 | [c0, c1, c2, c3, c4, c5, c6, c7, c8], _, [x0, x1, x2, x3, x4, x5, x6, x7], _ =>
   have g0 : DataW.trod enc Tryz.prog w base spare held n 3 [c0] = some x0 := hg 0 _ rfl
   have g1 : DataW.trod enc Tryz.prog w base spare held n 25 [c1, c2] = some x1 := hg 1 _ rfl
   have g2 : DataW.trod enc Tryz.prog w base spare held n 9 [c3] = some x2 := hg 2 _ rfl
   have g3 : DataW.trod enc Tryz.prog w base spare held n 4 [c4] = some x3 := hg 3 _ rfl
   have g4 : DataW.trod enc Tryz.prog w base spare held n 3 [c5] = some x4 := hg 4 _ rfl
   have g5 : DataW.trod enc Tryz.prog w base spare held n 3 [c6] = some x5 := hg 5 _ rfl
   have g6 : DataW.trod enc Tryz.prog w base spare held n 3 [c7] = some x6 := hg 6 _ rfl
   have g7 : DataW.trod enc Tryz.prog w base spare held n 26 [c8] = some x7 := hg 7 _ rfl
   obtain ⟨k, rfl, -⟩ := tJ underlying3 g0
   obtain ⟨tx, rfl, htx⟩ := xO underlying9 g2
   obtain ⟨on, rfl⟩ := KR underlying4 g3
   obtain ⟨cd, rfl, -⟩ := tJ underlying3 g4
   obtain ⟨R, rfl, -⟩ := tJ underlying3 g5
   obtain ⟨L, rfl, -⟩ := tJ underlying3 g6
   obtain ⟨ys, m, rfl, -, -, Y3, hy⟩ := DataW.trod_struct underlying25 g1
   have hy2 : ys.length = 2 := Y3
   match ys, hy2 with
   | [y0, y1], _ =>
     have f0 : DataW.trod enc Tryz.prog w base spare held m 9 [c1] = some y0 := hy 0 _ rfl
     have f1 : DataW.trod enc Tryz.prog w base spare held m 9 [c2] = some y1 := hy 1 _ rfl
     obtain ⟨n1, rfl, hn1⟩ := xO underlying9 f0
     obtain ⟨n2, rfl, hn2⟩ := xO underlying9 f1
     rcases DataW.trod_slice underlying26 g7 with ⟨e, -⟩ | ⟨ad, len, cap, elems, rest, q, hq, e, -, -, hcap, hmax, hel, hat, -, -⟩
     ·cases e
      refine ⟨⟨k, (n1, n2), tx, on, cd, R, L, []⟩, none, 0, rfl, .mk _ _ _ (fun _ => (none, 0)) ⟨hn1, hn2, htx, by simp⟩ (Nat.le_refl _) (fun _ => rfl) (fun i x hx => by simp at hx) (fun i x hx => by simp at hx)⟩
     ·cases e
      have key : ∀ i, i < len -> ∃ y : af.VT × (Option Addr × Nat), ad.block < w.heap.size /\ (∀ j v, (lY y.1 y.2)[j]? = some v -> w.cell? (ad.add (i * 9 + j)) = some v) /\ oL w y.1 y.2.1 y.2.2 := by
       intro i hi
       have h1 := hat i hi
       rw [List.getElem?_eq_getElem (by omega)] at h1
       obtain ⟨cs', hcs, htr⟩ := Option.bind_eq_some_iff.1 h1
       obtain ⟨t, a, c, e, hv⟩ := ih q (by omega) cs' _ htr
       subst e
       rw [hc9] at hcs
       have hb := (KG hcs).2
       refine ⟨(t, (a, c)), ?_, fun j v hj => ?_, hv⟩
       ·have := World.cells?_block hcs (by omega)
        have e : (ad.add (i * 9)).block = ad.block := by
         unfold Addr.add
         split <;> rfl
        rwa [e] at this
       ·have := hb j v hj
        rwa [Go.Deep.add_add] at this
      have : Inhabited (af.VT × (Option Addr × Nat)) := ⟨(⟨0, ([], []), [], false, 0, 0, 0, []⟩, (none, 0))⟩
      obtain ⟨f, hf⟩ := Ib key
      have hget : ∀ i x, ((List.range len).map fun i => (f i).1)[i]? = some x -> i < len /\ x = (f i).1 := by
       intro i x hx
       rw [List.getElem?_map] at hx
       obtain ⟨j, hj, rfl⟩ := Option.map_eq_some_iff.1 hx
       obtain ⟨hlt, he⟩ := List.getElem?_eq_some_iff.1 hj
       simp only [List.length_range] at hlt
       simp only [List.getElem_range] at he
       subst he
       exact ⟨hlt, rfl⟩
      refine ⟨⟨k, (n1, n2), tx, on, cd, R, L, (List.range len).map fun i => (f i).1⟩, some ad, cap, by simp [lY], .mk _ _ _ (fun i => (f i).2) ⟨hn1, hn2, htx, by unfold maxLen at hmax; simp; omega⟩ (by simpa using hcap) (fun h => by cases h) (fun i x hx => ?_) (fun i x hx => ?_)⟩
      ·obtain ⟨hi, rfl⟩ := hget i x hx
       exact (hf i hi).2.2
      ·obtain ⟨hi, rfl⟩ := hget i x hx
       exact ⟨ad, rfl, (hf i hi).1, (hf i hi).2.1⟩
theorem Ll {v : Value} {r : Reach} {b0 : Nat} {d : DataW H} {p : List MemPlace} (hv : Value.okWide Tryz.prog w r b0 28 v) (h : DataW.Trod enc Tryz.prog w base spare held 28 v d p) : ∃ (t : af.VT) (a : Option Addr) (cap : Nat), v = jk t a cap /\ oL w t a cap := by
 obtain ⟨cs, rfl, -⟩ := okWide_struct underlying28 hv
 obtain ⟨fuel, hf⟩ := h
 obtain ⟨t, a, cap, e, hi⟩ := J3 fuel _ _ hf
 refine ⟨t, a, cap, ?_, hi⟩
 obtain ⟨l⟩ := cs
 have e' : l = lY t (a, cap) := e
 rw [e']; rfl
end
end
end Go.Proofs.YtdkhkfdenlabaaaGreatDoor
