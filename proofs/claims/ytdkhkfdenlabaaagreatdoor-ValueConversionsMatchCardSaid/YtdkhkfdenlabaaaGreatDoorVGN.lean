/- The sG numbers: NatOf, Text, Di -/
import Derived.Test.YtdkhkfdenlabaaaGreatDoorVGG
import Derived.Test.YtdkhkfdenlabaaaGreatDoorVGM
import Derived.Test.YtdkhkfdenlabaaaGreatDoorVGL
import Derived.Test.YtdkhkfdenlabaaaGreatDoorVGA
import Derived.ChangeKeysEq
set_option linter.unusedSimpArgs false
set_option linter.unusedVariables false
set_option maxRecDepth 100000
set_option maxHeartbeats 64000000
namespace Go.Proofs.YtdkhkfdenlabaaaGreatDoor
open Go.Proofs.Tryz
section
open Go.RowKit
open Sym
attribute [local irreducible] Calls Sym.bM ae.nd ae.bu ae.upd
theorem XO : (Tryz.prog.info? 5).map (fun i => (i.zero, i.size, i.bytes)) = some (some (.int .u8 0), 1, 1) := by kernel_rfl
theorem Sym.TS {C : Ctx} {G : eU} {x : Operand} {t u e : TypeId} {g cap n : Nat} {xs : List Value} (i : Nat) (l : List UInt8) (hs : C.P.underlying t = some (.slice e)) (he : C.P.underlying e = some (.int .u8)) (hd : C.P.underlying u = some .string)
  (ri : G i = some (dN e 1 g n cap xs)) (hx : xs = dJ l) : dH C G (.convert t u x) [.any (.slice (some ⟨g, 0, none⟩) n cap)] (.str l) := by
 unfold dH
 intro ρ β w dst ty pos after gd _ hG h
 have e1 : ρ x = .slice (some ⟨g, 0, none⟩) n cap := by simpa [jg, SV.aF, SV.den] using h
 have ho := (hG i _ ri).2
 have hc := dN.cell ho
 have hn : n = l.length := by obtain ⟨-, cur, -, -, -, -, -, h6⟩ := ho; rw [hx] at h6; simp [dJ] at h6; exact h6.symm
 subst hn
 have hr := run_convert_bytes_back (P := C.P) w t u e ⟨g, 0, none⟩ cap l hs he hd (fun j hj => hc j _ (by rw [hx]; simp [dJ, hj]))
 simp [execOp, e1, hr, SV.den, ah]
theorem KD (l : List UInt8) (c : UInt8) {v : Int} (h : v = (c.toNat : Int)) : dJ l ++ [.int .u8 v] = dJ (l ++ [c]) := by subst h; simp [dJ]
theorem ae.Q7 {s : List UInt8} {j : Nat} (h : j < s.length) : ae.ax (s.drop j) = ae.ax (s.drop (j + 1)) + ((s.getD j 0).toNat - 48) * 10 ^ (s.length - (j + 1)) := by
 have e : s.drop j = [s.getD j 0] ++ s.drop (j + 1) := by rw [List.drop_eq_getElem_cons h, List.getD_eq_getElem?_getD, List.getElem?_eq_getElem h]; rfl
 rw [e, ae.val_append, List.length_drop, Nat.add_comm]
 congr 2
 simp [ae.ax, ae.jK, ae.nO]
theorem Kr {p : UInt8 -> Bool} {s : List UInt8} (h : s.all p = true) {j : Nat} (hj : j < s.length) : p (s.getD j 0) = true := by
 rw [List.all_eq_true] at h
 refine h _ ?_
 rw [List.getD_eq_getElem?_getD, List.getElem?_eq_getElem hj]
 exact List.getElem_mem hj
theorem jf (s : List UInt8) (w : World) (hs : s.length <= 1000000) (hd : s.all ae.aY = true) : Calls Tryz.prog 130 #[.string (ah s)] w (iT .i64 10 (ae.ax s) w) := by
 obtain ⟨i0, hi, hz0, hz1, hz2⟩ := info_parts jw
 have hu := underlying70
 have hsz := fun w => sizeOf3 w
 have hzv := fun w => zeroValue3 w
 have ZX : ∀ m, ae.ax (s.drop m) < 10 ^ (s.length - m) := fun m => by
  have h1 := ae.jW _ (Az hd m)
  rw [List.length_drop] at h1
  exact h1
 refine yE func130 rfl results130 ntmps130 [] [] [.str s] w ?_
 repeat' (first | exact ⟨⟩ | refine yG ?_ ?_ | intro _)
 refine loop bF rfl (T := {t : ZL // t.m <= s.length /\ t.i = s.length - t.m}) (fun t => yY [(0, .str s), (4, .int .i64 ((t.1.m : Nat) - 1 : Int))] 3 22 t.1.i t.1.g t.1.cap (dC .i64 (ae.lI 10 t.1.i (ae.ax (s.drop t.1.m))))) (fun t => t.1.m) ⟨⟨0, s.length, 0, 0⟩, Nat.le_refl _, by dsimp only; omega⟩ 1000 [] [] (fun t => by exact Nat.zero_le _) (by dsimp only [yY]; ((with_reducible show wk _ _); repeat' (first | exact trivial | exact au _ | refine eY ?_ | refine eqS ?_ | apply And.intro | exact yV | fail))) (fun t I hI => ?_)
 obtain ⟨⟨i, m, g, cap⟩, hm, hil⟩ := t
 dsimp only at hm hil ⊢
 have hV := ZX m
 rw [<- hil] at hV
 by_cases hm0 : 0 < m
 ·obtain ⟨q, rfl⟩ : ∃ q, m = q + 1 := ⟨m - 1, by omega⟩
  have hcd := ae.jR.1 (Kr hd (j := q) (by omega))
  have Zu := ae.Q7 (s := s) (j := q) (by omega)
  rw [<- hil] at Zu
  have hrow := fun (v : Int) (hv : v = (((s.getD q 0).toNat - 48 : Nat) : Int)) => ae.sH (k := .i64) (b := 10) (i := i) (S := ae.ax (s.drop (q + 1))) (by omega) hV (by omega) hv
  rw [<- Zu] at hrow
  cases i with
  | zero =>
    dsimp only [yY]
    repeat' (first | exact ⟨⟩ | refine yG ?_ ?_ | (refine aI (sz := 1) rfl rfl rfl (xs := [.int .i64 (((s.getD q 0).toNat - 48 : Nat) : Int)]) (fun β => by simp only [SV.aF, SV.den]; congr 2; omega) rfl (by omega) (by omega) hu hsz hzv (fun g1 => ?_)) | (refine iK (sz := 1) 0 rfl hu hi hz0 hz1 rfl (by omega) rfl rfl rfl (by unfold maxLen; omega) (by rw [hz2]; omega) (by simp [Value.oneCell']) (by omega) (fun g2 cap2 => ?_)) | ((with_reducible show ∃ _, _); first | (refine ⟨q, by omega, by omega, ?_⟩)) | intro _)
    refine hI _ ⟨⟨0 + 1, q, g2, cap2⟩, by dsimp only; omega, by dsimp only; omega⟩ (by dsimp only; omega) (by dsimp only [yY]; rw [<- hrow _ rfl]; ((with_reducible show wk _ _); repeat' (first | exact trivial | exact au _ | refine eY ?_ | refine eqS ?_ | apply And.intro | exact yV | fail)); all_goals (exact fun b x h => h))
  | succ i =>
    dsimp only [yY]
    repeat' (first | exact ⟨⟩ | refine yG ?_ ?_ | (refine aI (sz := 1) rfl rfl rfl (xs := [.int .i64 (((s.getD q 0).toNat - 48 : Nat) : Int)]) (fun β => by simp only [SV.aF, SV.den]; congr 2; omega) rfl (by omega) (by omega) hu hsz hzv (fun g1 => ?_)) | (refine fO (sz := 1) 1 2 rfl hu hi hz0 hz1 rfl (by omega) rfl rfl rfl rfl (by unfold maxLen; omega) (by rw [hz2]; omega) (by simp [Value.oneCell']) (by kernel_rfl) (Nat.zero_le _) (fun g2 cap2 => ?_)) | ((with_reducible show ∃ _, _); first | (refine ⟨q, by omega, by omega, ?_⟩)) | intro _)
    refine hI _ ⟨⟨i + 1 + 1, q, g2, cap2⟩, by dsimp only; omega, by dsimp only; omega⟩ (by dsimp only; omega) (by dsimp only [yY]; rw [<- hrow _ rfl]; ((with_reducible show wk _ _); repeat' (first | exact trivial | exact au _ | refine eY ?_ | refine eqS ?_ | apply And.intro | exact yV | fail)); all_goals (exact fun b x h => h))
 ·obtain rfl : m = 0 := by omega
  simp only [List.drop_zero] at hV ⊢
  have hle := ae.dX (b := 10) (by omega) hV
  have hTR := fun a (cap : Nat) (w' : World) hc hs' => mJ a i cap (ae.ax s) w' hV hc (by omega) hs'
  cases i with
  | zero =>
    dsimp only [yY]
    have h0 : ae.nd 10 (ae.ax s) = 0 := by omega
    have e : nv .i64 10 (ae.ax s) = [] := List.length_eq_zero_iff.1 (by rw [jT, h0])
    have hT := fun w' => hTR none 0 w' (Nat.le_refl _) (qJ _ _)
    rw [h0] at hT
    repeat' (first | exact ⟨⟩ | refine yG ?_ ?_ | refine yA (.any (.slice none 0 0)) (fun _ => hT) ?_ | intro _)
    refine ret fun β w' hm => ?_
    exact ⟨none, 0, by rw [h0]; rfl, by rw [e]; exact qJ _ _, fun h => absurd e h, fun _ => rfl, by rw [h0]; exact Nat.le_refl _, hm.below⟩
  | succ i =>
    dsimp only [yY]
    repeat' (first | exact ⟨⟩ | refine yG ?_ ?_ | refine yK (.any (.slice (some ⟨g, 0, none⟩) (ae.nd 10 (ae.ax s)) cap)) (fun β w hm => hTR (some ⟨g, 0, none⟩) cap w (Mem.own hm 1 rfl).2.2 (Mem.own hm 1 rfl).1) ?_ | intro _)
    refine ret fun β w' hm => ?_
    obtain ⟨q1, q2, q3⟩ := Mem.own hm 1 rfl
    exact ⟨_, cap, rfl, kK q1 (ja hle .i64), bY q2 rfl, (fun h => by cases h), Nat.le_trans hle q3, hm.below⟩
abbrev Ku (fr : List (Nat × SV)) (d n i : Nat) (g cap : Nat) (xs : List Value) : St := match i with
 | 0 => ⟨(d, .any (.slice none 0 0)) :: fr, [], 0, n⟩
 | i + 1 => ⟨(d, .any (.slice (some ⟨g, 0, none⟩) (i + 1) cap)) :: fr, [(1, true, .aK (dN 5 1 g (i + 1) cap xs))], 2, n⟩
theorem pR (a : Option Addr) (ca x : Nat) (w : World) (hx : ae.nd 10 x <= 1000000) (hs : aS a (nv .i64 10 x) w) : QC 138 #[.slice a (ae.nd 10 x) ca] w (.string (ah (Lib.decDigits x))) := by
 obtain ⟨i0, hi, hz0, hz1, hz2⟩ := info_parts XO
 have hu := underlying113
 have hsz := fun w => sizeOf5 w
 have hzv := fun w => zeroValue5 w
 refine yE func138 rfl results138 ntmps138 [] [] [.any (.slice a (ae.nd 10 x) ca)] w ?_
 by_cases hx0 : x = 0
 ·subst hx0
  have h0 := ae.aT 10
  repeat' (first | exact ⟨⟩ | refine yG ?_ ?_ | refine yO (aJ underlying70) ?_ | intro _)
  ·show Value.string (ah [48]) = _
   rw [Lib.decDigits_one (by omega)]; rfl
  all_goals (exfalso; omega)
 have hxp := (ae.fM (b := 10) (by omega)).2 (Nat.pos_of_ne_zero hx0)
 obtain ⟨ad, rfl⟩ := aS.some hs (iJ hxp)
 have hgx := fun i (h : i < ae.nd 10 x) => eQ (k := .i64) h
 have tV := fun i => ae.dG (b := 10) (by omega) i x
 have hstep := fun i => ae.DR (x := x) (i := i)
 have htop : ae.rC (x / 10 ^ ae.nd 10 x) = [] := by rw [Nat.div_eq_of_lt (ae.dP (by omega) x)]; rfl
 have hlen : ∀ j, j <= ae.nd 10 x -> (ae.rC (x / 10 ^ j)).length = ae.nd 10 x - j := by
  intro j hj
  obtain ⟨k, hk⟩ : ∃ k, k = ae.nd 10 x - j := ⟨_, rfl⟩
  induction k generalizing j with
  | zero =>
    have : j = ae.nd 10 x := by omega
    subst this
    rw [htop]; simp
  | succ k ih => rw [hstep j (by omega), List.length_append, ih (j + 1) (by omega) (by omega)]; simp; omega
 have Z4 : ae.rC (x / 10 ^ 0) = Lib.decDigits x := by rw [Nat.pow_zero, Nat.div_one, ae.tC (Nat.pos_of_ne_zero hx0)]
 generalize ae.nd 10 x = n at *
 repeat' (first | exact ⟨⟩ | refine yG ?_ ?_ | refine yO (aJ underlying70) ?_ | intro _)
 refine loop bF rfl (T := {t : ZL // t.m <= n /\ t.i = n - t.m}) (fun t => Ku [(0, .any (.slice (some ad) n ca)), (4, .int .i64 ((t.1.m : Nat) - 1 : Int))] 3 26 t.1.i t.1.g t.1.cap (dJ (ae.rC (x / 10 ^ t.1.m)))) (fun t => t.1.m) ⟨⟨0, n, 0, 0⟩, Nat.le_refl _, by dsimp only; omega⟩ 1000 [] [] (fun t => by exact Nat.zero_le _) (by dsimp only [Ku]; ((with_reducible show wk _ _); repeat' (first | exact trivial | exact au _ | refine eY ?_ | refine eqS ?_ | apply And.intro | exact yV | fail))) (fun t I hI => ?_)
 obtain ⟨⟨i, m, g, cap⟩, hm, hil⟩ := t
 dsimp only at hm hil ⊢
 by_cases hm0 : 0 < m
 ·obtain ⟨q, rfl⟩ : ∃ q, m = q + 1 := ⟨m - 1, by omega⟩
  have r1 := dW hs (hgx q (by omega))
  have tV := tV q
  have hstep := hstep q (by omega)
  have hlq := hlen q (by omega)
  generalize ae.bu 10 q x = dx at *
  have hcn : (UInt8.ofNat (48 + dx)).toNat = 48 + dx := by simp; omega
  have hrow := fun (v : Int) (hv : v = (48 : Int) + (dx : Nat)) => KD (ae.rC (x / 10 ^ (q + 1))) (UInt8.ofNat (48 + dx)) (v := v) (by rw [hv, hcn]; simp)
  rw [<- hstep] at hrow
  cases i with
  | zero =>
    have he0 : ae.rC (x / 10 ^ (q + 1)) = [] := List.length_eq_zero_iff.1 (by rw [hlen _ (by omega)]; omega)
    rw [he0] at hrow
    dsimp only [Ku]
    repeat' (first | exact ⟨⟩ | refine yG ?_ ?_ | (refine aI (sz := 1) rfl rfl rfl (xs := [.int .u8 ((48 : Int) + (dx : Nat))]) (fun β => rfl) rfl (by omega) (by omega) hu hsz hzv (fun g1 => ?_)) | (refine iK (sz := 1) 0 rfl hu hi hz0 hz1 rfl (by omega) rfl rfl rfl (by unfold maxLen; omega) (by rw [hz2]; omega) (by simp [Value.oneCell']) (by omega) (fun g2 cap2 => ?_)) | refine yN (j := q) underlying70 sizeOf3 ?_ | refine yO (v := .int .i64 (dx : Nat)) (dh (fun w => isAgg3 w) (fun w' hb β => by rw [Nat.mul_one]; exact r1 w' hb)) ?_ | intro _)
    refine hI _ ⟨⟨0 + 1, q, g2, cap2⟩, by dsimp only; omega, by dsimp only; omega⟩ (by dsimp only; omega) (by dsimp only [Ku]; rw [<- hrow _ rfl]; ((with_reducible show wk _ _); repeat' (first | exact trivial | exact au _ | refine eY ?_ | refine eqS ?_ | apply And.intro | exact yV | fail)); all_goals (exact fun b x h => h))
  | succ i =>
    dsimp only [Ku]
    repeat' (first | exact ⟨⟩ | refine yG ?_ ?_ | (refine aI (sz := 1) rfl rfl rfl (xs := [.int .u8 ((48 : Int) + (dx : Nat))]) (fun β => rfl) rfl (by omega) (by omega) hu hsz hzv (fun g1 => ?_)) | (refine fO (sz := 1) 1 2 rfl hu hi hz0 hz1 rfl (by omega) rfl rfl rfl rfl (by unfold maxLen; omega) (by rw [hz2]; omega) (by simp [Value.oneCell']) (by kernel_rfl) (Nat.zero_le _) (fun g2 cap2 => ?_)) | refine yN (j := q) underlying70 sizeOf3 ?_ | refine yO (v := .int .i64 (dx : Nat)) (dh (fun w => isAgg3 w) (fun w' hb β => by rw [Nat.mul_one]; exact r1 w' hb)) ?_ | intro _)
    refine hI _ ⟨⟨i + 1 + 1, q, g2, cap2⟩, by dsimp only; omega, by dsimp only; omega⟩ (by dsimp only; omega) (by dsimp only [Ku]; rw [<- hrow _ rfl]; ((with_reducible show wk _ _); repeat' (first | exact trivial | exact au _ | refine eY ?_ | refine eqS ?_ | apply And.intro | exact yV | fail)); all_goals (exact fun b x h => h))
 ·obtain rfl : m = 0 := by omega
  rw [Z4]
  cases i with
  | zero => exfalso; omega
  | succ i =>
    dsimp only [Ku]
    repeat' (first | exact ⟨⟩ | refine yG ?_ ?_ | refine yO (Sym.TS 1 (Lib.decDigits x) hu underlying5 underlying9 rfl rfl) ?_ | intro _)
    all_goals rfl
theorem sD (s : List UInt8) (w : World) (hs : s.length <= 9223372036854775807) : QC 136 #[.string (ah s)] w (.bool (ae.dw s)) := by
 refine yE func136 rfl results136 ntmps136 [] [] [.str s] w ?_
 repeat' (first | exact ⟨⟩ | refine yG ?_ ?_ | intro _)
 refine yZ (T := {n : Nat // n <= s.length /\ s.all ae.aY = (s.drop n).all ae.aY}) (fun t => ⟨[(0, .str s), (5, .int .i64 (s.length : Nat)), (6, .int .i64 (t.1 : Nat))], [], 0, 31⟩) (fun t => s.length - t.1) ⟨0, Nat.zero_le _, by simp⟩ [] [] (fun t I hI => ?_)
 obtain ⟨n, hn, hr⟩ := t
 dsimp only
 have hd : n < s.length -> s.drop n = s.getD n 0 :: s.drop (n + 1) := fun h => by rw [List.drop_eq_getElem_cons h, List.getD_eq_getElem?_getD, List.getElem?_eq_getElem h]; rfl
 by_cases hlt : n < s.length
 ·have hdg := ae.jR (c := s.getD n 0)
  have h8 := (s.getD n 0).toNat_lt
  rw [hd hlt, List.all_cons] at hr
  by_cases hc : ae.aY (s.getD n 0) = true
  ·have := hdg.1 hc
   repeat' (first | exact ⟨⟩ | refine yG ?_ ?_ | ((with_reducible show ∃ _, _); first | (refine ⟨n, rfl, by omega, ?_⟩)) | intro _)
   refine hI _ ⟨n + 1, by omega, by rw [hr, hc]; rfl⟩ (by dsimp only; omega) yW
  ·have hc2 : ¬ (48 <= (s.getD n 0).toNat /\ (s.getD n 0).toNat <= 57) := fun h => hc (hdg.2 h)
   have hall : s.all ae.aY = false := by rw [hr, Bool.eq_false_iff.2 hc]; rfl
   have hf : ae.dw s = false := by unfold ae.dw; rw [hall]; simp
   rw [hf]
   repeat' (first | exact ⟨⟩ | refine yG ?_ ?_ | ((with_reducible show ∃ _, _); first | (refine ⟨n, rfl, by omega, ?_⟩)) | intro _)
   all_goals rfl
 ·rw [List.drop_eq_nil_of_le (by omega), List.all_nil] at hr
  unfold ae.dw
  rw [hr]
  cases s with
  | nil =>
    repeat' (first | exact ⟨⟩ | refine yG ?_ ?_ | intro _)
    all_goals rfl
  | cons c r =>
    have e0 : (c :: r).getD 0 0 = c := rfl
    by_cases h48 : c = 48
    ·subst h48
     have e1 : (((48 : UInt8) :: r).getD 0 0).toNat = 48 := rfl
     repeat' (first | exact ⟨⟩ | refine yG ?_ ?_ | ((with_reducible show ∃ _, _); first | (refine ⟨0, rfl, by simp, ?_⟩)) | intro _)
     all_goals (clear hI hd hr)
     all_goals first | (exfalso; omega) | (exfalso; simp_all; done) | skip
     all_goals (
      simp only [SV.den]
      congr 1
      cases r with
      | nil => simp
      | cons d r => simp)
    ·have hn : ¬ c.toNat = 48 := fun e => h48 (UInt8.toNat_inj.1 e)
     have e1 : ((c :: r).getD 0 0).toNat = c.toNat := rfl
     repeat' (first | exact ⟨⟩ | refine yG ?_ ?_ | ((with_reducible show ∃ _, _); first | (refine ⟨0, rfl, by simp, ?_⟩)) | intro _)
     all_goals (clear hI hd hr)
     all_goals first | (exfalso; omega) | (exfalso; simp_all; done) | skip
     all_goals (
      simp [SV.den, h48])
theorem ae.Na {g : Nat} : Lib.decDigits g = [49] ↔ g = 1 := by
 constructor
 ·intro h
  have := ae.oI g
  rw [h] at this
  exact this.symm
 ·rintro rfl
  rw [Lib.decDigits_one (by omega)]; rfl
theorem ae.AY (f : List UInt8) (h : f ≠ []) : (∃ r, f = 45 :: r /\ ae.aO f = (r, true)) \/ (∃ c r, f = c :: r /\ c.toNat ≠ 45 /\ ae.aO f = (c :: r, false)) := by
 cases f with
 | nil => exact absurd rfl h
 | cons c r =>
   by_cases hc : c = 45
   ·subst hc; exact .inl ⟨r, rfl, by simp [ae.aO]⟩
   ·exact .inr ⟨c, r, rfl, fun e => hc (UInt8.toNat_inj.1 e), by simp [ae.aO, hc]⟩
theorem Dv (f : ae.Fr) (w : World) (hw0 : 0 < w.heap.size) (h1 : f.1.length <= 9223372036854775807) (h2 : f.2.length <= 9223372036854775807) :
  QC 73 #[iI f] w (.int .i64 (ae.bQ f)) := by
 obtain ⟨f1, f2⟩ := f
 dsimp only at *
 have hE : ae.bQ (f1, f2) = if ae.dw (ae.aO f1).1 = false \/ ae.dw f2 = false \/ f2 = [48] \/ ((ae.aO f1).1 = [48] /\ (ae.aO f1).2 = true) then 4
  else if 300 < (ae.aO f1).1.length \/ 300 < f2.length then 3
  else if Nat.gcd (ae.ax (ae.aO f1).1) (ae.ax f2) ≠ 1 then 4 else 0 := rfl
 generalize ae.bQ (f1, f2) = E at *
 by_cases h0 : f1 = []
 ·subst h0
  rw [if_pos (.inl rfl)] at hE
  subst hE
  have hD := fun w => sD [] w (by simp)
  rw [show ae.dw [] = false from rfl] at hD
  refine yE func73 rfl results73 ntmps73 [] [200008] [.agg [.str [], .str f2]] w ?_
  repeat' (first | exact ⟨⟩ | refine yG ?_ ?_ | refine yA (.lit false) (fun _ => hD) ?_ | intro _)
  all_goals rfl
 have hL := iP f1
 have hD1 := fun w => sD (ae.aO f1).1 w (by omega)
 have hD2 := fun w => sD f2 w (by omega)
 have hs1 := fun h => ae.jb (s := (ae.aO f1).1) h
 have hs2 := fun h => ae.jb (s := f2) h
 have hp2 := fun h => ae.wY (s := f2) h
 have hF := ae.AY f1 h0
 generalize ae.aO f1 = sm at *
 obtain ⟨s, m⟩ := sm
 dsimp only at *
 generalize ae.dw s = d1 at *
 generalize ae.dw f2 = d2 at *
 by_cases hbad : d1 = false \/ d2 = false \/ f2 = [48] \/ (s = [48] /\ m = true)
 ·rw [if_pos hbad] at hE
  subst hE
  rcases hF with ⟨r, rfl, e⟩ | ⟨c, r, rfl, hc, e⟩
  ·cases e
   have hdl : (List.drop 1 ((45 : UInt8) :: s)).length = s.length := rfl
   refine yE func73 rfl results73 ntmps73 [] [200008] [.agg [.str (45 :: s), .str f2]] w ?_
   repeat' (first | exact ⟨⟩ | refine yG ?_ ?_ | refine yA (.bool d1) (fun _ => hD1) ?_ | refine yA (.bool d2) (fun _ => hD2) ?_ | ((with_reducible show ∃ _, _); first | (refine ⟨0, rfl, by simp, ?_⟩) | (refine ⟨1, rfl, by simp, ?_⟩)) | intro _)
   all_goals first | rfl | (exfalso; exact hm0 ⟨(by assumption : List.drop 1 ((45 : UInt8) :: s) = [48]), rfl⟩) | (exfalso; simp_all; done) | skip
  ·cases e
   have hc0 : ((c :: r : List UInt8).getD 0 0).toNat = c.toNat := rfl
   refine yE func73 rfl results73 ntmps73 [] [200008] [.agg [.str (c :: r), .str f2]] w ?_
   repeat' (first | exact ⟨⟩ | refine yG ?_ ?_ | refine yA (.bool d1) (fun _ => hD1) ?_ | refine yA (.bool d2) (fun _ => hD2) ?_ | ((with_reducible show ∃ _, _); first | (refine ⟨0, rfl, by simp, ?_⟩) | (refine ⟨1, rfl, by simp, ?_⟩)) | intro _)
   all_goals first | rfl | (exfalso; exact hm0 ⟨(by assumption : List.drop 1 ((45 : UInt8) :: s) = [48]), rfl⟩) | (exfalso; simp_all; done) | (exfalso; omega) | skip
 rw [if_neg hbad] at hE
 simp only [not_or, Bool.not_eq_false] at hbad
 obtain ⟨rfl, rfl, hz, hm0⟩ := hbad
 obtain ⟨-, ha1⟩ := hs1 rfl
 obtain ⟨-, ha2⟩ := hs2 rfl
 by_cases hlen : 300 < s.length \/ 300 < f2.length
 ·rw [if_pos hlen] at hE
  subst hE
  rcases hF with ⟨r, rfl, e⟩ | ⟨c, r, rfl, hc, e⟩
  ·cases e
   have hdl : (List.drop 1 ((45 : UInt8) :: s)).length = s.length := rfl
   refine yE func73 rfl results73 ntmps73 [] [200008] [.agg [.str (45 :: s), .str f2]] w ?_
   repeat' (first | exact ⟨⟩ | refine yG ?_ ?_ | refine yA (.lit true) (fun _ => hD1) ?_ | refine yA (.lit true) (fun _ => hD2) ?_ | ((with_reducible show ∃ _, _); first | (refine ⟨0, rfl, by simp, ?_⟩) | (refine ⟨1, rfl, by simp, ?_⟩)) | intro _)
   all_goals first | rfl | (exfalso; exact hm0 ⟨(by assumption : List.drop 1 ((45 : UInt8) :: s) = [48]), rfl⟩) | (exfalso; simp_all; done) | (exfalso; omega) | skip
  ·cases e
   have hc0 : ((c :: r : List UInt8).getD 0 0).toNat = c.toNat := rfl
   refine yE func73 rfl results73 ntmps73 [] [200008] [.agg [.str (c :: r), .str f2]] w ?_
   repeat' (first | exact ⟨⟩ | refine yG ?_ ?_ | refine yA (.lit true) (fun _ => hD1) ?_ | refine yA (.lit true) (fun _ => hD2) ?_ | ((with_reducible show ∃ _, _); first | (refine ⟨0, rfl, by simp, ?_⟩) | (refine ⟨1, rfl, by simp, ?_⟩)) | intro _)
   all_goals first | rfl | (exfalso; exact hm0 ⟨(by assumption : List.drop 1 ((45 : UInt8) :: s) = [48]), rfl⟩) | (exfalso; simp_all; done) | (exfalso; omega) | skip
 rw [if_neg hlen] at hE
 have hP1 := fun w => jf s w (by omega) ha1
 have hP2 := fun w => jf f2 w (by omega) ha2
 have hn1 := ae.qG (b := 10) (by omega) ha1
 have hn2 := ae.qG (b := 10) (by omega) ha2
 have hv2 := hp2 rfl hz
 generalize ae.ax s = x at *
 generalize ae.ax f2 = y at *
 have hgn := ae.dD (b := 10) (by omega) (Nat.gcd_le_right x hv2)
 have hT := fun a c w' h => pR a c (Nat.gcd x y) w' (by omega) h
 have hd := ae.Na (g := Nat.gcd x y)
 rw [show (if Nat.gcd x y ≠ 1 then (4 : Int) else 0) = if ¬ Lib.decDigits (Nat.gcd x y) = [49] then 4 else 0 by simp only [ne_eq, hd]] at hE
 generalize Lib.decDigits (Nat.gcd x y) = dt at *
 rcases hF with ⟨r, rfl, e⟩ | ⟨c, r, rfl, hc, e⟩
 ·cases e
  have hdl : (List.drop 1 ((45 : UInt8) :: s)).length = s.length := rfl
  refine yE func73 rfl results73 ntmps73 [] [200008] [.agg [.str (45 :: s), .str f2]] w ?_
  repeat' (first | exact ⟨⟩ | refine yG ?_ ?_ | refine yA (.lit true) (fun _ => hD1) ?_ | refine yA (.lit true) (fun _ => hD2) ?_ | (refine aH .i64 10 x hw0 (by kernel_rfl) rfl (fun β w' hm => hP1 w') (fun a1 c1 q1 q2 q3 => ?_)) | (refine aH .i64 10 y hw0 (by kernel_rfl) rfl (fun β w' hm => hP2 w') (fun a2 c2 q4 q5 q6 => ?_)) | (refine mQ (Lz x a1 (Lz y a2 [])) .i64 10 (Nat.gcd x y) hw0 (by kernel_rfl) rfl (by repeat (first | exact iD | refine cu 1 (Nat.le_of_ble_eq_true rfl) rfl ?_ | refine cu 2 (Nat.le_of_ble_eq_true rfl) rfl ?_ | refine cu 3 (Nat.le_of_ble_eq_true rfl) rfl ?_ | refine cu 4 (Nat.le_of_ble_eq_true rfl) rfl ?_ | refine cu 5 (Nat.le_of_ble_eq_true rfl) rfl ?_)) (fun β w' hm => CB _ a1 a2 c1 c2 x y w' (zl hw0 hm.aU) (by omega) (by omega) q1 q2 q4 q5 uz (fun h => Ar (uz h)) (df hm) (df hm)) (fun a3 c3 q7 q8 q9 => ?_)) | refine yK (.str dt) (fun β w hm => hT a3 c3 w (df hm)) ?_ | ((with_reducible show ∃ _, _); first | (refine ⟨0, rfl, by simp, ?_⟩) | (refine ⟨1, rfl, by simp, ?_⟩)) | intro _)
  all_goals first | (exfalso; exact hm0 ⟨(by assumption : List.drop 1 ((45 : UInt8) :: s) = [48]), rfl⟩) | (exfalso; simp_all; done) | (exfalso; omega) | (simp_all [SV.den]; done) | skip
 ·cases e
  have hc0 : ((c :: r : List UInt8).getD 0 0).toNat = c.toNat := rfl
  refine yE func73 rfl results73 ntmps73 [] [200008] [.agg [.str (c :: r), .str f2]] w ?_
  repeat' (first | exact ⟨⟩ | refine yG ?_ ?_ | refine yA (.lit true) (fun _ => hD1) ?_ | refine yA (.lit true) (fun _ => hD2) ?_ | (refine aH .i64 10 x hw0 (by kernel_rfl) rfl (fun β w' hm => hP1 w') (fun a1 c1 q1 q2 q3 => ?_)) | (refine aH .i64 10 y hw0 (by kernel_rfl) rfl (fun β w' hm => hP2 w') (fun a2 c2 q4 q5 q6 => ?_)) | (refine mQ (Lz x a1 (Lz y a2 [])) .i64 10 (Nat.gcd x y) hw0 (by kernel_rfl) rfl (by repeat (first | exact iD | refine cu 1 (Nat.le_of_ble_eq_true rfl) rfl ?_ | refine cu 2 (Nat.le_of_ble_eq_true rfl) rfl ?_ | refine cu 3 (Nat.le_of_ble_eq_true rfl) rfl ?_ | refine cu 4 (Nat.le_of_ble_eq_true rfl) rfl ?_ | refine cu 5 (Nat.le_of_ble_eq_true rfl) rfl ?_)) (fun β w' hm => CB _ a1 a2 c1 c2 x y w' (zl hw0 hm.aU) (by omega) (by omega) q1 q2 q4 q5 uz (fun h => Ar (uz h)) (df hm) (df hm)) (fun a3 c3 q7 q8 q9 => ?_)) | refine yK (.str dt) (fun β w hm => hT a3 c3 w (df hm)) ?_ | ((with_reducible show ∃ _, _); first | (refine ⟨0, rfl, by simp, ?_⟩) | (refine ⟨1, rfl, by simp, ?_⟩)) | intro _)
  all_goals first | (exfalso; exact hm0 ⟨(by assumption : List.drop 1 ((45 : UInt8) :: s) = [48]), rfl⟩) | (exfalso; simp_all; done) | (exfalso; omega) | (simp_all [SV.den]; done) | skip
theorem yg (f : ae.Fr) (w : World) (hw0 : 0 < w.heap.size) (hE : ae.bQ f = 0) :
  Calls Tryz.prog 99 #[iI f] w (fF .i64 10 (ae.az f) w) := by
 obtain ⟨h1, h2, h3, h4, h5, h6, h7⟩ := ae.Ak hE
 obtain ⟨f1, f2⟩ := f
 dsimp only at *
 have hN : ae.az (f1, f2) = ⟨(ae.aO f1).2, ae.ax (ae.aO f1).1, ae.ax f2⟩ := rfl
 rw [hN]
 have h0 : f1 ≠ [] := by rintro rfl; exact absurd h1 (by decide)
 have hP1 := fun w => jf (ae.aO f1).1 w (by omega) (ae.jb h1).2
 have hP2 := fun w => jf f2 w (by omega) (ae.jb h2).2
 have hF := ae.AY f1 h0
 clear hN h6 h7 hE h1 h2
 generalize ae.aO f1 = sm at *
 obtain ⟨s, m⟩ := sm
 dsimp only at *
 generalize ae.ax s = x at *
 generalize ae.ax f2 = y at *
 rcases hF with ⟨r, rfl, e⟩ | ⟨c, r, rfl, hc, e⟩
 ·cases e
  refine yE func99 rfl results99 ntmps99 [] [200002, 200003] [.agg [.str (45 :: s), .str f2]] w ?_
  repeat' (first | exact ⟨⟩ | refine yG ?_ ?_ | (refine aH .i64 10 x hw0 (by kernel_rfl) rfl (fun β w' hm => hP1 w') (fun a1 c1 q1 q2 q3 => ?_)) | (refine aH .i64 10 y hw0 (by kernel_rfl) rfl (fun β w' hm => hP2 w') (fun a2 c2 q4 q5 q6 => ?_)) | ((with_reducible show ∃ _, _); first | (refine ⟨0, rfl, by simp, ?_⟩) | (refine ⟨1, rfl, by simp, ?_⟩)) | intro _)
  all_goals first | (exfalso; simp_all; done) | skip
  all_goals refine ret fun β w' hm => ?_
  all_goals exact ⟨⟨_, _, _, a1, c1, a2, c2⟩, rfl, rfl, ⟨q1, q4, q2, q5⟩, oK (df hm) (nS hm) (df hm) (nS hm), hm.below⟩
 ·cases e
  have hc0 : ((c :: r : List UInt8).getD 0 0).toNat = c.toNat := rfl
  refine yE func99 rfl results99 ntmps99 [] [200002, 200003] [.agg [.str (c :: r), .str f2]] w ?_
  repeat' (first | exact ⟨⟩ | refine yG ?_ ?_ | (refine aH .i64 10 x hw0 (by kernel_rfl) rfl (fun β w' hm => hP1 w') (fun a1 c1 q1 q2 q3 => ?_)) | (refine aH .i64 10 y hw0 (by kernel_rfl) rfl (fun β w' hm => hP2 w') (fun a2 c2 q4 q5 q6 => ?_)) | ((with_reducible show ∃ _, _); first | (refine ⟨0, rfl, by simp, ?_⟩) | (refine ⟨1, rfl, by simp, ?_⟩)) | intro _)
  all_goals first | (exfalso; omega) | skip
  all_goals refine ret fun β w' hm => ?_
  all_goals exact ⟨⟨_, _, _, a1, c1, a2, c2⟩, rfl, rfl, ⟨q1, q4, q2, q5⟩, oK (df hm) (nS hm) (df hm) (nS hm), hm.below⟩
theorem kH (x : bI) (w : World) (hw0 : 0 < w.heap.size) (hx : aX .i64 10 x w) (hd : 0 < x.d)
  (ng : ae.nd 10 x.n <= 1000000) (hxd : ae.nd 10 x.d <= 1000000) :
  Calls Tryz.prog 103 #[x.val 10] w (fQ (ae.ak x.num) (ae.ay x.num) w) := by
 obtain ⟨m, n, d, a, c, b, e⟩ := x
 obtain ⟨hx1, hx2, ⟨hx3, hx4, hx5, hx6⟩⟩ := hx
 dsimp only [bI.num, bI.val] at *
 have hF : ae.ak ⟨m, n, d⟩ = if n = 0 then ([48], [49]) else if (300 < (Lib.decDigits (n / Nat.gcd n d)).length \/ 300 < (Lib.decDigits (d / Nat.gcd n d)).length) then ([], []) else (ae.pU m (Lib.decDigits (n / Nat.gcd n d)), Lib.decDigits (d / Nat.gcd n d)) := rfl
 have hE : ae.ay ⟨m, n, d⟩ = if n = 0 then 0 else if (300 < (Lib.decDigits (n / Nat.gcd n d)).length \/ 300 < (Lib.decDigits (d / Nat.gcd n d)).length) then 19 else 0 := rfl
 have Zy := fun h => ae.NR (x := ⟨m, n, d⟩) h hd
 simp only [ae.gI, ae.iq] at Zy
 generalize ae.ak ⟨m, n, d⟩ = F at *
 generalize ae.ay ⟨m, n, d⟩ = E at *
 by_cases hn : n = 0
 ·rw [if_pos hn] at hF hE
  have h0 := ae.aT 10
  subst hF hE hn
  refine yE func103 rfl results103 ntmps103 [] [] [.agg [.bool m, .any (.slice a (ae.nd 10 0) c), .any (.slice b (ae.nd 10 d) e)]] w ?_
  repeat' (first | exact ⟨⟩ | refine yG ?_ ?_ | refine yO (aJ underlying70) ?_ | intro _)
  all_goals first | rfl | (exfalso; omega)
 ·rw [if_neg hn] at hF hE
  have X9 := Nat.pos_of_ne_zero hn
  have hnn := (ae.fM (b := 10) (by omega)).2 X9
  obtain ⟨hr1, hr2⟩ := Zy X9
  have hg := Nat.gcd_pos_of_pos_left d X9
  have hgn := ae.dD (b := 10) (by omega) (Nat.gcd_le_right n hd)
  have hG := fun (w' : World) (h : BW w w') => CB (Lz n a (Lz d b [])) a b c e n d w' (zl hw0 h.size) (by omega) (by omega) hx3 hx5 hx4 hx6 uz (fun h => Ar (uz h)) (hx1.below h) (hx2.below h)
  generalize Nat.gcd n d = g at *
  have hq1 := ae.dD (b := 10) (by omega) (Nat.div_le_self n g)
  have hq2 := ae.dD (b := 10) (by omega) (Nat.div_le_self d g)
  have hD1 := fun (a3 : Option Addr) c3 (w' : World) (h : BW w w') h2 => oG a a3 c c3 n g w' (zl hw0 h.size) (by omega) (by omega) hg (hx1.below h) h2
  have hD2 := fun (a3 : Option Addr) c3 (w' : World) (h : BW w w') h2 => oG b a3 e c3 d g w' (zl hw0 h.size) (by omega) (by omega) hg (hx2.below h) h2
  rw [ae.uV hr1, ae.uV hr2] at hF hE
  clear Zy
  generalize n / g = q1 at *
  generalize d / g = q2 at *
  generalize n % g = r1 at *
  generalize d % g = r2 at *
  have hT1 := fun a cap w' => pR a cap q1 w' (by omega)
  have hT2 := fun a cap w' => pR a cap q2 w' (by omega)
  have hl1 := ae.uV hr1
  generalize Lib.decDigits q1 = s1 at *
  generalize Lib.decDigits q2 = s2 at *
  refine yE func103 rfl results103 ntmps103 [] [200008] [.agg [.bool m, .any (.slice a (ae.nd 10 n) c), .any (.slice b (ae.nd 10 d) e)]] w ?_
  repeat' (first | exact ⟨⟩ | refine yG ?_ ?_ | (refine mQ (Lz n a (Lz d b [])) .i64 10 g hw0 (by kernel_rfl) rfl (jE (Nat.le_of_ble_eq_true rfl) hx1 rfl (jE (Nat.le_of_ble_eq_true rfl) hx2 rfl iD)) (fun β w' hm => hG w' hm.below) (fun a3 c3 h1 h2 h3 => ?_)) | (refine fU .i64 10 q1 r1 hw0 (by kernel_rfl) rfl (fun β w' hm => hD1 a3 c3 w' hm.below (hm.Tz 2 rfl)) (fun qa qc ra rc k1 k2 k3 k4 k5 k6 => ?_)) | (refine fU .i64 10 q2 r2 hw0 (by kernel_rfl) rfl (fun β w' hm => hD2 a3 c3 w' hm.below (hm.Tz 2 rfl)) (fun qb qd rb rd k7 k8 k9 k10 k11 k12 => ?_)) | refine yK (.str s1) (fun β w hm => hT1 qa qc w (hm.dS 3 rfl)) ?_ | refine yK (.str s2) (fun β w hm => hT2 qb qd w (hm.dS 5 rfl)) ?_ | refine yO (aJ underlying70) ?_ | intro _)
  all_goals first | (exfalso; omega) | skip
  all_goals first
   | (rw [if_pos (by omega)] at hF hE; subst hF hE; rfl)
   | (rw [if_neg (by omega)] at hF hE; subst hF hE; simp_all [SV.den, SV.aF, ae.pU]; done)
end
section
open Go.RowKit
theorem Rf {P : Program} {w : World} {d : Nat} {xs ys : Array Value} {f : Field} {fs : List Field} {r r2 : Bool} (a b : Value) (hn : f.name ≠ "_") (ha : (part f.type xs f.offset).run P w = .ok a w) (hb : (part f.type ys f.offset).run P w = .ok b w)
  (he : (Op.equalIn d f.type a b).run P w = .ok r w) (hr : (Op.eqFields d xs ys fs).run P w = .ok r2 w) : (Op.eqFields d xs ys (f :: fs)).run P w = .ok (r && r2) w := by
 unfold Op.eqFields
 rw [if_pos hn]
 simp only [Sem.run_bind, ha, hb, he, Result.andThen_ok]
 cases r
 ·simp
 ·simp [hr]
theorem UO {P : Program} {w : World} {d : Nat} {xs ys : Array Value} : (Op.eqFields d xs ys []).run P w = .ok true w := rfl
def ZM : Value -> Value -> Bool
 | .int _ a, .int _ b => a == b
 | .bool a, .bool b => a == b
 | .string a, .string b => a.toList == b.toList
 | _, _ => false
def UD : List Value -> List Value -> Bool
 | a :: ra, b :: rb => ZM a b && UD ra rb
 | _, _ => true
inductive CK where
 | int (k : IntKind)
 | bool
 | str
def Hm : Value -> Option CK
 | .int k _ => some (.int k)
 | .bool _ => some .bool
 | .string _ => some .str
 | _ => none
def CK.fits (P : Program) (t : TypeId) : CK -> Prop
 | .int k => P.underlying t = some (.int k)
 | .bool => P.underlying t = some .bool
 | .str => P.underlying t = some .string
def Flat (P : Program) : List Field -> List CK -> Nat -> Prop
 | [], [], _ => True
 | f :: fs, k :: ks, i => f.name ≠ "_" /\ f.offset = i /\ P.plainKey f.type = true /\ k.fits P f.type /\ Flat P fs ks (i + 1)
 | _, _, _ => False
def CK.ok (P : Program) (t : TypeId) (k : CK) : Bool := match k, P.underlying t with
 | .int k, some (.int k') => decide (k = k')
 | .bool, some .bool => true
 | .str, some .string => true
 | _, _ => false
theorem CK.Vy {P : Program} {t : TypeId} {k : CK} (h : k.ok P t = true) : k.fits P t := by
 unfold CK.ok at h
 split at h
 ·rename_i e; have := of_decide_eq_true h; subst this; exact e
 ·rename_i e; exact e
 ·rename_i e; exact e
 ·cases h
def Rk (P : Program) : List Field -> List CK -> Nat -> Bool
 | [], [], _ => true
 | f :: fs, k :: ks, i => f.name != "_" && (f.offset == i && (P.plainKey f.type && (k.ok P f.type && Rk P fs ks (i + 1))))
 | _, _, _ => false
theorem Nl {P : Program} : ∀ (fs : List Field) (ks : List CK) (i : Nat), Rk P fs ks i = true -> Flat P fs ks i
 | [], [], _, _ => trivial
 | f :: fs, k :: ks, i, h => by
   simp only [Rk, Bool.and_eq_true, bne_iff_ne, beq_iff_eq] at h
   exact ⟨h.1, h.2.1, h.2.2.1, CK.Vy h.2.2.2.1, Nl fs ks (i + 1) h.2.2.2.2⟩
 | [], _ :: _, _, h => by cases h
 | _ :: _, [], _, h => by cases h
theorem UC {P : Program} {w : World} {d : Nat} {t : TypeId} {k : CK} {a b : Value} (h : k.fits P t) (ha : Hm a = some k) (hb : Hm b = some k) : (Op.equalIn (d + 1) t a b).run P w = .ok (ZM a b) w := by
 cases a <;> simp only [Hm] at ha <;> cases b <;> simp only [Hm] at hb <;> first | (cases ha; done) | (cases hb; done) | skip
 all_goals (injection ha with ha; injection hb with hb; subst ha)
 all_goals (try (cases hb; done))
 ·exact run_equalIn_bool' w d t _ _ h
 ·injection hb with hb; subst hb; exact run_equalIn_int w d t _ _ _ _ h
 ·exact run_equalIn_string w d t _ _ h
theorem Nk {P : Program} {w : World} {d : Nat} {xs ys : Array Value} : ∀ (fs : List Field) (ks : List CK) (i : Nat), Flat P fs ks i -> (xs.toList.drop i).map Hm = ks.map some -> (ys.toList.drop i).map Hm = ks.map some ->
  (Op.eqFields (d + 1) xs ys fs).run P w = .ok (UD (xs.toList.drop i) (ys.toList.drop i)) w
 | [], [], i, _, hx, hy => by
   have h1 : xs.toList.drop i = [] := by simpa using hx
   rw [h1]; exact UO
 | f :: fs, k :: ks, i, hf, hx, hy => by
   obtain ⟨h1, h2, h3, h4, h5⟩ := hf
   cases ex : xs.toList.drop i with
   | nil => rw [ex] at hx; simp at hx
   | cons a ra =>
     cases ey : ys.toList.drop i with
     | nil => rw [ey] at hy; simp at hy
     | cons b rb =>
       rw [ex] at hx; rw [ey] at hy
       simp only [List.map_cons, List.cons.injEq] at hx hy
       have dx : xs.toList.drop (i + 1) = ra := by rw [<- List.drop_drop, ex]; rfl
       have dy : ys.toList.drop (i + 1) = rb := by rw [<- List.drop_drop, ey]; rfl
       have gx : xs[i]? = some a := by rw [<- Array.getElem?_toList, <- List.head?_drop, ex]; rfl
       have gy : ys[i]? = some b := by rw [<- Array.getElem?_toList, <- List.head?_drop, ey]; rfl
       have ih := Nk (w := w) (d := d) (xs := xs) (ys := ys) fs ks (i + 1) h5 (by rw [dx]; exact hx.2) (by rw [dy]; exact hy.2)
       rw [dx, dy] at ih
       exact Rf a b h1 (by rw [h2]; exact run_part_plain w h3 gx) (by rw [h2]; exact run_part_plain w h3 gy) (UC h4 hx.1 hy.1) ih
 | [], _ :: _, _, hf, _, _ => hf.elim
 | _ :: _, [], _, hf, _, _ => hf.elim
theorem WN {P : Program} (w : World) (t : TypeId) (xs ys : Array Value) (ks : List CK) (ht : P.underlying t = some (.struct (P.fieldsOf t))) (hp : P.stoodInHeld t = false) (hf : Flat P (P.fieldsOf t).toList ks 0) (hx : xs.toList.map Hm = ks.map some) (hy : ys.toList.map Hm = ks.map some) :
  (Op.equalIn 10000 t (.agg xs) (.agg ys)).run P w = .ok (UD xs.toList ys.toList) w := by
 rw [run_equalIn_agg w 9999 t xs ys ht hp]
 exact Nk (d := 9998) _ ks 0 hf hx hy
end
section
open Go.RowKit
open Sym
attribute [local irreducible] Calls Sym.bM ae.nd ae.bu ae.upd
theorem wO (x y : bI) (w : World) (hw0 : 0 < w.heap.size) (hx : aX .i64 10 x w) (hy : aX .i64 10 y w)
  (ng : ae.nd 10 x.n <= 1000000) (hxd : ae.nd 10 x.d <= 1000000) (hyn : ae.nd 10 y.n <= 1000000) (RF : ae.nd 10 y.d <= 1000000) :
  Calls Tryz.prog 131 #[x.val 10, y.val 10] w (fF .i64 10 (ae.fP x.num y.num) w) := by
 obtain ⟨xm, xn, xd, xa, xc, xb, xe⟩ := x
 obtain ⟨ym, yn, yd, ya, yc, yb, ye⟩ := y
 obtain ⟨hx1, hx2, ⟨hx3, hx4, hx5, hx6⟩⟩ := hx
 obtain ⟨hy1, hy2, ⟨hy3, hy4, Y1, Y2⟩⟩ := hy
 dsimp only [bI.num, bI.val] at *
 have T1 := fun (w' : World) (h : BW w w') => jD xa yb xc ye xn yd w' (by omega) (by omega) (hx1.below h) (hy2.below h)
 have T2 := fun (w' : World) (h : BW w w') => jD ya xb yc xe yn xd w' (by omega) (by omega) (hy1.below h) (hx2.below h)
 have T3 := fun (w' : World) (h : BW w w') => jD xb yb xe ye xd yd w' (by omega) (by omega) (hx2.below h) (hy2.below h)
 have m1 := ae.iV (b := 10) (x := xn) (y := yd) (by omega)
 have m2 := ae.iV (b := 10) (x := yn) (y := xd) (by omega)
 have hge := ae.MQ (x := xn * yd) (y := yn * xd)
 by_cases hm : xm = ym
 ·have hS : ae.fP ⟨xm, xn, xd⟩ ⟨ym, yn, yd⟩ = ⟨xm, xn * yd + yn * xd, xd * yd⟩ := by simp [ae.fP, hm]
  rw [hS]
  obtain rfl : xm = ym := hm
  refine yE func131 rfl results131 ntmps131 [] [200001, 100003, 100005, 100007] [.agg [.bool xm, .any (.slice xa (ae.nd 10 xn) xc), .any (.slice xb (ae.nd 10 xd) xe)], .agg [.bool xm, .any (.slice ya (ae.nd 10 yn) yc), .any (.slice yb (ae.nd 10 yd) ye)]] w ?_
  repeat' (first | exact ⟨⟩ | refine yG ?_ ?_ | (refine aH .i64 10 (xn * yd) hw0 (by kernel_rfl) rfl (fun β w' hm => T1 w' hm.below) (fun a1 c1 h1 h2 h3 => ?_)) | (refine aH .i64 10 (yn * xd) hw0 (by kernel_rfl) rfl (fun β w' hm => T2 w' hm.below) (fun a2 c2 h4 h5 h6 => ?_)) | (refine aH .i64 10 (xd * yd) hw0 (by kernel_rfl) rfl (fun β w' hm => T3 w' hm.below) (fun a3 c3 h7 h8 h9 => ?_)) | (refine aH .i64 10 (xn * yd + yn * xd) hw0 (by kernel_rfl) rfl (fun β w' hm => yx a1 a2 c1 c2 _ _ w' (by omega) (by omega) (df hm) (df hm)) (fun a4 c4 h10 h11 h12 => ?_)) | refine yO (qO xm xm true (fun _ => rfl) (fun _ => rfl) (by simp) underlying4) ?_ | intro _)
  all_goals first | (exfalso; simp_all; done) | (exfalso; omega) | skip
  all_goals refine ret fun β w' hm => ?_
  all_goals exact ⟨⟨_, _, _, a4, c4, a3, c3⟩, rfl, rfl, ⟨h10, h7, h11, h8⟩, oK (df hm) (nS hm) (df hm) (nS hm), hm.below⟩
 ·by_cases hle : yn * xd <= xn * yd
  ·have hS : ae.fP ⟨xm, xn, xd⟩ ⟨ym, yn, yd⟩ = ⟨xm, xn * yd - yn * xd, xd * yd⟩ := by simp [ae.fP, hm, hle]
   rw [hS]
   have hc := hge.2 hle
   refine yE func131 rfl results131 ntmps131 [] [200001, 100003, 100005, 100007] [.agg [.bool xm, .any (.slice xa (ae.nd 10 xn) xc), .any (.slice xb (ae.nd 10 xd) xe)], .agg [.bool ym, .any (.slice ya (ae.nd 10 yn) yc), .any (.slice yb (ae.nd 10 yd) ye)]] w ?_
   repeat' (first | exact ⟨⟩ | refine yG ?_ ?_ | (refine aH .i64 10 (xn * yd) hw0 (by kernel_rfl) rfl (fun β w' hm => T1 w' hm.below) (fun a1 c1 h1 h2 h3 => ?_)) | (refine aH .i64 10 (yn * xd) hw0 (by kernel_rfl) rfl (fun β w' hm => T2 w' hm.below) (fun a2 c2 h4 h5 h6 => ?_)) | (refine aH .i64 10 (xd * yd) hw0 (by kernel_rfl) rfl (fun β w' hm => T3 w' hm.below) (fun a3 c3 h7 h8 h9 => ?_)) | refine yK (.int .i64 (ae.rq (xn * yd) (yn * xd))) (fun β w' hm => l7 a1 a2 c1 c2 _ _ w' (by omega) (by omega) (df hm) (df hm)) ?_ | (refine aH .i64 10 (xn * yd - yn * xd) hw0 (by kernel_rfl) rfl (fun β w' hm => uh a1 a2 c1 c2 _ _ w' (by omega) (by omega) hle (df hm) (df hm)) (fun a4 c4 h10 h11 h12 => ?_)) | refine yO (qO xm ym false (fun _ => rfl) (fun _ => rfl) (by simpa using hm) underlying4) ?_ | intro _)
   all_goals first | (exfalso; simp_all; done) | (exfalso; omega) | skip
   all_goals refine ret fun β w' hm => ?_
   all_goals exact ⟨⟨_, _, _, a4, c4, a3, c3⟩, rfl, rfl, ⟨h10, h7, h11, h8⟩, oK (df hm) (nS hm) (df hm) (nS hm), hm.below⟩
  ·have hS : ae.fP ⟨xm, xn, xd⟩ ⟨ym, yn, yd⟩ = ⟨ym, yn * xd - xn * yd, xd * yd⟩ := by simp [ae.fP, hm, hle]
   rw [hS]
   have hc := fun h => hle (hge.1 h)
   refine yE func131 rfl results131 ntmps131 [] [200001, 100003, 100005, 100007] [.agg [.bool xm, .any (.slice xa (ae.nd 10 xn) xc), .any (.slice xb (ae.nd 10 xd) xe)], .agg [.bool ym, .any (.slice ya (ae.nd 10 yn) yc), .any (.slice yb (ae.nd 10 yd) ye)]] w ?_
   repeat' (first | exact ⟨⟩ | refine yG ?_ ?_ | (refine aH .i64 10 (xn * yd) hw0 (by kernel_rfl) rfl (fun β w' hm => T1 w' hm.below) (fun a1 c1 h1 h2 h3 => ?_)) | (refine aH .i64 10 (yn * xd) hw0 (by kernel_rfl) rfl (fun β w' hm => T2 w' hm.below) (fun a2 c2 h4 h5 h6 => ?_)) | (refine aH .i64 10 (xd * yd) hw0 (by kernel_rfl) rfl (fun β w' hm => T3 w' hm.below) (fun a3 c3 h7 h8 h9 => ?_)) | refine yK (.int .i64 (ae.rq (xn * yd) (yn * xd))) (fun β w' hm => l7 a1 a2 c1 c2 _ _ w' (by omega) (by omega) (df hm) (df hm)) ?_ | (refine aH .i64 10 (yn * xd - xn * yd) hw0 (by kernel_rfl) rfl (fun β w' hm => uh a2 a1 c2 c1 _ _ w' (by omega) (by omega) (by omega) (df hm) (df hm)) (fun a4 c4 h10 h11 h12 => ?_)) | refine yO (qO xm ym false (fun _ => rfl) (fun _ => rfl) (by simpa using hm) underlying4) ?_ | intro _)
   all_goals first | (exfalso; simp_all; done) | (exfalso; omega) | skip
   all_goals refine ret fun β w' hm => ?_
   all_goals exact ⟨⟨_, _, _, a4, c4, a3, c3⟩, rfl, rfl, ⟨h10, h7, h11, h8⟩, oK (df hm) (nS hm) (df hm) (nS hm), hm.below⟩
theorem Td (x y : bI) (w : World) (hw0 : 0 < w.heap.size) (hx : aX .i64 10 x w) (hy : aX .i64 10 y w)
  (ng : ae.nd 10 x.n <= 1000000) (hxd : ae.nd 10 x.d <= 1000000) (hyn : ae.nd 10 y.n <= 1000000) (RF : ae.nd 10 y.d <= 1000000) :
  Calls Tryz.prog 133 #[x.val 10, y.val 10] w (fF .i64 10 (ae.mulN x.num y.num) w) := by
 obtain ⟨xm, xn, xd, xa, xc, xb, xe⟩ := x
 obtain ⟨ym, yn, yd, ya, yc, yb, ye⟩ := y
 obtain ⟨hx1, hx2, ⟨hx3, hx4, hx5, hx6⟩⟩ := hx
 obtain ⟨hy1, hy2, ⟨hy3, hy4, Y1, Y2⟩⟩ := hy
 dsimp only [bI.num, bI.val] at *
 refine yE func133 rfl results133 ntmps133 [] [200001] [.agg [.bool xm, .any (.slice xa (ae.nd 10 xn) xc), .any (.slice xb (ae.nd 10 xd) xe)], .agg [.bool ym, .any (.slice ya (ae.nd 10 yn) yc), .any (.slice yb (ae.nd 10 yd) ye)]] w ?_
 repeat' (first | exact ⟨⟩ | refine yG ?_ ?_ | (refine aH .i64 10 (xn * yn) hw0 (by kernel_rfl) rfl (fun β w' hm => jD xa ya xc yc xn yn w' (by omega) (by omega) (hx1.below hm.below) (hy1.below hm.below)) (fun a4 c4 h10 h11 h12 => ?_)) | (refine aH .i64 10 (xd * yd) hw0 (by kernel_rfl) rfl (fun β w' hm => jD xb yb xe ye xd yd w' (by omega) (by omega) (hx2.below hm.below) (hy2.below hm.below)) (fun a3 c3 h7 h8 h9 => ?_)) | refine yO (MK xm ym (fun _ => rfl) (fun _ => rfl) underlying4) ?_ | intro _)
 all_goals refine ret fun β w' hm => ?_
 all_goals exact ⟨⟨_, _, _, a4, c4, a3, c3⟩, rfl, rfl, ⟨h10, h7, h11, h8⟩, oK (df hm) (nS hm) (df hm) (nS hm), hm.below⟩
theorem Jo (m : Bool) (a b : Option Addr) (n c d e : Nat) (w : World) :
  QC 193 #[.agg #[.bool m, .slice a n c, .slice b d e]] w (.agg #[.bool !m, .slice a n c, .slice b d e]) := by
 refine yE func193 rfl results193 ntmps193 [] [] [.agg [.bool m, .any (.slice a n c), .any (.slice b d e)]] w ?_
 repeat' (first | exact ⟨⟩ | refine yG ?_ ?_ | intro _)
 all_goals rfl
theorem CG (m : Bool) (a b : Option Addr) (n c d e : Nat) (w : World) :
  QC 134 #[.agg #[.bool m, .slice a n c, .slice b d e]] w (.agg #[.bool m, .slice b d e, .slice a n c]) := by
 refine yE func134 rfl results134 ntmps134 [] [] [.agg [.bool m, .any (.slice a n c), .any (.slice b d e)]] w ?_
 repeat' (first | exact ⟨⟩ | refine yG ?_ ?_ | intro _)
 all_goals rfl
theorem ae.nd_z {b x : Nat} (hb : 2 <= b) : ((ae.nd b x : Int) = 0) = (x = 0) := by
 have := ae.fM (b := b) (x := x) hb
 apply propext
 constructor <;> intro h <;> omega
theorem PI (m : Bool) (a b : Option Addr) (x c d e : Nat) (w : World) :
  QC 158 #[.agg #[.bool m, .slice a (ae.nd 10 x) c, .slice b d e]] w (.int .i64 (if x = 0 then 0 else if m = true then -1 else 1)) := by
 have hz := ae.nd_z (b := 10) (x := x) (by omega)
 refine yE func158 rfl results158 ntmps158 [] [] [.agg [.bool m, .any (.slice a (ae.nd 10 x) c), .any (.slice b d e)]] w ?_
 repeat' (first | exact ⟨⟩ | refine yG ?_ ?_ | refine yO (aJ underlying70) ?_ | intro _)
 all_goals simp_all [SV.den]
theorem Rl : Flat Tryz.prog (Tryz.prog.fieldsOf 25).toList [.str, .str] 0 := Nl _ _ _ (by kernel_rfl)
theorem UX (a b c d : List UInt8) (w : World) : (Op.equalIn 10000 25 (.agg #[.string (ah a), .string (ah b)]) (.agg #[.string (ah c), .string (ah d)])).run Tryz.prog w = .ok (a == c && b == d) w := by
 rw [WN w 25 _ _ _ (by kernel_rfl) (by kernel_rfl) Rl rfl rfl]
 simp [UD, ZM, DK]
section
attribute [local semireducible] Sym.bM
theorem Np (a b c d : List UInt8) : bM Tryz.prog 25 [.str a, .str b] [.str c, .str d] (a == c && b == d) := ⟨by kernel_rfl, fun _ w => UX a b c d w⟩
theorem pF (a b : List UInt8) : bM Tryz.prog 25 [.str a, .str b] [.str a, .str b] true := by
 have := Np a b a b
 simpa using this
end
theorem OL (F : ae.Fr) (E : Int) (x : bI) (w : World) (hw0 : 0 < w.heap.size) (hx : aX .i64 10 x w) (hd : 0 < x.d)
  (ng : ae.nd 10 x.n <= 1000000) (hxd : ae.nd 10 x.d <= 1000000) (hF : F = ae.ak x.num) (hE : E = ae.ay x.num) :
  QC 52 #[iI F, .int .i64 E, x.val 10] w (.bool true) := by
 have W1 := fun (w' : World) (h : BW w w') => kH x w' (zl hw0 h.size) (hx.below h) hd ng hxd
 rw [<- hF, <- hE] at W1
 clear hF hE
 obtain ⟨xm, xn, xd, xa, xc, xb, xe⟩ := x
 obtain ⟨F1, F2⟩ := F
 dsimp only [bI.num, bI.val] at *
 refine yE func52 rfl results52 ntmps52 [] [] [.agg [.str F1, .str F2], .int .i64 E, .agg [.bool xm, .any (.slice xa (ae.nd 10 xn) xc), .any (.slice xb (ae.nd 10 xd) xe)]] w ?_
 repeat' (first | exact ⟨⟩ | refine yG ?_ ?_ | refine yB (.bg [.agg [.str F1, .str F2], .int .i64 E]) (fun _ => W1) ?_ | ((with_reducible show ∃ _, _); first | (refine ⟨true, pF F1 F2, ?_⟩)) | intro _)
 all_goals first | rfl | (exfalso; simp_all; done) | (simp [SV.den]; done) | skip
theorem Sym.XZ {C : Ctx} {G : eU} {x y : Operand} {t u : TypeId} {k : IntKind} {a b r : Int} (hb : b ≠ 0) (hr : Int.tmod a b = r) : dH C G (.binOp .rem t x y u) [.int k a, .int k b] (.int k r) := by
 unfold dH
 intro ρ β w dst ty pos after g _ _ h
 have h' : ρ x = .int k a /\ ρ y = .int k b := by simpa [jg, SV.aF, SV.den] using h
 simp [execOp, eqGuard, binOp, Op.intDiv, h'.1, h'.2, hb, SV.den, hr]
theorem Sym.XY {C : Ctx} {G : eU} {x y : Operand} {t u : TypeId} {k : IntKind} {a b q : Int} (hb : b ≠ 0) (hq : Int.tdiv a b = q) (hk : uu k q) : dH C G (.binOp .quo t x y u) [.int k a, .int k b] (.int k q) := by
 unfold dH
 intro ρ β w dst ty pos after g _ _ h
 have h' : ρ x = .int k a /\ ρ y = .int k b := by simpa [jg, SV.aF, SV.den] using h
 have hw : k.wrap q = q := ni hk
 simp [execOp, eqGuard, binOp, Op.intDiv, h'.1, h'.2, hb, SV.den, hq, hw]
theorem qw (k : Nat) (h : k < 10) {v : Int} (hv : v = 48 + (k : Int)) : [Value.int .u8 v] = dJ [UInt8.ofNat (48 + k)] := by
 have : (UInt8.ofNat (48 + k)).toNat = 48 + k := by simp; omega
 subst hv
 simp [dJ, this]
 omega
theorem Ff (x : Nat) (h : x < 100000000000000000000) : (Lib.decDigits x).length <= 20 := by
 rcases Nat.eq_zero_or_pos x with rfl | h0
 ·rw [Lib.decDigits_one (by omega)]; simp
 ·rw [ae.uV h0]; exact ae.dX (by omega) (by simpa using h)
theorem Mc (m : Nat) : Int.tdiv (-(m : Int)) 10 = -((m / 10 : Nat) : Int) := by rw [Int.neg_tdiv]; simp [Int.tdiv_eq_ediv_of_nonneg]
theorem Me (m : Nat) : Int.tmod (-(m : Int)) 10 = -((m % 10 : Nat) : Int) := by rw [Int.neg_tmod]; simp [Int.tmod_eq_emod_of_nonneg]
theorem H6 (n : Nat) : n < 9223372036854775808 -> ∀ w, QC 141 #[.int .i64 (n : Int)] w (.string (ah (Lib.decDigits n))) := by
 induction n using Nat.strongRecOn with
 | _ n ih =>
 intro hn w
 by_cases h : n < 10
 ·rw [Lib.decDigits_one h]
  refine yE func141 rfl results141 ntmps141 [] [] [.int .i64 (n : Int)] w ?_
  repeat' (first | exact ⟨⟩ | refine yG ?_ ?_ | (refine wL rfl rfl underlying113 (fun w => sizeOf5 w) (fun w => zeroValue5 w) rfl (fun g => ?_)) | refine yO (nR 0 [UInt8.ofNat (48 + n)] underlying113 underlying5 underlying9 rfl (qw n h rfl)) ?_ | intro _)
  all_goals first | rfl | (exfalso; omega)
 ·have hD : Lib.decDigits n = Lib.decDigits (n / 10) ++ [UInt8.ofNat (48 + n % 10)] := by rw [Lib.decDigits, dif_neg h]
  have HI := ih (n / 10) (by omega) (by omega)
  have hL := Ff (n / 10) (by omega)
  have hq : (n : Int) / 10 = ((n / 10 : Nat) : Int) := by omega
  have hr : (n : Int) % 10 = ((n % 10 : Nat) : Int) := by omega
  have hm := fun v => qw (n % 10) (by omega) (v := v)
  rw [hD]
  clear ih hD
  generalize Lib.decDigits (n / 10) = L at *
  refine yE func141 rfl results141 ntmps141 [] [] [.int .i64 (n : Int)] w ?_
  repeat' (first | exact ⟨⟩ | refine yG ?_ ?_ | refine yK (.str L) (fun β w hm => by simp only [SV.aF, SV.den]; rw [hq]; exact HI w) ?_ | (refine wL rfl rfl underlying113 (fun w => sizeOf5 w) (fun w => zeroValue5 w) rfl (fun g => ?_)) | refine yO (nR 0 [UInt8.ofNat (48 + n % 10)] underlying113 underlying5 underlying9 rfl (hm _ (by rw [hr]))) ?_ | refine yO (qh (by omega) (by omega) (by unfold uu; omega)) ?_ | refine yO (jv (by omega) (by omega)) ?_ | intro _)
  all_goals rfl
theorem H5 (n : Nat) : 0 < n -> n <= 9223372036854775808 -> ∀ w, QC 141 #[.int .i64 (-(n : Int))] w (.string (ah (45 :: Lib.decDigits n))) := by
 induction n using Nat.strongRecOn with
 | _ n ih =>
 intro hn0 hn w
 by_cases h : n < 10
 ·rw [Lib.decDigits_one h]
  refine yE func141 rfl results141 ntmps141 [] [] [.int .i64 (-(n : Int))] w ?_
  repeat' (first | exact ⟨⟩ | refine yG ?_ ?_ | (refine wL rfl rfl underlying113 (fun w => sizeOf5 w) (fun w => zeroValue5 w) rfl (fun g => ?_)) | refine yO (nR 0 [UInt8.ofNat (48 + n)] underlying113 underlying5 underlying9 rfl (qw n h (by omega))) ?_ | intro _)
  all_goals first | rfl | (exfalso; omega)
 ·have hD : Lib.decDigits n = Lib.decDigits (n / 10) ++ [UInt8.ofNat (48 + n % 10)] := by rw [Lib.decDigits, dif_neg h]
  have HI := ih (n / 10) (by omega) (by omega) (by omega)
  have hL := Ff (n / 10) (by omega)
  have hq := Mc n
  have hr := Me n
  have hm := fun v => qw (n % 10) (by omega) (v := v)
  rw [hD]
  clear ih hD
  generalize Lib.decDigits (n / 10) = L at *
  refine yE func141 rfl results141 ntmps141 [] [] [.int .i64 (-(n : Int))] w ?_
  repeat' (first | exact ⟨⟩ | refine yG ?_ ?_ | refine yA (.str (45 :: L)) (fun _ => HI) ?_ | (refine wL rfl rfl underlying113 (fun w => sizeOf5 w) (fun w => zeroValue5 w) rfl (fun g => ?_)) | refine yO (nR 0 [UInt8.ofNat (48 + n % 10)] underlying113 underlying5 underlying9 rfl (hm _ (by omega))) ?_ | refine yO (XY (by omega) hq (by unfold uu; omega)) ?_ | refine yO (XZ (by omega) hr) ?_ | intro _)
  all_goals first | rfl | (exfalso; omega)
end
end Go.Proofs.YtdkhkfdenlabaaaGreatDoor
