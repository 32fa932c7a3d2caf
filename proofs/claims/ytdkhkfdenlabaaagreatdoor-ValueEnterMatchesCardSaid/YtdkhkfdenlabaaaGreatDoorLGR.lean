/- Values, the program: a date and a time. A walk that reckons: bytes that are known, turned into a str -/
import Derived.Test.YtdkhkfdenlabaaaGreatDoorLGG
import Derived.Test.YtdkhkfdenlabaaaGreatDoorLGQ
set_option linter.unusedSimpArgs false
set_option linter.unusedVariables false
set_option maxRecDepth 100000
set_option maxHeartbeats 64000000
namespace Go.Proofs.YtdkhkfdenlabaaaGreatDoor
open Go.RowKit
open Sym
attribute [local irreducible] Calls Sym.AggEq ExP.nd ExP.dig ExP.upd ExP.writeF ExP.writeE
theorem instant_raw (s x y D1 D2 T1 T2 S1 S2 : List UInt8) (ok a b : Bool) (e : Int) (w : World)
  (hC : ∀ w', BW w w' → QC 113 #[.string (bstr s), .string (bstr [32])] w' (.tuple #[.string (bstr x), .string (bstr y), .bool ok]))
  (hD : ∀ w', BW w w' → QC 58 #[.string (bstr x)] w' (.tuple #[frV (D1, D2), .bool a]))
  (hT : ∀ w', BW w w' → QC 59 #[.string (bstr y)] w' (.tuple #[frV (T1, T2), .bool b]))
  (hA : ∀ w', BW w w' → Calls Tryz.prog 115 #[frV (D1, D2), frV (T1, T2)] w' (WrOut (S1, S2) e w')) :
  QC 60 #[.string (bstr s)] w (.tuple #[frV (S1, S2), .bool (ok && a && b && decide (e = 0))]) := by
 refine yE Tryz.func60 rfl Tryz.results60 Tryz.ntmps60 [] [] [.str s] w ?_
 repeat' (first | refine yX ?_ | (apply And.intro <;> intro _) | apply bothI | refine retB fun β => ?_ | intro βe | refine yK (.tup [.str x, .str y, .bool ok]) (fun β w hm => hC w hm.below) ?_ | refine yK (.tup [.agg [.str D1, .str D2], .bool a]) (fun β w hm => hD w hm.below) ?_ | refine yK (.tup [.agg [.str T1, .str T2], .bool b]) (fun β w hm => hT w hm.below) ?_ | refine yK (.tup [.agg [.str S1, .str S2], .int .i64 e]) (fun β w hm => hA w hm.below) ?_ | exact trivial)
 all_goals (clear hC hD hT hA; first | (exfalso; omega) | (simp_all [SV.den, SV.dens]; done) | trace_state)
theorem VaP.clk_small {s : List UInt8} {x : ExP.Num} (h : VaP.clkV s = some x) : x.m = false ∧ 0 < x.d ∧ x.n < 100000000000000000 ∧ x.d < 1000000000000000 := by
 unfold VaP.clkV at h
 split at h
 ·rename_i a b _
  split at h
  ·rename_i hm
   cases h
   have : VaP.hmN a b ≤ 86340 := by
    unfold VaP.hmP at hm
    simp only [Bool.and_eq_true, decide_eq_true_eq] at hm
    unfold VaP.hmN
    omega
   exact ⟨rfl, by show 0 < 86400; omega, by show VaP.hmN a b < _; omega, by show 86400 < _; omega⟩
  ·cases h
 ·rename_i a b c _
  unfold VaP.clkG at h
  split at h
  ·rename_i hm
   cases h
   obtain ⟨hm, hs⟩ := hm
   have hN : VaP.hmN a b ≤ 86340 := by
    unfold VaP.hmP at hm
    simp only [Bool.and_eq_true, decide_eq_true_eq] at hm
    unfold VaP.hmN
    omega
   obtain ⟨⟨u1, u2⟩, u3, u4⟩ := VaP.sec_parts.1 hs
   have hcn := @VaP.cutB_no 46 c
   generalize (VaP.cutB 46 c).2.2 = point at *
   have hp : (VaP.cutB 46 c).2.1.all ExP.digC = true ∧ (VaP.cutB 46 c).2.1.length ≤ 9 := by
    cases point with
    | true => exact ⟨(u4 rfl).2.1, (u4 rfl).2.2⟩
    | false => rw [hcn rfl]; exact ⟨rfl, by simp⟩
   clear hcn u4
   generalize (VaP.cutB 46 c).1 = x at *
   generalize (VaP.cutB 46 c).2.1 = p at *
   have hval : ExP.valS (x ++ p) < 100000000000 := by
    have h1 := ExP.val_lt (x ++ p) (by rw [List.all_append, u1, hp.1]; rfl)
    have h2 : (10 : Nat) ^ (x ++ p).length ≤ 10 ^ 11 := Nat.pow_le_pow_right (by omega) (by rw [List.length_append]; omega)
    omega
   have hten : 10 ^ p.length ≤ 1000000000 := by
    have h2 : (10 : Nat) ^ p.length ≤ 10 ^ 9 := Nat.pow_le_pow_right (by omega) hp.2
    omega
   have hten0 : 0 < 10 ^ p.length := Nat.pow_pos (by omega)
   have hmul : VaP.hmN a b * 10 ^ p.length ≤ 86340 * 1000000000 := Nat.mul_le_mul hN hten
   dsimp only
   exact ⟨rfl, by omega, by omega, by omega⟩
  ·cases h
 ·cases h
theorem ExP.two_len (f g : ExP.Fr) (N : ExP.Num) (e : Int) : (ExP.twoF f g N e).1.length ≤ 301 ∧ (ExP.twoF f g N e).2.length ≤ 300 := by
 unfold ExP.twoF
 split
 ·split
  ·exact ExP.writeF_len _
  ·exact ⟨by simp, by simp⟩
 ·exact ⟨by simp, by simp⟩
theorem VaP.momV_eq (s : List UInt8) : VaP.momV s = match VaP.dateO (VaP.cutB 32 s).1, VaP.clkV (VaP.cutB 32 s).2.1 with
  | some d, some x => if (VaP.cutB 32 s).2.2 = true then some (ExP.sumN d x) else none
  | _, _ => none := by
 unfold VaP.momV VaP.dateO
 by_cases h : 0 < VaP.dateV (VaP.cutB 32 s).1
 ·rw [if_pos h]
  cases VaP.clkV (VaP.cutB 32 s).2.1 with
  | none => rfl
  | some x =>
    dsimp only
    by_cases h2 : (VaP.cutB 32 s).2.2 = true
    ·rw [if_pos ⟨h2, h⟩, if_pos h2]
    ·rw [if_neg (fun h => h2 h.1), if_neg h2]
 ·rw [if_neg h]
  cases VaP.clkV (VaP.cutB 32 s).2.1 with
  | none => rfl
  | some x => exact if_neg (fun h' => h h'.2)
theorem vinstant_any (s : List UInt8) (w : World) (hw : XV w) (hl : s.length ≤ 40000) : Reads 60 s (VaP.momV s) w := by
 obtain ⟨cl1, cl2⟩ := VaP.cutB_len 32 s
 have C := fun (w' : World) (h : BW w w') => vcut_any 32 s w' (hw.below h) (by omega)
 have D := vdate_any (VaP.cutB 32 s).1 w hw (by omega)
 have T := vclock_any (VaP.cutB 32 s).2.1 w hw (by omega)
 have hcs := @VaP.clk_small (VaP.cutB 32 s).2.1
 have hdb : ∀ d, VaP.dateO (VaP.cutB 32 s).1 = some d → d.m = false ∧ d.d = 1 ∧ d.n ≤ 2958464 := fun d hd => by
  unfold VaP.dateO at hd
  split at hd
  ·cases hd
   refine ⟨rfl, rfl, ?_⟩
   have hle : VaP.dateV (VaP.cutB 32 s).1 ≤ 2958464 := by
    unfold VaP.dateV
    split
    ·split
     ·exact (VaP.dayV_le _ _ _).2
     ·omega
    ·omega
   show (VaP.dateV (VaP.cutB 32 s).1).toNat ≤ 2958464
   omega
  ·cases hd
 rw [VaP.momV_eq]
 generalize VaP.dateO (VaP.cutB 32 s).1 = dO at *
 generalize VaP.clkV (VaP.cutB 32 s).2.1 = cO at *
 generalize (VaP.cutB 32 s).1 = x at *
 generalize (VaP.cutB 32 s).2.1 = y at *
 generalize (VaP.cutB 32 s).2.2 = ok at *
 obtain ⟨F, hF, lF, hD⟩ := D
 obtain ⟨G, hG, lG, hT⟩ := T
 have A := fun (w' : World) (h : BW w w') => add_any F G w' (hw.below h).xw (hw.below h).pos (by omega) (by omega) (by omega) (by omega)
 have lS := ExP.two_len F G (ExP.sumN (ExP.readN F) (ExP.readN G)) 0
 have key : ∀ d z, dO = some d → cO = some z → ExP.twoF F G (ExP.sumN (ExP.readN F) (ExP.readN G)) 0 = ExP.writeF (ExP.sumN d z) ∧ ExP.twoE F G (ExP.sumN (ExP.readN F) (ExP.readN G)) 0 = 0 := fun d z hd hz => by
  obtain ⟨rfl⟩ := hF d hd
  obtain ⟨rfl⟩ := hG z hz
  obtain ⟨z1, z2, z3, z4⟩ := hcs hz
  obtain ⟨d1, d2, d3⟩ := hdb d hd
  obtain ⟨zm, zn, zd⟩ := z
  obtain ⟨dm, dn, dd⟩ := d
  dsimp only at *
  subst z1 d1 d2
  have hmul : dn * zd ≤ 2958464 * 1000000000000000 := Nat.mul_le_mul d3 (by omega)
  have e1 : ExP.writeE ⟨false, dn, 1⟩ = 0 := ExP.e25 (by omega) (by omega) (by omega)
  have e2 : ExP.writeE ⟨false, zn, zd⟩ = 0 := ExP.e25 (by omega) (by omega) z2
  obtain ⟨a1, a2⟩ := ExP.add_w (x := ⟨false, dn, 1⟩) (y := ⟨false, zn, zd⟩) rfl rfl Nat.one_pos z2 e1 e2
  dsimp only at a1 a2
  have hs : ExP.sumN ⟨false, dn, 1⟩ ⟨false, zn, zd⟩ = ⟨false, dn * zd + zn * 1, 1 * zd⟩ := if_pos rfl
  rw [a1, a2, hs]
  exact ⟨rfl, ExP.e25 (by omega) (by omega) (by omega)⟩
 generalize ExP.twoF F G (ExP.sumN (ExP.readN F) (ExP.readN G)) 0 = S at *
 generalize ExP.twoE F G (ExP.sumN (ExP.readN F) (ExP.readN G)) 0 = e at *
 refine ⟨S, fun v hv => ?_, lS, fun w' hb => ?_⟩
 ·cases dO with
  | none => cases hv
  | some d =>
    cases cO with
    | none => cases hv
    | some z =>
      dsimp only at hv
      split at hv
      ·cases hv; exact (key d z rfl rfl).1
      ·cases hv
 ·have := instant_raw s x y _ _ _ _ _ _ ok dO.isSome cO.isSome e w' (fun w2 h2 => C w2 (belT hb h2)) (fun w2 h2 => hD w2 (belT hb h2)) (fun w2 h2 => hT w2 (belT hb h2)) (fun w2 h2 => A w2 (belT hb h2))
  have hv : (match dO, cO with
    | some d, some x => if ok = true then some (ExP.sumN d x) else none
    | _, _ => none).isSome = (ok && dO.isSome && cO.isSome && decide (e = 0)) := by
   cases dO with
   | none => simp
   | some d =>
     cases cO with
     | none => simp
     | some z =>
       have he := (key d z rfl rfl).2
       cases ok <;> simp [he]
  rw [hv]
  exact this
end Go.Proofs.YtdkhkfdenlabaaaGreatDoor
namespace Go.Proofs.YtdkhkfdenlabaaaGreatDoor
open Go.RowKit
namespace Sym
theorem x_bytesStrF {C : Ctx} {G : Blobs} {x : Operand} {t u e : TypeId} {g cap n bs : Nat} (i : Nat) (l : List UInt8) (hs : C.P.underlying t = some (.slice e)) (he : C.P.underlying e = some (.int .u8)) (hd : C.P.underlying u = some .string)
  (ri : G i = some (SlF bs (some ⟨g, 0, none⟩) (bvals l))) (hn : n = l.length) : ExtN C G (.convert t u x) [.any (.slice (some ⟨g, 0, none⟩) n cap)] (.str l) := by
 unfold ExtN
 intro ρ β w dst ty pos after gd _ hG h
 have e1 : ρ x = .slice (some ⟨g, 0, none⟩) n cap := by simpa [opsX, SV.dens, SV.den] using h
 obtain ⟨hb, ho⟩ := hG i _ ri
 have hc := SlF.at ho hb
 subst hn
 have hr := run_convert_bytes_back (P := C.P) w t u e ⟨g, 0, none⟩ cap l hs he hd (fun j hj => by
  obtain ⟨ad, h1, -, h3⟩ := hc j (.int .u8 ((l[j]'hj).toNat : Int)) (by simp [bvals, hj])
  cases h1
  rw [h3])
 simp [execOp, e1, hr, SV.den, bstr]
theorem x_shlE {C : Ctx} {G : Blobs} {x y : Operand} {t u : TypeId} {k k' : IntKind} {a q : Int} (n : Nat) (c : Int) (hq : q = (n : Nat)) (hc : a * 2 ^ n = c) (hn : n ≤ k.bits) (hw : inK k c) : ExtN C G (.binOp .shl t x y u) [.int k a, .int k' q] (.int k c) := by
 subst hc; subst hq; exact x_shl n hn hw
end Sym
end Go.Proofs.YtdkhkfdenlabaaaGreatDoor
