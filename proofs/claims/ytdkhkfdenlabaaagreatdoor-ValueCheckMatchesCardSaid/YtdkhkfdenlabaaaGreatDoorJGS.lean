/- Values, the program: a number as it is entered, walked. Values, the program: a number as it is entered. Values, the program: errors of values. Values, the program: errors of arrays; every value checked. -/
import Derived.Test.YtdkhkfdenlabaaaGreatDoorJGR
import Derived.Test.YtdkhkfdenlabaaaGreatDoorJGO
import Derived.Test.YtdkhkfdenlabaaaGreatDoorJGQ
set_option linter.unusedSimpArgs false
set_option linter.unusedVariables false
namespace Go.Proofs.YtdkhkfdenlabaaaGreatDoor
open Go.RowKit
open Sym
attribute [local irreducible] Calls Sym.AggEq ExP.nd ExP.dig ExP.upd ExP.writeF ExP.writeE
theorem trimPlus_any (c : UInt8) (w : World) : Calls Tryz.prog 108 #[.string (bstr [c]), .string (bstr [43])] w fun e w' => e = .returned (.string (bstr (if c = 43 then [] else [c]))) ∧ Below w.heap.size w w' := by
  refine (Tryz.strings_TrimPrefix (bstr [c]) (bstr [43]) w).mono ?_
  rintro e w' ⟨h, rfl⟩
  refine ⟨?_, Below.refl _ _⟩
  rw [h, show (bstr [c]).data.toList = [c] from rfl, show (bstr [43]).data.toList = [43] from rfl]
  unfold Lib.trimPrefix Lib.hasPrefix
  by_cases hc : c = 43
  · subst hc; rfl
  · have : ([43].isPrefixOf [c]) = false := by simp [List.isPrefixOf]; exact fun e => hc e.symm
    rw [this, if_neg Bool.false_ne_true, if_neg hc]; rfl
section
variable (c : UInt8) (q sg s1 d r r2 : List UInt8) (pc ok : Bool) (PF1 PF2 QF1 QF2 H1 H2 F1 F2 : List UInt8) (PE QE : Int) (w : World)
  (hl : (c :: q).length ≤ 40000) (hdr : d.length + r2.length ≤ 40000)
  (G : ∀ w', Below w.heap.size w w' → Calls Tryz.prog 109 #[.string (bstr s1)] w' fun e w'' => e = .returned (.tuple #[.string (bstr d), .string (bstr r)]) ∧ Below w'.heap.size w' w'')
  (U : ∀ w', Below w.heap.size w w' → Calls Tryz.prog 110 #[.string (bstr r), .string (bstr [37])] w' fun e w'' => e = .returned (.tuple #[.string (bstr r2), .bool pc]) ∧ Below w'.heap.size w' w'')
  (P : ∀ w', Below w.heap.size w w' → Calls Tryz.prog 111 #[.string (bstr (sg ++ d ++ r2))] w' (WrOut (PF1, PF2) PE w'))
  (O : ∀ w', Below w.heap.size w w' → Calls Tryz.prog 77 #[.int .i64 100] w' fun e w'' => e = .returned (frV (H1, H2)) ∧ Below w'.heap.size w' w'')
  (V : ∀ w', Below w.heap.size w w' → Calls Tryz.prog 112 #[frV (PF1, PF2), frV (H1, H2)] w' (WrOut (QF1, QF2) QE w'))
  (h1 : d = [] → F1 = [] ∧ F2 = [] ∧ ok = false) (h2 : d ≠ [] → ¬ (PE = 0 ∧ pc = true) → F1 = PF1 ∧ F2 = PF2 ∧ ok = decide (PE = 0)) (h3 : d ≠ [] → PE = 0 → pc = true → F1 = QF1 ∧ F2 = QF2 ∧ ok = decide (QE = 0))
include hl hdr G U P O V h1 h2 h3
set_option maxRecDepth 100000 in
set_option maxHeartbeats 4000000 in
theorem number_plus (hc : c = 43) (hs : sg = [] ∧ s1 = q) : Calls Tryz.prog 56 #[.string (bstr (c :: q))] w fun e w' => e = .returned (.tuple #[frV (F1, F2), .bool ok]) ∧ Below w.heap.size w w' := by
  obtain ⟨rfl, rfl⟩ := hs
  subst hc
  have hg0 : ((43 :: s1).getD 0 0).toNat = 43 := rfl
  have T := fun (w' : World) => trimPlus_any 43 w'
  rw [if_pos rfl] at T
  refine enter env_ok Tryz.func56 rfl Tryz.results56 Tryz.ntmps56 [] [200003, 200010] [.str (43 :: s1)] (by simp [SV.oks, SV.ok]) (Nat.le_of_ble_eq_true rfl) w _ 1000 ?_
  repeat' (first | ((with_reducible first | show wpS .. | show putD .. | show putW .. | show splitG .. | show wpQ .. | show wpD .. | show wpX .. | show expX .. | show stepX .. | show keepR .. | show wpY ..); conv => whnf) | ((with_reducible show RetN ..); refine retB fun β => ?_) | ((with_reducible show _ ∧ _); first | (refine ⟨fun h => absurd h (by first | omega | decide), fun _ => ?_⟩) | (refine ⟨fun _ => ?_, fun h => absurd h (by first | omega | decide)⟩) | (refine ⟨fun _ => ?_, fun _ => ?_⟩) | (apply And.intro; · kernel_rfl) | (apply And.intro; · (show inK _ _; unfold inK; omega)) | (apply And.intro; · (show (_ : Int) ≤ 9223372036854775807; (try simp only [lenS]); omega))) | ((with_reducible show AllBe ..); refine allBe fun βe => ?_; conv => whnf) | ((with_reducible show bothX ..); refine bothI ?_ ?_; conv => whnf) | (with_reducible exact trivial) | ((with_reducible show CallN ..); refine call_of env_ok rfl 1000 ?_) | ((with_reducible show XopN ..); refine xop_of env_ok rfl 1000 ?_) | ((with_reducible show CallX ..); first | (refine callX (.str []) (by kernel_rfl) rfl (trivial) (fun β w hm => T w) ?_) | (refine callX (.tup [.str d, .str r]) (by kernel_rfl) rfl (⟨trivial, trivial, trivial⟩) (fun β w hm => G w hm.below) ?_) | (refine callX (.tup [.str r2, .bool pc]) (by kernel_rfl) rfl (⟨trivial, trivial, trivial⟩) (fun β w hm => U w hm.below) ?_) | (refine callX (.tup [.agg [.str PF1, .str PF2], .int .i64 PE]) (by kernel_rfl) rfl (⟨⟨trivial, trivial, trivial⟩, trivial, trivial⟩) (fun β w hm => P w hm.below) ?_) | (refine callX (.agg [.str H1, .str H2]) (by kernel_rfl) rfl (⟨trivial, trivial, trivial⟩) (fun β w hm => O w hm.below) ?_) | (refine callX (.tup [.agg [.str QF1, .str QF2], .int .i64 QE]) (by kernel_rfl) rfl (⟨⟨trivial, trivial, trivial⟩, trivial, trivial⟩) (fun β w hm => V w hm.below) ?_) | fail) | ((with_reducible show OpX ..); first | fail) | ((with_reducible show ∃ _ : SV, _); first | fail) | ((with_reducible show ∃ _, _); first | (refine ⟨0, rfl, by simp, ?_⟩) | (refine ⟨1, rfl, by simp, ?_⟩)))
  all_goals first | (exfalso; omega) | (obtain ⟨rfl, rfl, rfl⟩ := h1 (by assumption); rfl) | (obtain ⟨rfl, rfl, e⟩ := h3 (by assumption) (by assumption) (by assumption); rw [e]; rfl) | (obtain ⟨rfl, rfl, e⟩ := h2 (by assumption) (fun h => by have := h.1; have := h.2; simp_all); rw [e]; rfl) | trace_state
set_option maxRecDepth 100000 in
set_option maxHeartbeats 4000000 in
theorem number_minus (hc : c = 45) (hs : sg = [45] ∧ s1 = q) : Calls Tryz.prog 56 #[.string (bstr (c :: q))] w fun e w' => e = .returned (.tuple #[frV (F1, F2), .bool ok]) ∧ Below w.heap.size w w' := by
  obtain ⟨rfl, rfl⟩ := hs
  subst hc
  have hg0 : ((45 :: s1).getD 0 0).toNat = 45 := rfl
  have T := fun (w' : World) => trimPlus_any 45 w'
  rw [if_neg (by decide)] at T
  refine enter env_ok Tryz.func56 rfl Tryz.results56 Tryz.ntmps56 [] [200003, 200010] [.str (45 :: s1)] (by simp [SV.oks, SV.ok]) (Nat.le_of_ble_eq_true rfl) w _ 1000 ?_
  repeat' (first | ((with_reducible first | show wpS .. | show putD .. | show putW .. | show splitG .. | show wpQ .. | show wpD .. | show wpX .. | show expX .. | show stepX .. | show keepR .. | show wpY ..); conv => whnf) | ((with_reducible show RetN ..); refine retB fun β => ?_) | ((with_reducible show _ ∧ _); first | (refine ⟨fun h => absurd h (by first | omega | decide), fun _ => ?_⟩) | (refine ⟨fun _ => ?_, fun h => absurd h (by first | omega | decide)⟩) | (refine ⟨fun _ => ?_, fun _ => ?_⟩) | (apply And.intro; · kernel_rfl) | (apply And.intro; · (show inK _ _; unfold inK; omega)) | (apply And.intro; · (show (_ : Int) ≤ 9223372036854775807; (try simp only [lenS]); omega))) | ((with_reducible show AllBe ..); refine allBe fun βe => ?_; conv => whnf) | ((with_reducible show bothX ..); refine bothI ?_ ?_; conv => whnf) | (with_reducible exact trivial) | ((with_reducible show CallN ..); refine call_of env_ok rfl 1000 ?_) | ((with_reducible show XopN ..); refine xop_of env_ok rfl 1000 ?_) | ((with_reducible show CallX ..); first | (refine callX (.str [45]) (by kernel_rfl) rfl (trivial) (fun β w hm => T w) ?_) | (refine callX (.tup [.str d, .str r]) (by kernel_rfl) rfl (⟨trivial, trivial, trivial⟩) (fun β w hm => G w hm.below) ?_) | (refine callX (.tup [.str r2, .bool pc]) (by kernel_rfl) rfl (⟨trivial, trivial, trivial⟩) (fun β w hm => U w hm.below) ?_) | (refine callX (.tup [.agg [.str PF1, .str PF2], .int .i64 PE]) (by kernel_rfl) rfl (⟨⟨trivial, trivial, trivial⟩, trivial, trivial⟩) (fun β w hm => P w hm.below) ?_) | (refine callX (.agg [.str H1, .str H2]) (by kernel_rfl) rfl (⟨trivial, trivial, trivial⟩) (fun β w hm => O w hm.below) ?_) | (refine callX (.tup [.agg [.str QF1, .str QF2], .int .i64 QE]) (by kernel_rfl) rfl (⟨⟨trivial, trivial, trivial⟩, trivial, trivial⟩) (fun β w hm => V w hm.below) ?_) | fail) | ((with_reducible show OpX ..); first | fail) | ((with_reducible show ∃ _ : SV, _); first | fail) | ((with_reducible show ∃ _, _); first | (refine ⟨0, rfl, by simp, ?_⟩) | (refine ⟨1, rfl, by simp, ?_⟩)))
  all_goals first | (exfalso; omega) | (obtain ⟨rfl, rfl, rfl⟩ := h1 (by assumption); rfl) | (obtain ⟨rfl, rfl, e⟩ := h3 (by assumption) (by assumption) (by assumption); rw [e]; rfl) | (obtain ⟨rfl, rfl, e⟩ := h2 (by assumption) (fun h => by have := h.1; have := h.2; simp_all); rw [e]; rfl) | trace_state
set_option maxRecDepth 100000 in
set_option maxHeartbeats 4000000 in
theorem number_none (hc : c ≠ 43 ∧ c ≠ 45) (hs : sg = [] ∧ s1 = c :: q) : Calls Tryz.prog 56 #[.string (bstr (c :: q))] w fun e w' => e = .returned (.tuple #[frV (F1, F2), .bool ok]) ∧ Below w.heap.size w w' := by
  have _hl := hl
  obtain ⟨rfl, rfl⟩ := hs
  have hg0 : ((c :: q).getD 0 0).toNat ≠ 43 ∧ ((c :: q).getD 0 0).toNat ≠ 45 := ⟨fun e => hc.1 (UInt8.toNat_inj.1 e), fun e => hc.2 (UInt8.toNat_inj.1 e)⟩
  refine enter env_ok Tryz.func56 rfl Tryz.results56 Tryz.ntmps56 [] [200003, 200010] [.str (c :: q)] (by simp [SV.oks, SV.ok]) (Nat.le_of_ble_eq_true rfl) w _ 1000 ?_
  repeat' (first | ((with_reducible first | show wpS .. | show putD .. | show putW .. | show splitG .. | show wpQ .. | show wpD .. | show wpX .. | show expX .. | show stepX .. | show keepR .. | show wpY ..); conv => whnf) | ((with_reducible show RetN ..); refine retB fun β => ?_) | ((with_reducible show _ ∧ _); first | (refine ⟨fun h => absurd h (by first | omega | decide), fun _ => ?_⟩) | (refine ⟨fun _ => ?_, fun h => absurd h (by first | omega | decide)⟩) | (refine ⟨fun _ => ?_, fun _ => ?_⟩) | (apply And.intro; · kernel_rfl) | (apply And.intro; · (show inK _ _; unfold inK; omega)) | (apply And.intro; · (show (_ : Int) ≤ 9223372036854775807; (try simp only [lenS]); omega))) | ((with_reducible show AllBe ..); refine allBe fun βe => ?_; conv => whnf) | ((with_reducible show bothX ..); refine bothI ?_ ?_; conv => whnf) | (with_reducible exact trivial) | ((with_reducible show CallN ..); refine call_of env_ok rfl 1000 ?_) | ((with_reducible show XopN ..); refine xop_of env_ok rfl 1000 ?_) | ((with_reducible show CallX ..); first | (refine callX (.tup [.str d, .str r]) (by kernel_rfl) rfl (⟨trivial, trivial, trivial⟩) (fun β w hm => G w hm.below) ?_) | (refine callX (.tup [.str r2, .bool pc]) (by kernel_rfl) rfl (⟨trivial, trivial, trivial⟩) (fun β w hm => U w hm.below) ?_) | (refine callX (.tup [.agg [.str PF1, .str PF2], .int .i64 PE]) (by kernel_rfl) rfl (⟨⟨trivial, trivial, trivial⟩, trivial, trivial⟩) (fun β w hm => P w hm.below) ?_) | (refine callX (.agg [.str H1, .str H2]) (by kernel_rfl) rfl (⟨trivial, trivial, trivial⟩) (fun β w hm => O w hm.below) ?_) | (refine callX (.tup [.agg [.str QF1, .str QF2], .int .i64 QE]) (by kernel_rfl) rfl (⟨⟨trivial, trivial, trivial⟩, trivial, trivial⟩) (fun β w hm => V w hm.below) ?_) | fail) | ((with_reducible show OpX ..); first | fail) | ((with_reducible show ∃ _ : SV, _); first | fail) | ((with_reducible show ∃ _, _); first | (refine ⟨0, rfl, by simp, ?_⟩) | (refine ⟨1, rfl, by simp, ?_⟩)))
  all_goals first | (exfalso; omega) | (obtain ⟨rfl, rfl, rfl⟩ := h1 (by assumption); rfl) | (obtain ⟨rfl, rfl, e⟩ := h3 (by assumption) (by assumption) (by assumption); rw [e]; rfl) | (obtain ⟨rfl, rfl, e⟩ := h2 (by assumption) (fun h => by have := h.1; have := h.2; simp_all); rw [e]; rfl) | trace_state
end
end Go.Proofs.YtdkhkfdenlabaaaGreatDoor
namespace Go.Proofs.YtdkhkfdenlabaaaGreatDoor
open Go.RowKit
open Sym
theorem XV.pos {w : World} (h : XV w) : 0 < w.heap.size := by
  obtain ⟨m, hm⟩ := h.len
  exact Nat.lt_of_le_of_lt (Nat.zero_le _) (World.block_lt_of_cell? _ _ hm)
namespace ExP
theorem writeF_len (x : Num) : (writeF x).1.length ≤ 301 ∧ (writeF x).2.length ≤ 300 := by
  unfold writeF
  split
  · exact ⟨by simp, by simp⟩
  · split
    · exact ⟨by simp, by simp⟩
    · rename_i h
      unfold overP at h
      have : (signP x.m (Lib.decDigits (redN x))).length ≤ (Lib.decDigits (redN x)).length + 1 := by unfold signP; split <;> simp
      exact ⟨by dsimp only; omega, by dsimp only; omega⟩
theorem scale_pos {x : Num} {k : Int} (h : 0 < x.d) : 0 < (scaleN x k).d := by
  unfold scaleN
  split
  · exact Nat.mul_pos h (Nat.pow_pos (by omega))
  · exact h
theorem decN_pos (s : Str) : 0 < (decN s).d := scale_pos Nat.one_pos
theorem dig_len {n : Nat} (h : nd 10 n ≤ 300) : (Lib.decDigits n).length ≤ 300 := by
  rcases Nat.eq_zero_or_pos n with rfl | h0
  · rw [Lib.decDigits_one (by omega)]; simp
  · rw [nd_dec h0]; exact h
theorem read_whole {n : Nat} (h : nd 10 n ≤ 300) : readE (Lib.decDigits n, [49]) = 0 ∧ readN (Lib.decDigits n, [49]) = ⟨false, n, 1⟩ := by
  have e1 : Lib.decDigits 1 = [49] := by rw [Lib.decDigits_one (by omega)]; rfl
  rw [← e1]
  exact read_write (by omega) (dig_len h) (dig_len (by rw [nd_one (by omega)]; omega)) (Nat.gcd_one_right n)
theorem div_eq {x y : Num} {n : Nat} (h : EqN x y) (hn : 0 < n) : EqN (divN x ⟨false, n, 1⟩) ⟨y.m, y.n, y.d * n⟩ := by
  have e : divN x ⟨false, n, 1⟩ = ⟨x.m != false, x.n * 1, x.d * n⟩ := by unfold divN; rw [if_neg (by dsimp only; omega)]; rfl
  rw [e]
  refine ⟨Nat.mul_pos h.dx hn, Nat.mul_pos h.dy hn, ?_, ?_⟩
  · dsimp only
    rw [Nat.mul_one, ← Nat.mul_assoc, h.cross, Nat.mul_assoc]
  · intro h0
    have := h.sign (by simpa using h0)
    dsimp only
    rw [this]; simp
end ExP
section
attribute [local irreducible] Calls Sym.AggEq ExP.nd ExP.dig ExP.upd ExP.writeF ExP.writeE
open VaP ExP
theorem number_any (s : List UInt8) (w : World) (hw : XV w) (hs : s ≠ []) (hl : s.length ≤ 40000) :
    ∃ F : ExP.Fr, (∀ x, VaP.numV s = some x → F = ExP.writeF x) ∧ ∀ w', Below w.heap.size w w' → Calls Tryz.prog 56 #[.string (bstr s)] w' fun e w'' => e = .returned (.tuple #[frV F, .bool (VaP.numV s).isSome]) ∧ Below w'.heap.size w' w'' := by
  obtain ⟨e1, e2⟩ := VaP.grp_cut (VaP.sgn s).2
  have hsl : (VaP.sgn s).2.length ≤ 40000 := by
    unfold VaP.sgn
    split
    · simp; omega
    · split
      · simp; omega
      · exact hl
  have hgl := VaP.grp_len (VaP.cutP (VaP.sgn s).2).1
  have hcl : (VaP.cutP (VaP.sgn s).2).1.length ≤ (VaP.sgn s).2.length := by
    unfold VaP.cutP
    split
    · simp
    · exact Nat.le_refl _
  have hsg := VaP.sgn_two s
  have hgl0 := VaP.grp_len (VaP.sgn s).2
  have hN : VaP.numV s = if (VaP.grp (VaP.cutP (VaP.sgn s).2).1).1 = [] then none else VaP.numG ((VaP.sgn s).1 ++ (VaP.grp (VaP.cutP (VaP.sgn s).2).1).1 ++ (VaP.grp (VaP.cutP (VaP.sgn s).2).1).2) (VaP.cutP (VaP.sgn s).2).2 := by
    rw [List.append_assoc]; rfl
  have G0 := fun (w' : World) => grouped_any (VaP.sgn s).2 w' (by omega)
  have U0 := fun (w' : World) => cutPct_any (VaP.grp (VaP.sgn s).2).2 w' (by omega)
  rw [e1] at G0
  simp only [e2] at U0
  generalize (VaP.cutP (VaP.sgn s).2).2 = pc at *
  generalize (VaP.grp (VaP.sgn s).2).2 = r at *
  generalize hx : (VaP.cutP (VaP.sgn s).2).1 = x at *
  generalize (VaP.grp x).1 = d at *
  generalize (VaP.grp x).2 = r2 at *
  obtain ⟨t, ht⟩ : ∃ t, t = (VaP.sgn s).1 ++ d ++ r2 := ⟨_, rfl⟩
  have htl : t.length ≤ 100000 := by
    rw [ht]
    simp only [List.length_append]
    have : (VaP.sgn s).1.length ≤ 1 := by rcases hsg with h | h <;> rw [h] <;> simp
    omega
  have P0 := fun (w' : World) (h : Below w.heap.size w w') => parse_law t w' (hw.below h).xw (hw.below h).pos (by omega)
  have O0 := fun (w' : World) (h : Below w.heap.size w w') => of_any 100 w' (hw.below h).xw (by omega) (by omega)
  have hi : Lib.itoa 100 = Lib.decDigits 100 := rfl
  rw [hi] at O0
  have h100 : ExP.nd 10 100 ≤ 300 := Nat.le_trans (ExP.nd_le (n := 3) (by omega) (by decide)) (by omega)
  obtain ⟨k1, k2⟩ := ExP.read_whole h100
  obtain ⟨PF, hPF⟩ : ∃ F : ExP.Fr, F = if ExP.parE t = 0 then ExP.writeF (ExP.decN t) else ([], []) := ⟨_, rfl⟩
  obtain ⟨PE, hPE⟩ : ∃ E : Int, E = if ExP.parE t = 0 then ExP.writeE (ExP.decN t) else ExP.parE t := ⟨_, rfl⟩
  have hPl : PF.1.length ≤ 301 ∧ PF.2.length ≤ 300 := by
    rw [hPF]
    split
    · exact ExP.writeF_len _
    · exact ⟨by simp, by simp⟩
  have V0 := fun (w' : World) (h : Below w.heap.size w w') => div_any PF (Lib.decDigits 100, [49]) w' (hw.below h).xw (hw.below h).pos (by omega) (by omega) (by dsimp only; have := ExP.dig_len h100; omega) (by simp)
  rw [← hPF, ← hPE] at P0
  have hgood : PE = 0 ↔ ExP.parE t = 0 ∧ ExP.writeE (ExP.decN t) = 0 := by
    rw [hPE]
    split
    · rename_i h; simp [h]
    · rename_i h; simp [h]
  have hQ : PE = 0 → ExP.twoF PF (Lib.decDigits 100, [49]) (ExP.divN (ExP.readN PF) (ExP.readN (Lib.decDigits 100, [49]))) (ExP.divE (ExP.readN (Lib.decDigits 100, [49]))) = ExP.writeF (ExP.scaleN (ExP.decN t) (-2)) ∧ ExP.twoE PF (Lib.decDigits 100, [49]) (ExP.divN (ExP.readN PF) (ExP.readN (Lib.decDigits 100, [49]))) (ExP.divE (ExP.readN (Lib.decDigits 100, [49]))) = ExP.writeE (ExP.scaleN (ExP.decN t) (-2)) := fun h => by
    obtain ⟨g1, g2⟩ := hgood.1 h
    have hF : PF = ExP.writeF (ExP.decN t) := by rw [hPF, if_pos g1]
    obtain ⟨r1, r3, -⟩ := ExP.write_read (ExP.decN_pos t) g2
    rw [← hF] at r1 r3
    have hb : ExP.bothE PF (Lib.decDigits 100, [49]) = 0 := by unfold ExP.bothE; rw [if_pos r1]; exact k1
    have hd := ExP.div_eq r3 (n := 100) (by omega)
    have hz : ExP.divE (⟨false, 100, 1⟩ : ExP.Num) = 0 := rfl
    have hsc : ExP.scaleN (ExP.decN t) (-2) = ⟨(ExP.decN t).m, (ExP.decN t).n, (ExP.decN t).d * 100⟩ := rfl
    rw [k2, hz]
    unfold ExP.twoF ExP.twoE
    rw [if_pos hb, if_pos rfl, if_pos hb, if_pos rfl, hsc]
    exact ExP.write_same hd
  generalize ExP.twoF PF (Lib.decDigits 100, [49]) (ExP.divN (ExP.readN PF) (ExP.readN (Lib.decDigits 100, [49]))) (ExP.divE (ExP.readN (Lib.decDigits 100, [49]))) = QF at *
  generalize ExP.twoE PF (Lib.decDigits 100, [49]) (ExP.divN (ExP.readN PF) (ExP.readN (Lib.decDigits 100, [49]))) (ExP.divE (ExP.readN (Lib.decDigits 100, [49]))) = QE at *
  rw [← ht] at hN
  have hGn : VaP.numG t pc = if PE = 0 then (if pc = true then (if QE = 0 then some (ExP.scaleN (ExP.decN t) (-2)) else none) else some (ExP.decN t)) else none := by
    unfold VaP.numG
    by_cases h : PE = 0
    · obtain ⟨g1, g2⟩ := hgood.1 h
      rw [if_neg (by rw [g1, g2]; simp), if_pos h, (hQ h).2]
    · rw [if_neg h, if_pos]
      rcases Decidable.em (ExP.parE t = 0) with g | g
      · exact .inr fun g2 => h (hgood.2 ⟨g, g2⟩)
      · exact .inl g
  rw [hGn] at hN
  refine ⟨if d = [] then ([], []) else if PE = 0 ∧ pc = true then QF else PF, ?_, fun w' hb => ?_⟩
  · intro x hx
    rw [hN] at hx
    by_cases h0 : d = []
    · rw [if_pos h0] at hx; cases hx
    · rw [if_neg h0] at hx ⊢
      by_cases h1 : PE = 0
      · rw [if_pos h1] at hx
        by_cases h2 : pc = true
        · rw [if_pos h2] at hx
          rw [if_pos ⟨h1, h2⟩]
          split at hx
          · cases hx; exact (hQ h1).1
          · cases hx
        · rw [if_neg h2] at hx
          rw [if_neg (fun h => h2 h.2)]
          cases hx
          rw [hPF, if_pos (hgood.1 h1).1]
      · rw [if_neg h1] at hx; cases hx
  · obtain ⟨F, hF⟩ : ∃ F : ExP.Fr, F = if d = [] then ([], []) else if PE = 0 ∧ pc = true then QF else PF := ⟨_, rfl⟩
    obtain ⟨ok, hok⟩ : ∃ ok, ok = (VaP.numV s).isSome := ⟨_, rfl⟩
    rw [← hF, ← hok]
    rw [hN] at hok
    have h1 : d = [] → F = ([], []) ∧ ok = false := fun h => by rw [hF, hok, if_pos h, if_pos h]; exact ⟨rfl, rfl⟩
    have h2 : d ≠ [] → ¬ (PE = 0 ∧ pc = true) → F = PF ∧ ok = decide (PE = 0) := fun h h' => by
      rw [hF, hok, if_neg h, if_neg h, if_neg h']
      refine ⟨rfl, ?_⟩
      by_cases hp : PE = 0
      · rw [if_pos hp, if_neg (fun h => h' ⟨hp, h⟩), decide_eq_true hp]; rfl
      · rw [if_neg hp, decide_eq_false hp]; rfl
    have h3 : d ≠ [] → PE = 0 → pc = true → F = QF ∧ ok = decide (QE = 0) := fun h h' h'' => by
      rw [hF, hok, if_neg h, if_neg h, if_pos ⟨h', h''⟩, if_pos h', if_pos h'']
      refine ⟨rfl, ?_⟩
      by_cases hp : QE = 0
      · rw [if_pos hp, decide_eq_true hp]; rfl
      · rw [if_neg hp, decide_eq_false hp]; rfl
    clear hN hGn hQ hgood hPE hPF hF hok
    obtain ⟨F1, F2⟩ := F
    obtain ⟨PF1, PF2⟩ := PF
    obtain ⟨QF1, QF2⟩ := QF
    simp only [Prod.mk.injEq, and_assoc] at h1 h2 h3
    rw [ht] at P0
    cases s with
    | nil => exact absurd rfl hs
    | cons c q =>
      have G := fun (w'' : World) (_ : Below w'.heap.size w' w'') => G0 w''
      have U := fun (w'' : World) (_ : Below w'.heap.size w' w'') => U0 w''
      have P := fun (w'' : World) (h : Below w'.heap.size w' w'') => P0 w'' (hb.trans (h.mono hb.size))
      have O := fun (w'' : World) (h : Below w'.heap.size w' w'') => O0 w'' (hb.trans (h.mono hb.size))
      have V := fun (w'' : World) (h : Below w'.heap.size w' w'') => V0 w'' (hb.trans (h.mono hb.size))
      have hdr : d.length + r2.length ≤ 40000 := by omega
      by_cases c1 : c = 43
      · exact number_plus c q _ _ d r r2 pc ok PF1 PF2 QF1 QF2 _ _ F1 F2 PE QE w' hl hdr G U P O V h1 h2 h3 c1 (by subst c1; exact ⟨rfl, rfl⟩)
      · by_cases c2 : c = 45
        · exact number_minus c q _ _ d r r2 pc ok PF1 PF2 QF1 QF2 _ _ F1 F2 PE QE w' hl hdr G U P O V h1 h2 h3 c2 (by subst c2; exact ⟨rfl, rfl⟩)
        · have e : VaP.sgn (c :: q) = ([], c :: q) := by
            unfold VaP.sgn
            rw [if_neg (by simpa using c1), if_neg (by simpa using c2)]
          exact number_none c q _ _ d r r2 pc ok PF1 PF2 QF1 QF2 _ _ F1 F2 PE QE w' hl hdr G U P O V h1 h2 h3 ⟨c1, c2⟩ (by rw [e]; exact ⟨rfl, rfl⟩)
end
end Go.Proofs.YtdkhkfdenlabaaaGreatDoor
namespace Go.Proofs.YtdkhkfdenlabaaaGreatDoor
open Go.RowKit
open Sym
attribute [local irreducible] Calls Sym.AggEq ExP.nd ExP.dig ExP.upd ExP.writeF ExP.writeE
/-- a value as its cells -/
abbrev vtV (t : VaP.VT) (a : Option Addr) (cap : Nat) : Value := .agg #[.int .i64 t.kind, .string (bstr t.num.1), .string (bstr t.num.2), .string (bstr t.text), .bool t.on, .int .i64 t.code, .int .i64 t.rows, .int .i64 t.cols, .slice a t.items.length cap]
/-- fields without meaning are not zero -/
def VaP.zBad (t : VaP.VT) : Prop := (t.kind ≠ 1 ∧ ¬ (t.num.1 = [] ∧ t.num.2 = [])) ∨ (t.kind ≠ 2 ∧ t.text ≠ []) ∨ (t.kind ≠ 3 ∧ t.on = true) ∨ (t.kind ≠ 4 ∧ t.code ≠ 0) ∨ (t.kind ≠ 5 ∧ (t.rows ≠ 0 ∨ t.cols ≠ 0 ∨ t.items.length ≠ 0))
theorem fracAggF {a b c d : List UInt8} (h : ¬ (a = c ∧ b = d)) : AggEq Tryz.prog 25 [.str a, .str b] [.str c, .str d] false := by
  have := fracAgg a b c d
  have e : (a == c && b == d) = false := by
    cases hh : (a == c && b == d) with
    | false => rfl
    | true => simp only [Bool.and_eq_true, beq_iff_eq] at hh; exact absurd hh h
  rwa [e] at this
set_option maxRecDepth 100000 in
set_option maxHeartbeats 4000000 in
theorem zeros_any (t : VaP.VT) (a : Option Addr) (cap : Nat) (w : World) (Z : Int) (hB : VaP.zBad t → Z = 4) (hG : ¬ VaP.zBad t → Z = 0) : Calls Tryz.prog 69 #[vtV t a cap] w fun e w' => e = .returned (.int .i64 Z) ∧ Below w.heap.size w w' := by
  obtain ⟨k, ⟨n1, n2⟩, tx, on, cd, rw', cl, its⟩ := t
  have hn : (its.length : Int) = 0 ∨ 0 < (its.length : Int) := by omega
  unfold VaP.zBad at hB hG
  dsimp only at hB hG ⊢
  unfold vtV
  dsimp only
  generalize its.length = n at *
  by_cases hf : n1 = [] ∧ n2 = []
  · obtain ⟨rfl, rfl⟩ := hf
    refine enter env_ok Tryz.func69 rfl Tryz.results69 Tryz.ntmps69 [] [] [.agg [.int .i64 k, .str [], .str [], .str tx, .bool on, .int .i64 cd, .int .i64 rw', .int .i64 cl, .any (.slice a n cap)]] ⟨⟨trivial, trivial, trivial, trivial, trivial, trivial, trivial, trivial, rfl, trivial⟩, trivial⟩ (Nat.le_of_ble_eq_true rfl) w _ 1000 ?_
    repeat' (first | ((with_reducible first | show wpS .. | show putD .. | show putW .. | show splitG .. | show wpQ .. | show wpD .. | show wpX .. | show expX .. | show stepX .. | show keepR .. | show wpY ..); conv => whnf) | ((with_reducible show RetN ..); refine retB fun β => ?_) | ((with_reducible show _ ∧ _); first | (refine ⟨fun h => absurd h (by first | omega | decide), fun _ => ?_⟩) | (refine ⟨fun _ => ?_, fun h => absurd h (by first | omega | decide)⟩) | (refine ⟨fun _ => ?_, fun _ => ?_⟩) | (apply And.intro; · kernel_rfl) | (apply And.intro; · (show inK _ _; unfold inK; omega)) | (apply And.intro; · (show (_ : Int) ≤ 9223372036854775807; (try simp only [lenS]); omega))) | ((with_reducible show AllBe ..); refine allBe fun βe => ?_; conv => whnf) | ((with_reducible show bothX ..); refine bothI ?_ ?_; conv => whnf) | (with_reducible exact trivial) | ((with_reducible show CallN ..); refine call_of env_ok rfl 1000 ?_) | ((with_reducible show XopN ..); refine xop_of env_ok rfl 1000 ?_) | ((with_reducible show CallX ..); first | fail) | ((with_reducible show OpX ..); first | fail) | ((with_reducible show ∃ _ : SV, _); first | (refine ⟨_, ?ok, x_len Tryz.underlying26, ?_⟩; (case ok => exact fun _ _ => trivial))) | ((with_reducible show ∃ _, _); first | (refine ⟨true, fracAggT _ _, ?_⟩) | fail))
    all_goals first | (rw [hB (by clear hB hG; simp_all; try omega)]; rfl) | (rw [hG (by clear hB hG; simp_all; try omega)]; rfl) | (exfalso; omega) | trace_state
  · refine enter env_ok Tryz.func69 rfl Tryz.results69 Tryz.ntmps69 [] [] [.agg [.int .i64 k, .str n1, .str n2, .str tx, .bool on, .int .i64 cd, .int .i64 rw', .int .i64 cl, .any (.slice a n cap)]] ⟨⟨trivial, trivial, trivial, trivial, trivial, trivial, trivial, trivial, rfl, trivial⟩, trivial⟩ (Nat.le_of_ble_eq_true rfl) w _ 1000 ?_
    repeat' (first | ((with_reducible first | show wpS .. | show putD .. | show putW .. | show splitG .. | show wpQ .. | show wpD .. | show wpX .. | show expX .. | show stepX .. | show keepR .. | show wpY ..); conv => whnf) | ((with_reducible show RetN ..); refine retB fun β => ?_) | ((with_reducible show _ ∧ _); first | (refine ⟨fun h => absurd h (by first | omega | decide), fun _ => ?_⟩) | (refine ⟨fun _ => ?_, fun h => absurd h (by first | omega | decide)⟩) | (refine ⟨fun _ => ?_, fun _ => ?_⟩) | (apply And.intro; · kernel_rfl) | (apply And.intro; · (show inK _ _; unfold inK; omega)) | (apply And.intro; · (show (_ : Int) ≤ 9223372036854775807; (try simp only [lenS]); omega))) | ((with_reducible show AllBe ..); refine allBe fun βe => ?_; conv => whnf) | ((with_reducible show bothX ..); refine bothI ?_ ?_; conv => whnf) | (with_reducible exact trivial) | ((with_reducible show CallN ..); refine call_of env_ok rfl 1000 ?_) | ((with_reducible show XopN ..); refine xop_of env_ok rfl 1000 ?_) | ((with_reducible show CallX ..); first | fail) | ((with_reducible show OpX ..); first | fail) | ((with_reducible show ∃ _ : SV, _); first | (refine ⟨_, ?ok, x_len Tryz.underlying26, ?_⟩; (case ok => exact fun _ _ => trivial))) | ((with_reducible show ∃ _, _); first | (refine ⟨false, fracAggF hf, ?_⟩) | fail))
    all_goals first | (rw [hB (by clear hB hG; simp_all; try omega)]; rfl) | (rw [hG (by clear hB hG; simp_all; try omega)]; rfl) | (exfalso; omega) | trace_state
theorem vErr0_range {t : VaP.VT} (h : t.kind < 0 ∨ 5 < t.kind) : VaP.vErr0 t = 8 := if_pos h
theorem zBad_iff (t : VaP.VT) : VaP.zBad t ↔ ((t.kind ≠ 1 ∧ t.num ≠ ([], [])) ∨ (t.kind ≠ 2 ∧ t.text ≠ []) ∨ (t.kind ≠ 3 ∧ t.on = true) ∨ (t.kind ≠ 4 ∧ t.code ≠ 0) ∨ (t.kind ≠ 5 ∧ (t.rows ≠ 0 ∨ t.cols ≠ 0 ∨ t.items ≠ []))) := by
  have h1 : (t.num.1 = [] ∧ t.num.2 = []) ↔ t.num = ([], []) := ⟨fun h => Prod.ext h.1 h.2, fun h => by rw [h]; exact ⟨rfl, rfl⟩⟩
  have h2 : t.items.length ≠ 0 ↔ t.items ≠ [] := by rw [Ne, List.length_eq_zero_iff]
  unfold VaP.zBad
  rw [h1, h2]
theorem vErr0_bad {t : VaP.VT} (h : ¬ (t.kind < 0 ∨ 5 < t.kind)) (hb : VaP.zBad t) : VaP.vErr0 t = 4 := by
  unfold VaP.vErr0
  rw [if_neg h, if_pos ((zBad_iff t).1 hb)]
theorem vErr0_ok {t : VaP.VT} (h : ¬ (t.kind < 0 ∨ 5 < t.kind)) (hb : ¬ VaP.zBad t) : VaP.vErr0 t = if t.kind = 1 then ExP.readE t.num else if t.kind = 2 then VaP.txtE t.text else if t.kind = 4 ∧ (t.code < 1 ∨ 8 < t.code) then 2 else 0 := by
  unfold VaP.vErr0
  rw [if_neg h, if_neg (fun h => hb ((zBad_iff t).2 h))]
/-- lengths that Go's texts have -/
structure VaP.VT.Fit (t : VaP.VT) : Prop where
  n1 : t.num.1.length ≤ 9223372036854775807
  n2 : t.num.2.length ≤ 9223372036854775807
  tx : t.text.length ≤ 9223372036854775807
  it : t.items.length ≤ 9223372036854775807
section
variable (t : VaP.VT) (a : Option Addr) (cap : Nat) (w : World) (hw : XV w) (hf : t.Fit)
include hw hf
set_option maxRecDepth 100000 in
set_option maxHeartbeats 4000000 in
theorem check_bad (h : (t.kind < 0 ∨ 5 < t.kind) ∨ VaP.zBad t) : Calls Tryz.prog 13 #[vtV t a cap] w fun e w' => e = .returned (.int .i64 (VaP.vErr0 t)) ∧ Below w.heap.size w w' := by
  have _hw := hw
  by_cases hr : t.kind < 0 ∨ 5 < t.kind
  · rw [vErr0_range hr]
    obtain ⟨k, ⟨n1, n2⟩, tx, on, cd, rw', cl, its⟩ := t
    dsimp only at *
    refine enter env_ok Tryz.func13 rfl Tryz.results13 Tryz.ntmps13 [] [] [.agg [.int .i64 k, .str n1, .str n2, .str tx, .bool on, .int .i64 cd, .int .i64 rw', .int .i64 cl, .any (.slice a its.length cap)]] ⟨⟨trivial, trivial, trivial, trivial, trivial, trivial, trivial, trivial, rfl, trivial⟩, trivial⟩ (Nat.le_of_ble_eq_true rfl) w _ 1000 ?_
    repeat' (first | ((with_reducible first | show wpS .. | show putD .. | show putW .. | show splitG .. | show wpQ .. | show wpD .. | show wpX .. | show expX .. | show stepX .. | show keepR .. | show wpY ..); conv => whnf) | ((with_reducible show RetN ..); refine retB fun β => ?_) | ((with_reducible show _ ∧ _); first | (refine ⟨fun h => absurd h (by first | omega | decide), fun _ => ?_⟩) | (refine ⟨fun _ => ?_, fun h => absurd h (by first | omega | decide)⟩) | (refine ⟨fun _ => ?_, fun _ => ?_⟩) | (apply And.intro; · kernel_rfl) | (apply And.intro; · (show inK _ _; unfold inK; omega)) | (apply And.intro; · (show (_ : Int) ≤ 9223372036854775807; (try simp only [lenS]); omega))) | ((with_reducible show AllBe ..); refine allBe fun βe => ?_; conv => whnf) | ((with_reducible show bothX ..); refine bothI ?_ ?_; conv => whnf) | (with_reducible exact trivial) | ((with_reducible show CallN ..); refine call_of env_ok rfl 1000 ?_) | ((with_reducible show XopN ..); refine xop_of env_ok rfl 1000 ?_) | ((with_reducible show CallX ..); first | fail) | ((with_reducible show OpX ..); first | fail) | ((with_reducible show ∃ _ : SV, _); first | fail) | ((with_reducible show ∃ _, _); first | fail))
    all_goals first | rfl | (exfalso; omega)
  · have hz := h.resolve_left hr
    rw [vErr0_bad hr hz]
    have Z := fun (w' : World) => zeros_any t a cap w' 4 (fun _ => rfl) (fun h => absurd hz h)
    clear hz h
    obtain ⟨k, ⟨n1, n2⟩, tx, on, cd, rw', cl, its⟩ := t
    unfold vtV at *
    dsimp only at *
    refine enter env_ok Tryz.func13 rfl Tryz.results13 Tryz.ntmps13 [] [] [.agg [.int .i64 k, .str n1, .str n2, .str tx, .bool on, .int .i64 cd, .int .i64 rw', .int .i64 cl, .any (.slice a its.length cap)]] ⟨⟨trivial, trivial, trivial, trivial, trivial, trivial, trivial, trivial, rfl, trivial⟩, trivial⟩ (Nat.le_of_ble_eq_true rfl) w _ 1000 ?_
    repeat' (first | ((with_reducible first | show wpS .. | show putD .. | show putW .. | show splitG .. | show wpQ .. | show wpD .. | show wpX .. | show expX .. | show stepX .. | show keepR .. | show wpY ..); conv => whnf) | ((with_reducible show RetN ..); refine retB fun β => ?_) | ((with_reducible show _ ∧ _); first | (refine ⟨fun h => absurd h (by first | omega | decide), fun _ => ?_⟩) | (refine ⟨fun _ => ?_, fun h => absurd h (by first | omega | decide)⟩) | (refine ⟨fun _ => ?_, fun _ => ?_⟩) | (apply And.intro; · kernel_rfl) | (apply And.intro; · (show inK _ _; unfold inK; omega)) | (apply And.intro; · (show (_ : Int) ≤ 9223372036854775807; (try simp only [lenS]); omega))) | ((with_reducible show AllBe ..); refine allBe fun βe => ?_; conv => whnf) | ((with_reducible show bothX ..); refine bothI ?_ ?_; conv => whnf) | (with_reducible exact trivial) | ((with_reducible show CallN ..); refine call_of env_ok rfl 1000 ?_) | ((with_reducible show XopN ..); refine xop_of env_ok rfl 1000 ?_) | ((with_reducible show CallX ..); first | (refine callX (.int .i64 4) (by kernel_rfl) rfl (trivial) (fun β w hm => Z w) ?_)) | ((with_reducible show OpX ..); first | fail) | ((with_reducible show ∃ _ : SV, _); first | fail) | ((with_reducible show ∃ _, _); first | fail))
    all_goals first | rfl | (exfalso; omega)
set_option maxRecDepth 100000 in
set_option maxHeartbeats 4000000 in
theorem check_sc (h5 : t.kind ≠ 5) : Calls Tryz.prog 13 #[vtV t a cap] w fun e w' => e = .returned (.int .i64 (VaP.vErr0 t)) ∧ Below w.heap.size w w' := by
  by_cases hb : (t.kind < 0 ∨ 5 < t.kind) ∨ VaP.zBad t
  · exact check_bad t a cap w hw hf hb
  · simp only [not_or] at hb
    rw [vErr0_ok (by simpa using hb.1) hb.2]
    have Z := fun (w' : World) => zeros_any t a cap w' 0 (fun h => absurd h hb.2) (fun _ => rfl)
    have N := fun (w' : World) (h : Below w.heap.size w w') => check_any t.num w' (hw.below h).pos hf.n1 hf.n2
    have T := fun (w' : World) (h : Below w.heap.size w w') => vtext_any t.text w' (hw.below h) hf.tx
    have F := fun (w' : World) (h : Below w.heap.size w w') => ftext_any t.code w' (hw.below h)
    have hF := ftextI_nil t.code
    obtain ⟨hb1, hb2⟩ := hb
    clear hb2
    obtain ⟨k, ⟨n1, n2⟩, tx, on, cd, rw', cl, its⟩ := t
    unfold vtV at *
    dsimp only at *
    generalize ExP.readE (n1, n2) = NE at *
    generalize VaP.txtE tx = TE at *
    generalize VaP.ftextI cd = FT at *
    refine enter env_ok Tryz.func13 rfl Tryz.results13 Tryz.ntmps13 [] [] [.agg [.int .i64 k, .str n1, .str n2, .str tx, .bool on, .int .i64 cd, .int .i64 rw', .int .i64 cl, .any (.slice a its.length cap)]] ⟨⟨trivial, trivial, trivial, trivial, trivial, trivial, trivial, trivial, rfl, trivial⟩, trivial⟩ (Nat.le_of_ble_eq_true rfl) w _ 1000 ?_
    repeat' (first | ((with_reducible first | show wpS .. | show putD .. | show putW .. | show splitG .. | show wpQ .. | show wpD .. | show wpX .. | show expX .. | show stepX .. | show keepR .. | show wpY ..); conv => whnf) | ((with_reducible show RetN ..); refine retB fun β => ?_) | ((with_reducible show _ ∧ _); first | (refine ⟨fun h => absurd h (by first | omega | decide), fun _ => ?_⟩) | (refine ⟨fun _ => ?_, fun h => absurd h (by first | omega | decide)⟩) | (refine ⟨fun _ => ?_, fun _ => ?_⟩) | (apply And.intro; · kernel_rfl) | (apply And.intro; · (show inK _ _; unfold inK; omega)) | (apply And.intro; · (show (_ : Int) ≤ 9223372036854775807; (try simp only [lenS]); omega))) | ((with_reducible show AllBe ..); refine allBe fun βe => ?_; conv => whnf) | ((with_reducible show bothX ..); refine bothI ?_ ?_; conv => whnf) | (with_reducible exact trivial) | ((with_reducible show CallN ..); refine call_of env_ok rfl 1000 ?_) | ((with_reducible show XopN ..); refine xop_of env_ok rfl 1000 ?_) | ((with_reducible show CallX ..); first | (refine callX (.int .i64 0) (by kernel_rfl) rfl (trivial) (fun β w hm => Z w) ?_) | (refine callX (.int .i64 NE) (by kernel_rfl) rfl (trivial) (fun β w hm => N w hm.below) ?_) | (refine callX (.int .i64 TE) (by kernel_rfl) rfl (trivial) (fun β w hm => T w hm.below) ?_) | (refine callX (.str FT) (by kernel_rfl) rfl (trivial) (fun β w hm => F w hm.below) ?_) | fail) | ((with_reducible show OpX ..); first | fail) | ((with_reducible show ∃ _ : SV, _); first | fail) | ((with_reducible show ∃ _, _); first | fail))
    all_goals first | (exfalso; omega) | (rw [if_pos (by assumption : k = 1)]; rfl) | (rw [if_neg (by assumption : ¬ k = 1), if_pos (by assumption : k = 2)]; rfl) | (rw [if_neg (by assumption : ¬ k = 1), if_neg (by assumption : ¬ k = 2), if_pos ⟨(by assumption : k = 4), hF.1 (by assumption)⟩]; rfl) | (rw [if_neg (by assumption : ¬ k = 1), if_neg (by assumption : ¬ k = 2), if_neg (fun h => (by assumption : ¬ FT = []) (hF.2 h.2))]; rfl) | (rw [if_neg (by assumption : ¬ k = 1), if_neg (by assumption : ¬ k = 2), if_neg (fun h => (by assumption : ¬ k = 4) h.1)]; rfl) | trace_state
end
/-- the items of a value as they lie in memory -/
def itCells (x : VaP.VT) (p : Option Addr × Nat) : List Value := [.int .i64 x.kind, .string (bstr x.num.1), .string (bstr x.num.2), .string (bstr x.text), .bool x.on, .int .i64 x.code, .int .i64 x.rows, .int .i64 x.cols, .slice p.1 x.items.length p.2]
inductive VIn (w : World) : VaP.VT → Option Addr → Nat → Prop where
  | mk (t : VaP.VT) (a : Option Addr) (cap : Nat) (ps : Nat → Option Addr × Nat) (hf : t.Fit) (hc : t.items.length ≤ cap) (hn : a = none → cap = 0)
      (hi : ∀ i x, t.items[i]? = some x → VIn w x (ps i).1 (ps i).2)
      (hs : ∀ i x, t.items[i]? = some x → ∃ ad, a = some ad ∧ ad.block < w.heap.size ∧ ∀ j v, (itCells x (ps i))[j]? = some v → w.cell? (ad.add (i * 9 + j)) = some v) : VIn w t a cap
theorem VIn.fit {w : World} {t : VaP.VT} {a : Option Addr} {cap : Nat} (h : VIn w t a cap) : t.Fit := by cases h; assumption
theorem VIn.lift {w w' : World} {t : VaP.VT} {a : Option Addr} {cap : Nat} (h : VIn w t a cap) (hb : Below w.heap.size w w') : VIn w' t a cap := by
  induction h with
  | mk t a cap ps hf hc hn hi hs ih =>
    refine .mk t a cap ps hf hc hn (fun i x hx => ih i x hx) (fun i x hx => ?_)
    obtain ⟨ad, h1, h2, h3⟩ := hs i x hx
    exact ⟨ad, h1, Nat.lt_of_lt_of_le h2 hb.size, fun j v hv => cell_below (h3 j v hv) hb⟩
end Go.Proofs.YtdkhkfdenlabaaaGreatDoor
namespace Go.Proofs.YtdkhkfdenlabaaaGreatDoor
open Go.RowKit
open Sym
attribute [local irreducible] Calls Sym.AggEq ExP.nd ExP.dig ExP.upd ExP.writeF ExP.writeE
/-- the error of an array -/
def VaP.arrE (t : VaP.VT) : Int := if t.rows < 1 ∨ 100000 < t.rows ∨ t.cols < 1 ∨ 100000 < t.cols then 2 else if 100000 < t.rows * t.cols then 3 else if (t.items.length : Int) ≠ t.rows * t.cols then 4 else VaP.itsE t.items
theorem itsE_split : ∀ (l : List VaP.VT) (i : Nat), VaP.itsE (l.take i) = 0 → VaP.itsE l = VaP.itsE (l.drop i)
  | [], i, _ => by simp
  | x :: l, 0, _ => rfl
  | x :: l, i + 1, h => by
    simp only [List.take_succ_cons, VaP.itsE] at h
    by_cases hx : VaP.itE x = 0
    · rw [if_neg (fun h => h hx)] at h
      rw [List.drop_succ_cons, ← itsE_split l i h, VaP.itsE, if_neg (fun h => h hx)]
    · rw [if_pos hx] at h; exact absurd h hx
theorem itsE_at {l : List VaP.VT} {i : Nat} {x : VaP.VT} (h : VaP.itsE (l.take i) = 0) (hx : l[i]? = some x) : VaP.itsE l = if VaP.itE x ≠ 0 then VaP.itE x else VaP.itsE (l.drop (i + 1)) := by
  obtain ⟨hlt, he⟩ := List.getElem?_eq_some_iff.1 hx
  rw [itsE_split l i h, List.drop_eq_getElem_cons hlt, he, VaP.itsE]
theorem itsE_next {l : List VaP.VT} {i : Nat} {x : VaP.VT} (h : VaP.itsE (l.take i) = 0) (hx : l[i]? = some x) (hz : VaP.itE x = 0) : VaP.itsE (l.take (i + 1)) = 0 := by
  rw [VaP.itsE_all] at h ⊢
  intro y hy
  obtain ⟨hlt, he⟩ := List.getElem?_eq_some_iff.1 hx
  rw [List.take_succ_eq_append_getElem hlt, he] at hy
  simp only [List.mem_append, List.mem_singleton] at hy
  exact hy.elim (h y) (fun e => by rw [e]; exact hz)
set_option maxRecDepth 100000 in
set_option maxHeartbeats 4000000 in
theorem array_any (t : VaP.VT) (a : Option Addr) (cap : Nat) (w : World) (hw : XV w) (ht : VIn w t a cap) : Calls Tryz.prog 71 #[vtV t a cap] w fun e w' => e = .returned (.int .i64 (VaP.arrE t)) ∧ Below w.heap.size w w' := by
  cases ht with
  | mk t a cap ps hf hc hn hi hs =>
  have hE : VaP.arrE t = if t.rows < 1 ∨ 100000 < t.rows ∨ t.cols < 1 ∨ 100000 < t.cols then 2 else if 100000 < t.rows * t.cols then 3 else if (t.items.length : Int) ≠ t.rows * t.cols then 4 else VaP.itsE t.items := rfl
  have C := fun (i : Nat) (x : VaP.VT) (hx : t.items[i]? = some x) (h5 : x.kind ≠ 5) (w' : World) (h : Below w.heap.size w w') => check_sc x (ps i).1 (ps i).2 w' (hw.below h) (hi i x hx).fit h5
  clear hf hn hi
  obtain ⟨k, ⟨n1, n2⟩, tx, on, cd, R, L, its⟩ := t
  unfold vtV at *
  dsimp only at *
  have hmul : ¬ (R < 1 ∨ 100000 < R ∨ L < 1 ∨ 100000 < L) → 1 ≤ R * L ∧ R * L ≤ 10000000000 := fun h => by
    have h1 : 1 ≤ R := by omega
    have h2 : 1 ≤ L := by omega
    have h3 : R * L ≤ 100000 * 100000 := Int.mul_le_mul (by omega) (by omega) (by omega) (by omega)
    have h4 : 1 * 1 ≤ R * L := Int.mul_le_mul h1 h2 (by omega) (by omega)
    omega
  generalize hn : its.length = n at *
  by_cases hb : R < 1 ∨ 100000 < R ∨ L < 1 ∨ 100000 < L
  · rw [hE, if_pos hb]
    clear hmul
    refine enter env_ok Tryz.func71 rfl Tryz.results71 Tryz.ntmps71 [] [] [.agg [.int .i64 k, .str n1, .str n2, .str tx, .bool on, .int .i64 cd, .int .i64 R, .int .i64 L, .any (.slice a n cap)]] ⟨⟨trivial, trivial, trivial, trivial, trivial, trivial, trivial, trivial, rfl, trivial⟩, trivial⟩ (Nat.le_of_ble_eq_true rfl) w _ 1000 ?_
    repeat' (first | ((with_reducible first | show wpS .. | show putD .. | show putW .. | show splitG .. | show wpQ .. | show wpD .. | show wpX .. | show expX .. | show stepX .. | show keepR .. | show wpY ..); conv => whnf) | ((with_reducible show RetN ..); refine retB fun β => ?_) | ((with_reducible show _ ∧ _); first | (refine ⟨fun h => absurd h (by first | omega | decide), fun _ => ?_⟩) | (refine ⟨fun _ => ?_, fun h => absurd h (by first | omega | decide)⟩) | (refine ⟨fun _ => ?_, fun _ => ?_⟩) | (apply And.intro; · kernel_rfl) | (apply And.intro; · (show inK _ _; unfold inK; omega)) | (apply And.intro; · (show (_ : Int) ≤ 9223372036854775807; (try simp only [lenS]); omega))) | ((with_reducible show AllBe ..); refine allBe fun βe => ?_; conv => whnf) | ((with_reducible show bothX ..); refine bothI ?_ ?_; conv => whnf) | (with_reducible exact trivial) | ((with_reducible show CallN ..); refine call_of env_ok rfl 1000 ?_) | ((with_reducible show XopN ..); refine xop_of env_ok rfl 1000 ?_) | ((with_reducible show CallX ..); first | fail) | ((with_reducible show OpX ..); first | fail) | ((with_reducible show ∃ _ : SV, _); first | fail) | ((with_reducible show ∃ _, _); first | fail))
    all_goals first | rfl | (exfalso; omega)
  · rw [if_neg hb] at hE
    have hm := hmul hb
    clear hmul
    refine enter env_ok Tryz.func71 rfl Tryz.results71 Tryz.ntmps71 [] [] [.agg [.int .i64 k, .str n1, .str n2, .str tx, .bool on, .int .i64 cd, .int .i64 R, .int .i64 L, .any (.slice a n cap)]] ⟨⟨trivial, trivial, trivial, trivial, trivial, trivial, trivial, trivial, rfl, trivial⟩, trivial⟩ (Nat.le_of_ble_eq_true rfl) w _ 1000 ?_
    repeat' (first | ((with_reducible first | show wpS .. | show putD .. | show putW .. | show splitG .. | show wpQ .. | show wpD .. | show wpX .. | show expX .. | show stepX .. | show keepR .. | show wpY ..); conv => whnf) | ((with_reducible show RetN ..); refine retB fun β => ?_) | ((with_reducible show _ ∧ _); first | (refine ⟨fun h => absurd h (by first | omega | decide), fun _ => ?_⟩) | (refine ⟨fun _ => ?_, fun h => absurd h (by first | omega | decide)⟩) | (refine ⟨fun _ => ?_, fun _ => ?_⟩) | (apply And.intro; · kernel_rfl) | (apply And.intro; · (show inK _ _; unfold inK; omega)) | (apply And.intro; · (show (_ : Int) ≤ 9223372036854775807; (try simp only [lenS]); omega))) | ((with_reducible show AllBe ..); refine allBe fun βe => ?_; conv => whnf) | ((with_reducible show bothX ..); refine bothI ?_ ?_; conv => whnf) | (with_reducible exact trivial) | ((with_reducible show CallN ..); refine call_of env_ok rfl 1000 ?_) | ((with_reducible show XopN ..); refine xop_of env_ok rfl 1000 ?_) | ((with_reducible show CallX ..); first | fail) | ((with_reducible show OpX ..); first | fail) | ((with_reducible show ∃ _ : SV, _); first | (refine ⟨_, ?ok, x_len Tryz.underlying26, ?_⟩; (case ok => exact fun _ _ => trivial))) | ((with_reducible show ∃ _, _); first | fail))
    all_goals first | (exfalso; omega) | (rw [hE, if_pos (by omega)]; rfl) | (rw [hE, if_neg (by omega), if_pos (by omega)]; rfl) | skip
    rw [if_neg (by omega), if_neg (by omega)] at hE
    rw [hE]
    clear hE
    refine loop env_ok rfl (T := {i : Nat // i ≤ n ∧ VaP.itsE (its.take i) = 0}) (fun t => ⟨[(40, .any (.slice a n cap)), (41, .int .i64 (n : Nat)), (42, .int .i64 (t.1 : Nat))], [], 0, 55⟩) (fun t => n - t.1) ⟨0, Nat.zero_le _, by simp [VaP.itsE]⟩ 1000 [] [] (fun _ => Nat.zero_le _) (by ((with_reducible show wk _ _); repeat' (first | exact trivial | exact eqSV_refl _ | (refine eqI ?_) | (refine eqS ?_) | (with_reducible exact rfl) | apply And.intro | exact Nat.zero_lt_one | exact Nat.le_of_ble_eq_true rfl | (with_reducible assumption) | ((show (_ : Int) = _); (try dsimp only); omega) | ((show eqSV _ _); simp [eqSV, isB, bval, *]; done) | rfl))) (fun t I hI => ?_)
    obtain ⟨i, hi, hz⟩ := t
    dsimp only
    by_cases hlt : i < n
    · obtain ⟨x, hx⟩ : ∃ x, its[i]? = some x := ⟨its[i]'(by omega), List.getElem?_eq_getElem (by omega)⟩
      obtain ⟨ad, rfl, hblk, hcell⟩ := hs i x hx
      have hat := itsE_at hz hx
      have hnx := itsE_next hz hx
      have Cx := C i x hx
      have hiE : VaP.itE x = if x.kind = 5 then 8 else VaP.vErr0 x := rfl
      have hld : ∀ w', Below w.heap.size w w' → ∀ (β : Nat → Nat) (j : Nat) (v : Value), (SV.dens β [.int .i64 x.kind, .str x.num.1, .str x.num.2, .str x.text, .bool x.on, .int .i64 x.code, .int .i64 x.rows, .int .i64 x.cols, .any (.slice (ps i).1 x.items.length (ps i).2)])[j]? = some v → w'.cell? ((ad.add (i * 9)).add j) = some v := fun w' hb β j v hv => by
        rw [Go.Deep.add_add]
        exact cell_below (hcell j v hv) hb
      unfold vtV at Cx
      clear hs C hcell hx hb hm
      generalize (ps i).1 = p1 at *
      generalize (ps i).2 = p2 at *
      generalize VaP.vErr0 x = XE at *
      generalize VaP.itE x = IE at *
      obtain ⟨xk, ⟨m1, m2⟩, xt, xo, xc, xr, xl, xi⟩ := x
      dsimp only at *
      repeat' (first | ((with_reducible first | show wpS .. | show putD .. | show putW .. | show splitG .. | show wpQ .. | show wpD .. | show wpX .. | show expX .. | show stepX .. | show keepR .. | show wpY ..); conv => whnf) | ((with_reducible show RetN ..); refine retB fun β => ?_) | ((with_reducible show _ ∧ _); first | (refine ⟨fun h => absurd h (by first | omega | decide), fun _ => ?_⟩) | (refine ⟨fun _ => ?_, fun h => absurd h (by first | omega | decide)⟩) | (refine ⟨fun _ => ?_, fun _ => ?_⟩) | (apply And.intro; · kernel_rfl) | (apply And.intro; · (show inK _ _; unfold inK; omega)) | (apply And.intro; · (show (_ : Int) ≤ 9223372036854775807; (try simp only [lenS]); omega))) | ((with_reducible show AllBe ..); refine allBe fun βe => ?_; conv => whnf) | ((with_reducible show bothX ..); refine bothI ?_ ?_; conv => whnf) | (with_reducible exact trivial) | ((with_reducible show CallN ..); refine call_of env_ok rfl 1000 ?_) | ((with_reducible show XopN ..); refine xop_of env_ok rfl 1000 ?_) | ((with_reducible show CallX ..); first | (refine callX (.int .i64 XE) (by kernel_rfl) rfl (trivial) (fun β w hm => Cx (by assumption) w hm.below) ?_)) | ((with_reducible show OpX ..); first | fail) | ((with_reducible show ∃ _ : SV, _); first | (refine ⟨_, ?ok, x_index (j := i) rfl Tryz.underlying26 (fun w => Tryz.sizeOf28 w) (by omega), ?_⟩; (case ok => exact fun _ _ => rfl)) | (refine ⟨_, ?ok, x_loadAgg (vs := [.int .i64 xk, .str m1, .str m2, .str xt, .bool xo, .int .i64 xc, .int .i64 xr, .int .i64 xl, .any (.slice p1 xi.length p2)]) (fun w => Tryz.isAgg28 w) (fun w => Tryz.sizeOf28 w) hld, ?_⟩; (case ok => exact fun _ _ => ⟨trivial, trivial, trivial, trivial, trivial, trivial, trivial, trivial, rfl, trivial⟩))) | ((with_reducible show ∃ _, _); first | fail))
      all_goals first | (exfalso; omega) | (have e : IE = 8 := by { rw [hiE, if_pos (by assumption)] }; rw [hat, e, if_pos (by decide)]; rfl) | (have e : IE = XE := by { rw [hiE, if_neg (by assumption)] }; rw [hat, e, if_pos (by assumption)]; rfl) | (refine hI _ ⟨i + 1, by omega, hnx (by rw [hiE, if_neg (by assumption)]; omega)⟩ (by dsimp only; omega) (by ((with_reducible show wk _ _); repeat' (first | exact trivial | exact eqSV_refl _ | (refine eqI ?_) | (refine eqS ?_) | (with_reducible exact rfl) | apply And.intro | exact Nat.zero_lt_one | exact Nat.le_of_ble_eq_true rfl | (with_reducible assumption) | ((show (_ : Int) = _); (try dsimp only); omega) | ((show eqSV _ _); simp [eqSV, isB, bval, *]; done) | rfl))); done) | trace_state
    · have e : i = n := by omega
      subst e
      rw [← hn, List.take_length] at hz
      rw [hz]
      repeat' (first | ((with_reducible first | show wpS .. | show putD .. | show putW .. | show splitG .. | show wpQ .. | show wpD .. | show wpX .. | show expX .. | show stepX .. | show keepR .. | show wpY ..); conv => whnf) | ((with_reducible show RetN ..); refine retB fun β => ?_) | ((with_reducible show _ ∧ _); first | (refine ⟨fun h => absurd h (by first | omega | decide), fun _ => ?_⟩) | (refine ⟨fun _ => ?_, fun h => absurd h (by first | omega | decide)⟩) | (refine ⟨fun _ => ?_, fun _ => ?_⟩) | (apply And.intro; · kernel_rfl) | (apply And.intro; · (show inK _ _; unfold inK; omega)) | (apply And.intro; · (show (_ : Int) ≤ 9223372036854775807; (try simp only [lenS]); omega))) | ((with_reducible show AllBe ..); refine allBe fun βe => ?_; conv => whnf) | ((with_reducible show bothX ..); refine bothI ?_ ?_; conv => whnf) | (with_reducible exact trivial) | ((with_reducible show CallN ..); refine call_of env_ok rfl 1000 ?_) | ((with_reducible show XopN ..); refine xop_of env_ok rfl 1000 ?_) | ((with_reducible show CallX ..); first | fail) | ((with_reducible show OpX ..); first | fail) | ((with_reducible show ∃ _ : SV, _); first | fail) | ((with_reducible show ∃ _, _); first | fail))
      all_goals first | rfl | (exfalso; omega)
set_option maxRecDepth 100000 in
set_option maxHeartbeats 4000000 in
theorem vcheck_any (t : VaP.VT) (a : Option Addr) (cap : Nat) (w : World) (hw : XV w) (ht : VIn w t a cap) : Calls Tryz.prog 13 #[vtV t a cap] w fun e w' => e = .returned (.int .i64 (VaP.vErr t)) ∧ Below w.heap.size w w' := by
  have hv : VaP.vErr t = if VaP.vErr0 t ≠ 0 ∨ t.kind ≠ 5 then VaP.vErr0 t else VaP.arrE t := rfl
  by_cases h5 : t.kind = 5
  · by_cases hb : (t.kind < 0 ∨ 5 < t.kind) ∨ VaP.zBad t
    · have h0 : VaP.vErr0 t ≠ 0 := by
        rcases hb with h | h
        · omega
        · rw [vErr0_bad (by omega) h]; omega
      rw [hv, if_pos (.inl h0)]
      exact check_bad t a cap w hw ht.fit hb
    · simp only [not_or] at hb
      have h0 : VaP.vErr0 t = 0 := by
        rw [vErr0_ok (by omega) hb.2, if_neg (by omega), if_neg (by omega), if_neg (by omega)]
      rw [hv, if_neg (by omega)]
      have Z := fun (w' : World) => zeros_any t a cap w' 0 (fun h => absurd h hb.2) (fun _ => rfl)
      have A := fun (w' : World) (h : Below w.heap.size w w') => array_any t a cap w' (hw.below h) (ht.lift h)
      clear hv h0 hb ht
      generalize VaP.arrE t = AE at *
      obtain ⟨k, ⟨n1, n2⟩, tx, on, cd, rw', cl, its⟩ := t
      unfold vtV at *
      dsimp only at *
      subst h5
      refine enter env_ok Tryz.func13 rfl Tryz.results13 Tryz.ntmps13 [] [] [.agg [.int .i64 5, .str n1, .str n2, .str tx, .bool on, .int .i64 cd, .int .i64 rw', .int .i64 cl, .any (.slice a its.length cap)]] ⟨⟨trivial, trivial, trivial, trivial, trivial, trivial, trivial, trivial, rfl, trivial⟩, trivial⟩ (Nat.le_of_ble_eq_true rfl) w _ 1000 ?_
      repeat' (first | ((with_reducible first | show wpS .. | show putD .. | show putW .. | show splitG .. | show wpQ .. | show wpD .. | show wpX .. | show expX .. | show stepX .. | show keepR .. | show wpY ..); conv => whnf) | ((with_reducible show RetN ..); refine retB fun β => ?_) | ((with_reducible show _ ∧ _); first | (refine ⟨fun h => absurd h (by first | omega | decide), fun _ => ?_⟩) | (refine ⟨fun _ => ?_, fun h => absurd h (by first | omega | decide)⟩) | (refine ⟨fun _ => ?_, fun _ => ?_⟩) | (apply And.intro; · kernel_rfl) | (apply And.intro; · (show inK _ _; unfold inK; omega)) | (apply And.intro; · (show (_ : Int) ≤ 9223372036854775807; (try simp only [lenS]); omega))) | ((with_reducible show AllBe ..); refine allBe fun βe => ?_; conv => whnf) | ((with_reducible show bothX ..); refine bothI ?_ ?_; conv => whnf) | (with_reducible exact trivial) | ((with_reducible show CallN ..); refine call_of env_ok rfl 1000 ?_) | ((with_reducible show XopN ..); refine xop_of env_ok rfl 1000 ?_) | ((with_reducible show CallX ..); first | (refine callX (.int .i64 0) (by kernel_rfl) rfl (trivial) (fun β w hm => Z w) ?_) | (refine callX (.int .i64 AE) (by kernel_rfl) rfl (trivial) (fun β w hm => A w hm.below) ?_) | fail) | ((with_reducible show OpX ..); first | fail) | ((with_reducible show ∃ _ : SV, _); first | fail) | ((with_reducible show ∃ _, _); first | fail))
      all_goals first | (exfalso; omega) | rfl | trace_state
  · rw [hv, if_pos (.inr h5)]
    exact check_sc t a cap w hw ht.fit h5
end Go.Proofs.YtdkhkfdenlabaaaGreatDoor
