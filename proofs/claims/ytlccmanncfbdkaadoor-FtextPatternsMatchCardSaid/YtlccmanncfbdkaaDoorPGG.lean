/- Patterns: the law. The frame of a law's proof: what was read below the heap's old size is read so again. -/
import Derived.Test.YtlccmanncfbdkaaDoorPFtW2
import Derived.Test.YtlccmanncfbdkaaDoorPFtR3
import Derived.ProofKit
import Derived.OpenShut
import Derived.ShutString
import Derived.Below
import Derived.Carry
set_option linter.unusedSimpArgs false
set_option linter.unusedVariables false
namespace Go.Proofs.YtlccmanncfbdkaaDoor
open Go.RowKit
open Sym
attribute [local irreducible] Calls Sym.AggEq
theorem FtP.pcs_ch : ∀ (n : Nat) (ps : List FtP.Str), ps.length ≤ n → (∀ u ∈ ps, FtP.isCh u) → ∀ p ∈ FtP.pcs ps, ∀ u, p = .ch u → FtP.isCh u
  | n, [], _, _, p, hp, _, _ => by cases hp
  | 0, u :: r, h, _, _, _, _, _ => by simp at h
  | n + 1, u :: r, h, hc, p, hp, x, hx => by
    rcases FtP.pcs_head u r with ⟨-, v, r', rfl, e⟩ | ⟨-, e⟩
    · rw [e] at hp
      rcases List.mem_cons.1 hp with rfl | hp
      · cases hx; exact hc _ (by simp)
      · exact FtP.pcs_ch n r' (by simp at h; omega) (fun u hu => hc u (by simp [hu])) p hp x hx
    · rw [e] at hp
      rcases List.mem_cons.1 hp with rfl | hp
      · unfold FtP.pc1 at hx
        split at hx
        · cases hx
        · split at hx
          · cases hx
          · cases hx; exact hc _ (by simp)
      · exact FtP.pcs_ch n r (by simp at h; omega) (fun u hu => hc u (by simp [hu])) p hp x hx
theorem FtP.pcs_len : ∀ (n : Nat) (ps : List FtP.Str), ps.length ≤ n → (FtP.pcs ps).length ≤ ps.length
  | n, [], _ => Nat.le_refl _
  | 0, u :: r, h => by simp at h
  | n + 1, u :: r, h => by
    rcases FtP.pcs_head u r with ⟨-, v, r', rfl, e⟩ | ⟨-, e⟩
    · rw [e]
      have := FtP.pcs_len n r' (by simp at h; omega)
      simp; omega
    · rw [e]
      have := FtP.pcs_len n r (by simp at h; omega)
      simp; omega
/-- whether a pattern matches a whole text -/
def FtP.mP (q s : FtP.Str) : Bool := FtP.matchP (FtP.pcs (FtP.chars (VaP.low q))) (FtP.chars (VaP.low s))
set_option maxRecDepth 100000 in
set_option maxHeartbeats 4000000 in
theorem Matches_any (q s : List UInt8) (w : World) (hw0 : 0 < w.heap.size) (hq : q.length ≤ 1000) (hs : s.length ≤ 1000) (hw : XF w) : Calls Tryd.prog 4 #[.string (bstr q), .string (bstr s)] w fun e w' => e = .returned (.bool (FtP.mP q s)) ∧ Below w.heap.size w w' := by
  have P := fun w hw => pieces_any q w hq hw
  have hcl := FtP.chars_len _ (VaP.low q) (Nat.le_refl _)
  rw [VaP.low_len] at hcl
  have hpl := FtP.pcs_len _ _ (Nat.le_refl (FtP.chars (VaP.low q)).length)
  have hch := FtP.pcs_ch _ _ (Nat.le_refl _) (FtP.chars_ch _ (VaP.low q) (Nat.le_refl _))
  unfold FtP.mP
  generalize FtP.pcs (FtP.chars (VaP.low q)) = l at *
  refine yE Tryd.func4 rfl Tryd.results4 Tryd.ntmps4 [] [] [.str q, .str s] w ?_
  repeat' (first | refine yX ?_ | (apply And.intro <;> intro _) | apply bothI | refine retB fun β => ?_ | intro βe | (refine callSlF (T := Option Addr × Nat) (fun t => .any (.slice t.1 l.length t.2)) (fun t => t.1) (fun _ => FtP.pvs l) hw0 (by kernel_rfl) rfl (fun _ => rfl) (fun β w hm => P w (hw.below hm.below)) (fun t _ => ?_)) | refine yK (.bool (FtP.matchP l (FtP.chars (VaP.low s)))) (fun β w hm => run_any t.1 t.2 l s w (by omega) hs hch (ySl hm) (hw.below hm.below)) ?_ | exact trivial)
  all_goals rfl
set_option maxRecDepth 100000 in
set_option maxHeartbeats 4000000 in
theorem rMatches_any (q s : List UInt8) (w : World) (hw0 : 0 < w.heap.size) (hq : q.length ≤ 1000) (hs : s.length ≤ 1000) : Calls Tryd.prog 5 #[.string (bstr q), .string (bstr s)] w fun e w' => e = .returned (.bool (FtP.mP q s)) ∧ Below w.heap.size w w' := by
  have L1 := fun w => rlowV_any q w (by omega)
  have L2 := fun w => rlowV_any s w (by omega)
  have R1 := fun w => runes_any (VaP.low q) w (by rw [VaP.low_len]; omega)
  have R2 := fun w => runes_any (VaP.low s) w (by rw [VaP.low_len]; omega)
  have h1 := FtP.chars_len _ (VaP.low q) (Nat.le_refl _)
  have h2 := FtP.chars_len _ (VaP.low s) (Nat.le_refl _)
  rw [VaP.low_len] at h1 h2
  unfold FtP.mP
  generalize FtP.chars (VaP.low q) = ps at *
  generalize FtP.chars (VaP.low s) = cs at *
  generalize VaP.low q = q' at *
  generalize VaP.low s = s' at *
  refine yE Tryd.func5 rfl Tryd.results5 Tryd.ntmps5 [] [] [.str q, .str s] w ?_
  repeat' (first | refine yX ?_ | (apply And.intro <;> intro _) | apply bothI | refine retB fun β => ?_ | intro βe | refine yK (.str q') (fun β w hm => L1 w) ?_ | refine yK (.str s') (fun β w hm => L2 w) ?_ | (refine callSlF (T := {t : Option Addr × Nat // ps.length ≤ t.2}) (fun t => .any (.slice t.1.1 ps.length t.1.2)) (fun t => t.1.1) (fun _ => FtP.sv ps) hw0 (by kernel_rfl) rfl (fun _ => rfl) (fun β w hm => R1 w) (fun t _ => ?_)) | (refine callSlF (T := {t : Option Addr × Nat // cs.length ≤ t.2}) (fun t => .any (.slice t.1.1 cs.length t.1.2)) (fun t => t.1.1) (fun _ => FtP.sv cs) hw0 (by kernel_rfl) rfl (fun _ => rfl) (fun β w hm => R2 w) (fun t2 _ => ?_)) | refine yK (.bool (FtP.matchP (FtP.pcs ps) cs)) (fun β w hm => rmatches_any t.1.1 t.1.2 ps t2.1.1 t2.1.2 cs w (by omega) (by omega) t.2 (ySl hm) (ySl hm)) ?_ | exact trivial)
  all_goals rfl
theorem m_yes : FtP.mP [114, 63, 100, 42] [82, 97, 100, 105, 111] = true := by kernel_rfl
theorem m_no : FtP.mP [97, 126, 42] [97, 98] = false := by kernel_rfl
set_option maxRecDepth 100000 in
set_option maxHeartbeats 4000000 in
theorem patLaw_any (q s : List UInt8) (w : World) (hw0 : 0 < w.heap.size) (h1 : q.length ≤ 9223372036854775807) (h2 : s.length ≤ 9223372036854775807) (hw : XF w) : Calls Tryd.prog 3 #[.string (bstr q), .string (bstr s)] w fun e w' => e = .returned (.bool true) ∧ Below w.heap.size w w' := by
  have Y := fun (w' : World) (h : BW w w') => Matches_any [114, 63, 100, 42] [82, 97, 100, 105, 111] w' (Nat.lt_of_lt_of_le hw0 h.size) (by simp) (by simp) (hw.below h)
  have Z := fun (w' : World) (h : BW w w') => Matches_any [97, 126, 42] [97, 98] w' (Nat.lt_of_lt_of_le hw0 h.size) (by simp) (by simp) (hw.below h)
  rw [m_yes] at Y
  rw [m_no] at Z
  obtain ⟨n1, e1⟩ : ∃ n, n = min q.length 60 := ⟨_, rfl⟩
  obtain ⟨n2, e2⟩ : ∃ n, n = min s.length 200 := ⟨_, rfl⟩
  have l1 : (q.take n1).length ≤ 1000 := by rw [List.length_take]; omega
  have l2 : (s.take n2).length ≤ 1000 := by rw [List.length_take]; omega
  have A := fun (w' : World) (h : BW w w') => Matches_any (q.take n1) (s.take n2) w' (Nat.lt_of_lt_of_le hw0 h.size) l1 l2 (hw.below h)
  have B := fun (w' : World) (h : BW w w') => rMatches_any (q.take n1) (s.take n2) w' (Nat.lt_of_lt_of_le hw0 h.size) l1 l2
  generalize FtP.mP (q.take n1) (s.take n2) = b at *
  refine yE Tryd.func3 rfl Tryd.results3 Tryd.ntmps3 [] [] [.str q, .str s] w ?_
  repeat' (first | refine yX ?_ | (apply And.intro <;> intro _) | apply bothI | refine retB fun β => ?_ | intro βe | refine yK (.lit true) (fun β w hm => Y w hm.below) ?_ | refine yK (.lit false) (fun β w hm => Z w hm.below) ?_ | (refine ⟨n1, by omega, by omega, ?_⟩) | (refine ⟨n2, by omega, by omega, ?_⟩) | refine yK (.bool b) (fun β w hm => A w hm.below) ?_ | refine yK (.bool b) (fun β w hm => B w hm.below) ?_ | refine yO (x_eqBB b b true (fun β => rfl) (fun β => rfl) (by simp) Tryd.underlying4) ?_ | exact trivial)
  all_goals first | (exfalso; omega) | (simp [SV.den]; done) | trace_state
end Go.Proofs.YtlccmanncfbdkaaDoor
namespace Go.Proofs.YtlccmanncfbdkaaDoor
open Go.ChangeShapes Go.WideShapes Go.ChangeAt Go.RowKit
theorem below_trodAll {H : Type} {enc : TypeId × Value → H} {P : Program} (hl : laidOutB P = true) {W W' : World} (hb : Below W.heap.size W W') :
    ∀ {ts : List TypeId} {vs : List Value} {ds : List (DataW H)} {ps : List MemPlace}, (ts.all fun t => P.readableRec t && decide (t < P.types.size)) = true →
      DataW.TrodAll enc P W 0 (fun _ => true) true ts vs ds ps → DataW.TrodAll enc P W' 0 (fun b => decide (b < W.heap.size)) true ts vs ds ps
  | [], [], [], _, _, h => h
  | [], _ :: _, _, _, _, h => h.elim
  | [], [], _ :: _, _, _, h => h.elim
  | _ :: _, [], _, _, _, h => h.elim
  | _ :: _, _ :: _, [], _, _, h => h.elim
  | t :: ts, v :: vs, d :: ds, ps, hr, h => by
    have hlt := h.lt
    obtain ⟨p, q, h1, h2, e⟩ := h
    simp only [List.all_cons, Bool.and_eq_true, decide_eq_true_eq] at hr
    exact ⟨p, q, Below.trod hl hr.1.1 hr.1.2 h1 hb (fun x hx => hlt x (by rw [e]; exact List.mem_append_left _ hx)), below_trodAll hl hb (by simpa using hr.2) h2, e⟩
end Go.Proofs.YtlccmanncfbdkaaDoor
