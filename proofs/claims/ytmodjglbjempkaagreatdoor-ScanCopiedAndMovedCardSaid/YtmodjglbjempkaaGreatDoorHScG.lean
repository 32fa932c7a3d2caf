/- Formulas whose references a function changes: the functions written in place. References, plainly: what a change makes of a valid reference is valid. Formulas copied and moved: the program's. -/
import Derived.Test.YtmodjglbjempkaaGreatDoorHScD
import Derived.Test.YtmodjglbjempkaaGreatDoorHCa
import Derived.Test.YtmodjglbjempkaaGreatDoorHTa
set_option linter.unusedSimpArgs false
set_option linter.unusedVariables false
namespace Go.Proofs.YtmodjglbjempkaaGreatDoor
open Go.RowKit
open Sym
attribute [local irreducible] Calls Sym.AggEq
theorem cell_keep {w w' : World} {a : Addr} {v : Value} (h : w.cell? a = some v) (hb : Below w.heap.size w w') : w'.cell? a = some v := by
  have := World.block_lt_of_cell? w _ h
  rw [World.cell?_of_block (w := w) (hb.block _ this)]; exact h
namespace RfP
/-- does a reference mean the sheet? -/
def belP (x : Ref) (sh : Str) (ours : Bool) : Bool := if x.sh = [] then ours else decide (x.sh = sh)
end RfP
theorem meant_any (x : RfP.Ref) (sh : List UInt8) (ours : Bool) (w : World) : Calls Tryz.prog 49 #[.agg (refC x), .string (bstr sh), .bool ours] w fun e w' => e = .returned (.bool (RfP.belP x sh ours)) ∧ Below w.heap.size w w' := by
  refine enter env_ok Tryz.func49 rfl Tryz.results49 Tryz.ntmps49 [] [] [rS x, .str sh, .bool ours] ⟨rS_ok x 0, trivial, trivial, trivial⟩ (Nat.le_of_ble_eq_true rfl) w _ 1000 ?_
  repeat' (first | ((with_reducible first | show wpS _ _ _ _ | show putD _ _ _ _ | show putW _ _ _ _ | show splitG _ _ _ | show wpQ _ _ _ _ _ _ | show wpD _ _ _ _ _ _ _ | show wpX _ _ _ _ _ _ | show expX _ _ _ _ _ _ | show stepX _ _ _ _); conv => whnf) | ((with_reducible show RetN _ _ _); refine retB fun β => ?_) | ((with_reducible show _ ∧ _); first | (apply And.intro; (· intro h; exfalso; first | omega | (revert h; decide)); intro _) | (apply And.intro; rotate_left; (· intro h; exfalso; first | omega | (revert h; decide)); intro _) | (refine ⟨fun _ => ?_, fun _ => ?_⟩) | (apply And.intro; · kernel_rfl) | (apply And.intro; · (show inK _ _; unfold inK; omega)) | (apply And.intro; · (show (_ : Int) ≤ 9223372036854775807; (try simp only [List.length_append, List.length_drop, List.length_take, List.length_cons, List.length_nil]); omega))) | ((with_reducible show bothX _ _); refine bothI ?_ ?_; conv => whnf) | (with_reducible exact trivial) | ((with_reducible show CallN _ _ _ _ _ _ _ _); refine call_of env_ok rfl 1000 ?_) | ((with_reducible show XopN _ _ _ _ _ _); refine xop_of env_ok rfl 1000 ?_) | ((with_reducible show CallX _ _ _ _ _ _); first | fail) | ((with_reducible show OpX _ _ _ _); first | fail) | ((with_reducible show ∃ _ : SV, _); first | fail) | ((with_reducible show ∃ _, _); first | fail))
  all_goals simp [RfP.belP, SV.den, *]
theorem belongs_any (x : RfP.Ref) (sh : List UInt8) (ours : Bool) (w : World) : Calls Tryz.prog 23 #[.agg (refC x), .string (bstr sh), .bool ours] w fun e w' => e = .returned (.bool (RfP.belP x sh ours)) ∧ Below w.heap.size w w' := by
  refine enter env_ok Tryz.func23 rfl Tryz.results23 Tryz.ntmps23 [] [] [rS x, .str sh, .bool ours] ⟨rS_ok x 0, trivial, trivial, trivial⟩ (Nat.le_of_ble_eq_true rfl) w _ 1000 ?_
  repeat' (first | ((with_reducible first | show wpS _ _ _ _ | show putD _ _ _ _ | show putW _ _ _ _ | show splitG _ _ _ | show wpQ _ _ _ _ _ _ | show wpD _ _ _ _ _ _ _ | show wpX _ _ _ _ _ _ | show expX _ _ _ _ _ _ | show stepX _ _ _ _); conv => whnf) | ((with_reducible show RetN _ _ _); refine retB fun β => ?_) | ((with_reducible show _ ∧ _); first | (apply And.intro; (· intro h; exfalso; first | omega | (revert h; decide)); intro _) | (apply And.intro; rotate_left; (· intro h; exfalso; first | omega | (revert h; decide)); intro _) | (refine ⟨fun _ => ?_, fun _ => ?_⟩) | (apply And.intro; · kernel_rfl) | (apply And.intro; · (show inK _ _; unfold inK; omega)) | (apply And.intro; · (show (_ : Int) ≤ 9223372036854775807; (try simp only [List.length_append, List.length_drop, List.length_take, List.length_cons, List.length_nil]); omega))) | ((with_reducible show bothX _ _); refine bothI ?_ ?_; conv => whnf) | (with_reducible exact trivial) | ((with_reducible show CallN _ _ _ _ _ _ _ _); refine call_of env_ok rfl 1000 ?_) | ((with_reducible show XopN _ _ _ _ _ _); refine xop_of env_ok rfl 1000 ?_) | ((with_reducible show CallX _ _ _ _ _ _); first | fail) | ((with_reducible show OpX _ _ _ _); first | fail) | ((with_reducible show ∃ _ : SV, _); first | fail) | ((with_reducible show ∃ _, _); first | fail))
  all_goals simp_all [RfP.belP, SV.den]
set_option maxRecDepth 100000 in
theorem copied1_any (x : RfP.Ref) (d r : Int) (a1 a2 : Addr) (w : World) (h : RfP.checkP x = 0) (hd : RfP.farP d = false) (hr : RfP.farP r = false) (h1 : w.cell? a1 = some (.int .i64 d)) (h2 : w.cell? a2 = some (.int .i64 r)) :
    Calls Tryz.prog 46 #[.agg (refC x), .pointer (some a1), .pointer (some a2)] w fun e w' => e = .returned (.agg (refC (RfP.copyP x d r))) ∧ Below w.heap.size w w' := by
  have HC := fun w => Copied_any x d r w
  have e0 : RfP.copiedX x d r = (RfP.copyP x d r, 0) := by unfold RfP.copiedX; rw [if_neg (by omega), if_neg (by simp [hd, hr])]
  rw [e0] at HC
  have k1 : ∀ w', Below w.heap.size w w' → w'.cell? a1 = some (.int .i64 d) := fun w' hb => cell_keep h1 hb
  have k2 : ∀ w', Below w.heap.size w w' → w'.cell? a2 = some (.int .i64 r) := fun w' hb => cell_keep h2 hb
  generalize RfP.copyP x d r = y at *
  refine enter env_ok Tryz.func46 rfl Tryz.results46 Tryz.ntmps46 [] [] [rS x, .any (.pointer (some a1)), .any (.pointer (some a2))] ⟨rS_ok x 0, rfl, rfl, trivial⟩ (Nat.le_of_ble_eq_true rfl) w _ 1000 ?_
  repeat' (first | ((with_reducible first | show wpS _ _ _ _ | show putD _ _ _ _ | show putW _ _ _ _ | show splitG _ _ _ | show wpQ _ _ _ _ _ _ | show wpD _ _ _ _ _ _ _ | show wpX _ _ _ _ _ _ | show expX _ _ _ _ _ _ | show stepX _ _ _ _); conv => whnf) | ((with_reducible show RetN _ _ _); refine retB fun β => ?_) | ((with_reducible show _ ∧ _); first | (apply And.intro; (· intro h; exfalso; first | omega | (revert h; decide)); intro _) | (apply And.intro; rotate_left; (· intro h; exfalso; first | omega | (revert h; decide)); intro _) | (refine ⟨fun _ => ?_, fun _ => ?_⟩) | (apply And.intro; · kernel_rfl) | (apply And.intro; · (show inK _ _; unfold inK; omega)) | (apply And.intro; · (show (_ : Int) ≤ 9223372036854775807; (try simp only [List.length_append, List.length_drop, List.length_take, List.length_cons, List.length_nil]); omega))) | ((with_reducible show bothX _ _); refine bothI ?_ ?_; conv => whnf) | (with_reducible exact trivial) | ((with_reducible show CallN _ _ _ _ _ _ _ _); refine call_of env_ok rfl 1000 ?_) | ((with_reducible show XopN _ _ _ _ _ _); refine xop_of env_ok rfl 1000 ?_) | ((with_reducible show CallX _ _ _ _ _ _); first | (refine callX (.tup [.agg (rF y), .int .i64 0]) (by kernel_rfl) rfl (⟨rS_ok y _, trivial, trivial⟩) (fun β w hm => HC w) ?_)) | ((with_reducible show OpX _ _ _ _); first | fail) | ((with_reducible show ∃ _ : SV, _); first | (refine ⟨.int .i64 d, fun _ _ => trivial, x_load1 (a := a1) (fun w => Tryz.isAgg3 w) (fun w' hb β => k1 w' hb), ?_⟩) | (refine ⟨.int .i64 r, fun _ _ => trivial, x_load1 (a := a2) (fun w => Tryz.isAgg3 w) (fun w' hb β => k2 w' hb), ?_⟩)) | ((with_reducible show ∃ _, _); first | fail))
  all_goals rfl
end Go.Proofs.YtmodjglbjempkaaGreatDoor
namespace Go.Proofs.YtmodjglbjempkaaGreatDoor.RfP
theorem check_name {x : Ref} (h : checkP x = 0) : nameP x.sh = 0 := by
  unfold checkP at h
  split at h
  · omega
  split at h
  · rename_i h1; exact absurd h h1
  · rename_i h1; simpa using h1
theorem mean_name {x : Ref} (h : nameP x.sh = 0) : nameP (meaningP x).sh = 0 := by
  unfold meaningP
  (repeat' split) <;> first | assumption | decide
theorem ord_name {x : Ref} (h : nameP x.sh = 0) : nameP (orderedP x).sh = 0 := by
  unfold orderedP
  dsimp only
  (repeat' split) <;> assumption
theorem fit_valid {y : Ref} (hk : 0 ≤ y.k ∧ y.k ≤ 4) (hs : nameP y.sh = 0) (ho : y.k ≠ 0 → (meaningP y).r ≤ (meaningP y).r2 ∧ (meaningP y).c ≤ (meaningP y).c2) : checkP (fittingP y) = 0 := by
  unfold fittingP
  split
  · rename_i hi
    have e1 := mean_k y
    have e2 : formP (meaningP y) = true := by rw [← eqR_meaning, mean_mean, eqR_self]
    have e3 := mean_name hs
    unfold insideP at hi
    unfold checkP
    rw [if_neg (by omega), if_neg (by simpa using e3), if_neg (by rw [e2]; simp), if_neg (by rw [hi]; simp), if_neg (by intro h; have := ho (by omega); omega)]
  · exact bad_valid
theorem ord_order (y : Ref) (h : y.k ≠ 0) : (orderedP y).r ≤ (orderedP y).r2 ∧ (orderedP y).c ≤ (orderedP y).c2 := by
  unfold orderedP
  rw [if_neg h]
  dsimp only
  (repeat' split) <;> simp_all <;> omega
theorem copy_valid (x : Ref) (d r : Int) (h : checkP x = 0) : checkP (copyP x d r) = 0 := by
  obtain ⟨hk, _, _, _⟩ := check_ok x h
  have hn := check_name h
  have e0 : nameP (addP x d r).sh = 0 := hn
  have e1 := ord_k (meaningP (addP x d r))
  have e2 := mean_k (addP x d r)
  have e3 : (addP x d r).k = x.k := rfl
  refine fit_valid (by omega) (ord_name (mean_name e0)) (fun hk0 => ?_)
  rw [mean_ord _ (mean_mean _)]
  exact ord_order _ (by omega)
theorem move_valid (x : Ref) (b : Rect) (d r : Int) (h : checkP x = 0) : checkP (moveP x b d r) = 0 := by
  obtain ⟨hk, _, _, hord⟩ := check_ok x h
  have hn := check_name h
  unfold moveP
  split
  · exact h
  split
  · exact h
  · refine fit_valid hk hn (fun hk0 => ?_)
    have hk0 : x.k ≠ 0 := hk0
    have hk1 : x.k = 1 := by omega
    obtain ⟨o1, o2⟩ := hord hk0
    unfold meaningP
    dsimp only
    rw [if_neg (by omega), if_neg (by omega), if_neg (by omega), if_neg (by omega)]
    exact ⟨by dsimp only; omega, by dsimp only; omega⟩
theorem hull_order {a : List Step} {low high : Int} (hok : ∀ s ∈ a, okS s) (h0 : 0 ≤ low) (h1 : high < 1073741824) (hb : (hullP a low high).2.2 = true) : (hullP a low high).1 ≤ (hullP a low high).2.1 := by
  have hW : ∀ p : Int, 0 ≤ p → (fun p => whr a p 0) p = whr a (p - 0) 0 := fun p _ => by simp
  have k1 : Sp (fun p => whr a p 0) (fun p => low ≤ p ∧ p ≤ high) (hullP a low high) :=
    hullG_spec (fun p => whr a p 0) low high h1 a 0 0 (0, 0, false) hok (by omega) (by omega) hW (.inl ⟨rfl, rfl, rfl, fun p hp => by omega⟩) (fun h => by cases h)
  rcases k1 with ⟨e, _⟩ | ⟨_, ⟨p, hp, hp1, hp2⟩, _, h4⟩
  · rw [e] at hb; cases hb
  · have := h4 p hp (by omega); omega
theorem thr_valid (x : Ref) (R C : List Step) (h : checkP x = 0) (hR : axErr none R 0 0 = 0) (hC : axErr none C 0 0 = 0) : checkP (thrP x R C) = 0 := by
  obtain ⟨hk, hf, hin, hord⟩ := check_ok x h
  obtain ⟨_, hr, hc, hr2, hc2⟩ := ref_bounds h
  have hn := check_name h
  have okR := fun s hs => (axErr_ok R none 0 0 hR s hs).1
  have okC := fun s hs => (axErr_ok C none 0 0 hC s hs).1
  clear hin hf
  obtain ⟨sh, k, rr, c, r2, c2, ar, ac, ar2, ac2⟩ := x
  dsimp only at *
  have key : ∀ y : Ref, y.k = k → y.sh = sh → 0 ≤ y.r → 0 ≤ y.c → y.r < 1073741824 → y.r2 < 1073741824 → y.c < 1073741824 → y.c2 < 1073741824 → (k ≠ 0 → y.r ≤ y.r2 ∧ y.c ≤ y.c2) → ∀ a b : Hu, a = (if k = 3 then (y.r, y.r2, true) else hullP R y.r y.r2) → b = (if k = 2 ∨ a.2.2 = false then (y.c, y.c2, a.2.2) else hullP C y.c y.c2) →
      checkP (if b.2.2 = false then badR else fittingP { y with r := a.1, r2 := a.2.1, c := b.1, c2 := b.2.1 }) = 0 := by
    intro y yk ys z1 z2 y1 y2 y3 y4 yo a b ha hb
    split
    · exact bad_valid
    · rename_i hb2
      refine fit_valid (by dsimp only; omega) (by dsimp only; rw [ys]; exact hn) (fun hk0 => ?_)
      have hk0 : y.k ≠ 0 := hk0
      obtain ⟨o1, o2⟩ := yo (by omega)
      have ha2 : a.2.2 = true := by
        rcases Bool.eq_false_or_eq_true a.2.2 with h | h
        · exact h
        · rw [if_pos (.inr h)] at hb; rw [hb] at hb2; exact absurd h hb2
      have qa : a.1 ≤ a.2.1 := by
        by_cases h3 : k = 3
        · rw [if_pos h3] at ha; rw [ha]; exact o1
        · rw [if_neg h3] at ha; rw [ha] at ha2 ⊢; exact hull_order okR z1 (by omega) ha2
      have qb : b.1 ≤ b.2.1 := by
        by_cases h2 : k = 2
        · rw [if_pos (.inl h2)] at hb; rw [hb]; exact o2
        · rw [if_neg (by rw [ha2]; simp [h2])] at hb
          rw [hb] at hb2 ⊢; exact hull_order okC z2 (by omega) (by simpa using hb2)
      unfold meaningP
      dsimp only
      rw [if_neg (by omega)]
      (repeat' split) <;> first | exact ⟨qa, qb⟩ | exact ⟨Int.le_refl _, qb⟩ | exact ⟨qa, Int.le_refl _⟩ | exact ⟨Int.le_refl _, Int.le_refl _⟩
  unfold thrP
  dsimp only
  split
  · exact h
  · exact key _ (by split <;> rfl) (by split <;> rfl) (by split <;> (dsimp only; omega)) (by split <;> (dsimp only; omega)) (by split <;> (dsimp only; omega)) (by split <;> (dsimp only; omega)) (by split <;> (dsimp only; omega)) (by split <;> (dsimp only; omega)) (fun h0 => by rw [if_neg h0]; exact hord h0) _ _ rfl rfl
end Go.Proofs.YtmodjglbjempkaaGreatDoor.RfP
namespace Go.Proofs.YtmodjglbjempkaaGreatDoor
open Go.RowKit
open Sym
attribute [local irreducible] Calls Sym.AggEq
theorem mem_cell {base : Nat} {w0 : Base} {rows : List (Nat × Bool × SRow)} {nx : Nat} {β : Nat → Nat} {w : World} (hm : Mem base w0 rows nx β w) (i j : Nat) {o : Bool} {T : TypeId} {cs : List SV} (hi : get rows i = some (o, .cells T cs)) {v : Value} (hv : (SV.dens β cs)[j]? = some v) : w.cell? ⟨β i, j, none⟩ = some v := by
  have q : Row w (β i) T (SV.dens β cs).toArray := (hm.row i _ _ hi).1
  rw [q.cell]; simpa using hv
namespace ScP
/-- what Copied answers -/
def copiedS (s : Str) (d r : Int) : Str × Int := if (RfP.farP d || RfP.farP r) = true then ([], 2) else (rewP (fun x => RfP.copyP x d r) s, 0)
def movedG (sh : Str) (ours : Bool) (b : RfP.Rect) (d r : Int) (x : RfP.Ref) : RfP.Ref := if RfP.belP x sh ours = true then RfP.moveP x b d r else x
def movedS (s sh : Str) (ours : Bool) (b : RfP.Rect) (d r : Int) : Str × Int := if RfP.blockP b d r ≠ 0 then ([], 2) else (rewP (movedG sh ours b d r) s, 0)
theorem movedG_valid {sh : Str} {ours : Bool} {b : RfP.Rect} {d r : Int} {x : RfP.Ref} (h : RfP.checkP x = 0) : RfP.checkP (movedG sh ours b d r x) = 0 := by
  unfold movedG
  split
  · exact RfP.move_valid x b d r h
  · exact h
end ScP
set_option maxRecDepth 100000 in
theorem sCopied_any (s : List UInt8) (d r : Int) (w : World) (hs : s.length ≤ 1000) (hw0 : 0 < w.heap.size) (hw : LW w) : Calls Tryz.prog 15 #[.string (bstr s), .int .i64 d, .int .i64 r] w fun e w' => e = .returned (.tuple #[.string (bstr (ScP.copiedS s d r).1), .int .i64 (ScP.copiedS s d r).2]) ∧ Below w.heap.size w w' := by
  have HC := fun w => Copied_any RfP.zeroR d r w
  have e0 : RfP.copiedX RfP.zeroR d r = if (RfP.farP d || RfP.farP r) = true then (RfP.zeroR, 2) else (RfP.copyP RfP.zeroR d r, 0) := by unfold RfP.copiedX; rw [if_neg (by rw [RfP.zero_valid]; simp)]
  rw [e0] at HC
  unfold ScP.copiedS
  by_cases hf : (RfP.farP d || RfP.farP r) = true
  · rw [if_pos hf] at *
    refine enter env_ok Tryz.func15 rfl Tryz.results15 Tryz.ntmps15 [] [] [.str s, .int .i64 d, .int .i64 r] (by simp [SV.oks, SV.ok]) (Nat.le_of_ble_eq_true rfl) w _ 1000 ?_
    repeat' (first | ((with_reducible first | show wpS _ _ _ _ | show putD _ _ _ _ | show putW _ _ _ _ | show splitG _ _ _ | show wpQ _ _ _ _ _ _ | show wpD _ _ _ _ _ _ _ | show wpX _ _ _ _ _ _ | show expX _ _ _ _ _ _ | show stepX _ _ _ _); conv => whnf) | ((with_reducible show RetN _ _ _); refine retB fun β => ?_) | ((with_reducible show _ ∧ _); first | (apply And.intro; (· intro h; exfalso; first | omega | (revert h; decide)); intro _) | (apply And.intro; rotate_left; (· intro h; exfalso; first | omega | (revert h; decide)); intro _) | (refine ⟨fun _ => ?_, fun _ => ?_⟩) | (apply And.intro; · kernel_rfl) | (apply And.intro; · (show inK _ _; unfold inK; omega)) | (apply And.intro; · (show (_ : Int) ≤ 9223372036854775807; (try simp only [List.length_append, List.length_drop, List.length_take, List.length_cons, List.length_nil]); omega))) | ((with_reducible show bothX _ _); refine bothI ?_ ?_; conv => whnf) | (with_reducible exact trivial) | ((with_reducible show CallN _ _ _ _ _ _ _ _); refine call_of env_ok rfl 1000 ?_) | ((with_reducible show XopN _ _ _ _ _ _); refine xop_of env_ok rfl 1000 ?_) | ((with_reducible show CallX _ _ _ _ _ _); first | (refine callX (.tup [.agg (rF RfP.zeroR), .int .i64 2]) (by kernel_rfl) rfl (⟨rS_ok _ _, trivial, trivial⟩) (fun β w hm => HC w) ?_)) | ((with_reducible show OpX _ _ _ _); first | fail) | ((with_reducible show ∃ _ : SV, _); first | fail) | ((with_reducible show ∃ _, _); first | fail))
    all_goals rfl
  · rw [if_neg hf] at *
    simp only [Bool.or_eq_true, not_or, Bool.not_eq_true] at hf
    obtain ⟨hd, hr⟩ := hf
    refine enter env_ok Tryz.func15 rfl Tryz.results15 Tryz.ntmps15 [] [] [.str s, .int .i64 d, .int .i64 r] (by simp [SV.oks, SV.ok]) (Nat.le_of_ble_eq_true rfl) w _ 1000 ?_
    repeat' (first | ((with_reducible first | show wpS _ _ _ _ | show putD _ _ _ _ | show putW _ _ _ _ | show splitG _ _ _ | show wpQ _ _ _ _ _ _ | show wpD _ _ _ _ _ _ _ | show wpX _ _ _ _ _ _ | show expX _ _ _ _ _ _ | show stepX _ _ _ _); conv => whnf) | ((with_reducible show RetN _ _ _); refine retB fun β => ?_) | ((with_reducible show _ ∧ _); first | (apply And.intro; (· intro h; exfalso; first | omega | (revert h; decide)); intro _) | (apply And.intro; rotate_left; (· intro h; exfalso; first | omega | (revert h; decide)); intro _) | (refine ⟨fun _ => ?_, fun _ => ?_⟩) | (apply And.intro; · kernel_rfl) | (apply And.intro; · (show inK _ _; unfold inK; omega)) | (apply And.intro; · (show (_ : Int) ≤ 9223372036854775807; (try simp only [List.length_append, List.length_drop, List.length_take, List.length_cons, List.length_nil]); omega))) | ((with_reducible show bothX _ _); refine bothI ?_ ?_; conv => whnf) | (with_reducible exact trivial) | ((with_reducible show CallN _ _ _ _ _ _ _ _); refine call_of env_ok rfl 1000 ?_) | ((with_reducible show XopN _ _ _ _ _ _); refine xop_of env_ok rfl 1000 ?_) | ((with_reducible show CallX _ _ _ _ _ _); first | (refine callX (.tup [.agg (rF (RfP.copyP RfP.zeroR d r)), .int .i64 0]) (by kernel_rfl) rfl (⟨rS_ok _ _, trivial, trivial⟩) (fun β w hm => HC w) ?_) | (refine callX (.str (ScP.rewP (fun x => RfP.copyP x d r) s)) (by kernel_rfl) rfl trivial (fun β w' hm => ?_) ?_)) | ((with_reducible show OpX _ _ _ _); first | fail) | ((with_reducible show ∃ _ : SV, _); first | (refine ⟨_, ?ok, x_func, ?_⟩; (case ok => exact fun n h => h))) | ((with_reducible show ∃ _, _); first | fail))
    · have h1 : w'.cell? ⟨β 0, 0, none⟩ = some (.int .i64 d) := mem_cell hm 0 0 rfl rfl
      have h2 : w'.cell? ⟨β 1, 0, none⟩ = some (.int .i64 r) := mem_cell hm 1 0 rfl rfl
      exact replaced_any s 46 [.pointer (some ⟨β 0, 0, none⟩), .pointer (some ⟨β 1, 0, none⟩)] (fun x => RfP.copyP x d r) w' hs (Nat.lt_of_lt_of_le hw0 hm.base_le) (hw.below hm.below) (by kernel_rfl) (by simp [Value.oneCell']) (fun x hx => RfP.copy_valid x d r hx)
        (fun x w1 hx hb => copied1_any x d r _ _ w1 hx hd hr (cell_keep h1 hb) (cell_keep h2 hb))
    all_goals rfl
abbrev rectF (b : RfP.Rect) : List SV := [.int .i64 b.r, .int .i64 b.c, .int .i64 b.h, .int .i64 b.w]
abbrev rectC (b : RfP.Rect) : Array Value := #[.int .i64 b.r, .int .i64 b.c, .int .i64 b.h, .int .i64 b.w]
theorem rect_ok (b : RfP.Rect) (n : Nat) : SV.ok n (.agg (rectF b)) := ⟨trivial, trivial, trivial, trivial, trivial⟩
/-- the four numbers of a rectangle in memory -/
def RectAt (a : Addr) (b : RfP.Rect) (w : World) : Prop := ∀ j v, (SV.dens (fun _ => 0) (rectF b))[j]? = some v → w.cell? (a.add j) = some v
theorem RectAt.keep {a : Addr} {b : RfP.Rect} {w w' : World} (h : RectAt a b w) (hb : Below w.heap.size w w') : RectAt a b w' := fun j v hv => cell_keep (h j v hv) hb
theorem mem_rect {base : Nat} {w0 : Base} {rows : List (Nat × Bool × SRow)} {nx : Nat} {β : Nat → Nat} {w : World} (hm : Mem base w0 rows nx β w) (i : Nat) {o : Bool} {T : TypeId} {b : RfP.Rect} (hi : get rows i = some (o, .cells T (rectF b))) : RectAt ⟨β i, 0, none⟩ b w := fun j v hv => by
  have := mem_cell hm i j hi (v := v) hv
  simpa [add_at] using this
set_option maxRecDepth 100000 in
theorem moved1_any (x : RfP.Ref) (sh : List UInt8) (ours : Bool) (b : RfP.Rect) (d r : Int) (a1 a2 a3 a4 a5 : Addr) (w : World) (h : RfP.checkP x = 0) (hb : RfP.blockP b d r = 0) (h1 : w.cell? a1 = some (.string (bstr sh))) (h2 : w.cell? a2 = some (.bool ours)) (h3 : RectAt a3 b w) (h4 : w.cell? a4 = some (.int .i64 d)) (h5 : w.cell? a5 = some (.int .i64 r)) :
    Calls Tryz.prog 48 #[.agg (refC x), .pointer (some a1), .pointer (some a2), .pointer (some a3), .pointer (some a4), .pointer (some a5)] w fun e w' => e = .returned (.agg (refC (ScP.movedG sh ours b d r x))) ∧ Below w.heap.size w w' := by
  have HC := fun w => Moved_any x b d r w
  have e0 : RfP.movedX x b d r = (RfP.moveP x b d r, 0) := by unfold RfP.movedX; rw [if_neg (by omega), if_neg (by omega)]
  rw [e0] at HC
  have k1 : ∀ w', Below w.heap.size w w' → w'.cell? a1 = some (.string (bstr sh)) := fun w' hb => cell_keep h1 hb
  have k2 : ∀ w', Below w.heap.size w w' → w'.cell? a2 = some (.bool ours) := fun w' hb => cell_keep h2 hb
  have k4 : ∀ w', Below w.heap.size w w' → w'.cell? a4 = some (.int .i64 d) := fun w' hb => cell_keep h4 hb
  have k5 : ∀ w', Below w.heap.size w w' → w'.cell? a5 = some (.int .i64 r) := fun w' hb => cell_keep h5 hb
  unfold ScP.movedG
  have HM := fun w => meant_any x sh ours w
  generalize RfP.moveP x b d r = y at *
  generalize RfP.belP x sh ours = q at *
  refine enter env_ok Tryz.func48 rfl Tryz.results48 Tryz.ntmps48 [] [] [rS x, .any (.pointer (some a1)), .any (.pointer (some a2)), .any (.pointer (some a3)), .any (.pointer (some a4)), .any (.pointer (some a5))] ⟨rS_ok x 0, rfl, rfl, rfl, rfl, rfl, trivial⟩ (Nat.le_of_ble_eq_true rfl) w _ 1000 ?_
  repeat' (first | ((with_reducible first | show wpS _ _ _ _ | show putD _ _ _ _ | show putW _ _ _ _ | show splitG _ _ _ | show wpQ _ _ _ _ _ _ | show wpD _ _ _ _ _ _ _ | show wpX _ _ _ _ _ _ | show expX _ _ _ _ _ _ | show stepX _ _ _ _); conv => whnf) | ((with_reducible show RetN _ _ _); refine retB fun β => ?_) | ((with_reducible show _ ∧ _); first | (apply And.intro; (· intro h; exfalso; first | omega | (revert h; decide)); intro _) | (apply And.intro; rotate_left; (· intro h; exfalso; first | omega | (revert h; decide)); intro _) | (refine ⟨fun _ => ?_, fun _ => ?_⟩) | (apply And.intro; · kernel_rfl) | (apply And.intro; · (show inK _ _; unfold inK; omega)) | (apply And.intro; · (show (_ : Int) ≤ 9223372036854775807; (try simp only [List.length_append, List.length_drop, List.length_take, List.length_cons, List.length_nil]); omega))) | ((with_reducible show bothX _ _); refine bothI ?_ ?_; conv => whnf) | (with_reducible exact trivial) | ((with_reducible show CallN _ _ _ _ _ _ _ _); refine call_of env_ok rfl 1000 ?_) | ((with_reducible show XopN _ _ _ _ _ _); refine xop_of env_ok rfl 1000 ?_) | ((with_reducible show CallX _ _ _ _ _ _); first | (refine callX (.tup [.agg (rF y), .int .i64 0]) (by kernel_rfl) rfl (⟨rS_ok y _, trivial, trivial⟩) (fun β w hm => HC w) ?_) | (refine callX (.bool q) (by kernel_rfl) rfl (trivial) (fun β w hm => HM w) ?_)) | ((with_reducible show OpX _ _ _ _); first | fail) | ((with_reducible show ∃ _ : SV, _); first | (refine ⟨.str sh, fun _ _ => trivial, x_load1 (a := a1) (fun w => Tryz.isAgg9 w) (fun w' hb β => k1 w' hb), ?_⟩) | (refine ⟨.bool ours, fun _ _ => trivial, x_load1 (a := a2) (fun w => Tryz.isAgg4 w) (fun w' hb β => k2 w' hb), ?_⟩) | (refine ⟨.agg (rectF b), fun _ _ => rect_ok b _, x_loadAgg (a := a3) (vs := rectF b) (fun w => Tryz.isAgg42 w) (fun w => Tryz.sizeOf42 w) (fun w' hb β j v hv => (h3.keep hb) j v hv), ?_⟩) | (refine ⟨.int .i64 d, fun _ _ => trivial, x_load1 (a := a4) (fun w => Tryz.isAgg3 w) (fun w' hb β => k4 w' hb), ?_⟩) | (refine ⟨.int .i64 r, fun _ _ => trivial, x_load1 (a := a5) (fun w => Tryz.isAgg3 w) (fun w' hb β => k5 w' hb), ?_⟩)) | ((with_reducible show ∃ _, _); first | fail))
  · rw [if_pos ‹q = true›]; rfl
  · rw [if_neg (by simp [*])]; rfl
set_option maxRecDepth 100000 in
theorem sMoved_any (s sh : List UInt8) (ours : Bool) (b : RfP.Rect) (d r : Int) (w : World) (hs : s.length ≤ 1000) (hw0 : 0 < w.heap.size) (hw : LW w) : Calls Tryz.prog 16 #[.string (bstr s), .string (bstr sh), .bool ours, .agg (rectC b), .int .i64 d, .int .i64 r] w fun e w' => e = .returned (.tuple #[.string (bstr (ScP.movedS s sh ours b d r).1), .int .i64 (ScP.movedS s sh ours b d r).2]) ∧ Below w.heap.size w w' := by
  have HC := fun w => Moved_any RfP.zeroR b d r w
  have e0 : RfP.movedX RfP.zeroR b d r = if RfP.blockP b d r ≠ 0 then (RfP.zeroR, 2) else (RfP.moveP RfP.zeroR b d r, 0) := by unfold RfP.movedX; rw [if_neg (by rw [RfP.zero_valid]; simp)]
  rw [e0] at HC
  unfold ScP.movedS
  by_cases hf : RfP.blockP b d r ≠ 0
  · rw [if_pos hf] at *
    refine enter env_ok Tryz.func16 rfl Tryz.results16 Tryz.ntmps16 [] [] [.str s, .str sh, .bool ours, .agg (rectF b), .int .i64 d, .int .i64 r] ⟨trivial, trivial, trivial, rect_ok b 0, trivial, trivial, trivial⟩ (Nat.le_of_ble_eq_true rfl) w _ 1000 ?_
    repeat' (first | ((with_reducible first | show wpS _ _ _ _ | show putD _ _ _ _ | show putW _ _ _ _ | show splitG _ _ _ | show wpQ _ _ _ _ _ _ | show wpD _ _ _ _ _ _ _ | show wpX _ _ _ _ _ _ | show expX _ _ _ _ _ _ | show stepX _ _ _ _); conv => whnf) | ((with_reducible show RetN _ _ _); refine retB fun β => ?_) | ((with_reducible show _ ∧ _); first | (apply And.intro; (· intro h; exfalso; first | omega | (revert h; decide)); intro _) | (apply And.intro; rotate_left; (· intro h; exfalso; first | omega | (revert h; decide)); intro _) | (refine ⟨fun _ => ?_, fun _ => ?_⟩) | (apply And.intro; · kernel_rfl) | (apply And.intro; · (show inK _ _; unfold inK; omega)) | (apply And.intro; · (show (_ : Int) ≤ 9223372036854775807; (try simp only [List.length_append, List.length_drop, List.length_take, List.length_cons, List.length_nil]); omega))) | ((with_reducible show bothX _ _); refine bothI ?_ ?_; conv => whnf) | (with_reducible exact trivial) | ((with_reducible show CallN _ _ _ _ _ _ _ _); refine call_of env_ok rfl 1000 ?_) | ((with_reducible show XopN _ _ _ _ _ _); refine xop_of env_ok rfl 1000 ?_) | ((with_reducible show CallX _ _ _ _ _ _); first | (refine callX (.tup [.agg (rF RfP.zeroR), .int .i64 2]) (by kernel_rfl) rfl (⟨rS_ok _ _, trivial, trivial⟩) (fun β w hm => HC w) ?_)) | ((with_reducible show OpX _ _ _ _); first | fail) | ((with_reducible show ∃ _ : SV, _); first | fail) | ((with_reducible show ∃ _, _); first | fail))
    all_goals rfl
  · rw [if_neg hf] at *
    have hf : RfP.blockP b d r = 0 := by omega
    refine enter env_ok Tryz.func16 rfl Tryz.results16 Tryz.ntmps16 [] [] [.str s, .str sh, .bool ours, .agg (rectF b), .int .i64 d, .int .i64 r] ⟨trivial, trivial, trivial, rect_ok b 0, trivial, trivial, trivial⟩ (Nat.le_of_ble_eq_true rfl) w _ 1000 ?_
    repeat' (first | ((with_reducible first | show wpS _ _ _ _ | show putD _ _ _ _ | show putW _ _ _ _ | show splitG _ _ _ | show wpQ _ _ _ _ _ _ | show wpD _ _ _ _ _ _ _ | show wpX _ _ _ _ _ _ | show expX _ _ _ _ _ _ | show stepX _ _ _ _); conv => whnf) | ((with_reducible show RetN _ _ _); refine retB fun β => ?_) | ((with_reducible show _ ∧ _); first | (apply And.intro; (· intro h; exfalso; first | omega | (revert h; decide)); intro _) | (apply And.intro; rotate_left; (· intro h; exfalso; first | omega | (revert h; decide)); intro _) | (refine ⟨fun _ => ?_, fun _ => ?_⟩) | (apply And.intro; · kernel_rfl) | (apply And.intro; · (show inK _ _; unfold inK; omega)) | (apply And.intro; · (show (_ : Int) ≤ 9223372036854775807; (try simp only [List.length_append, List.length_drop, List.length_take, List.length_cons, List.length_nil]); omega))) | ((with_reducible show bothX _ _); refine bothI ?_ ?_; conv => whnf) | (with_reducible exact trivial) | ((with_reducible show CallN _ _ _ _ _ _ _ _); refine call_of env_ok rfl 1000 ?_) | ((with_reducible show XopN _ _ _ _ _ _); refine xop_of env_ok rfl 1000 ?_) | ((with_reducible show CallX _ _ _ _ _ _); first | (refine callX (.tup [.agg (rF (RfP.moveP RfP.zeroR b d r)), .int .i64 0]) (by kernel_rfl) rfl (⟨rS_ok _ _, trivial, trivial⟩) (fun β w hm => HC w) ?_) | (refine callX (.str (ScP.rewP (ScP.movedG sh ours b d r) s)) (by kernel_rfl) rfl trivial (fun β w' hm => ?_) ?_)) | ((with_reducible show OpX _ _ _ _); first | fail) | ((with_reducible show ∃ _ : SV, _); first | (refine ⟨_, ?ok, x_func, ?_⟩; (case ok => exact fun n h => h))) | ((with_reducible show ∃ _, _); first | fail))
    · have h1 : w'.cell? ⟨β 0, 0, none⟩ = some (.string (bstr sh)) := mem_cell hm 0 0 rfl rfl
      have h2 : w'.cell? ⟨β 1, 0, none⟩ = some (.bool ours) := mem_cell hm 1 0 rfl rfl
      have h3 : RectAt ⟨β 2, 0, none⟩ b w' := mem_rect hm 2 rfl
      have h4 : w'.cell? ⟨β 3, 0, none⟩ = some (.int .i64 d) := mem_cell hm 3 0 rfl rfl
      have h5 : w'.cell? ⟨β 4, 0, none⟩ = some (.int .i64 r) := mem_cell hm 4 0 rfl rfl
      exact replaced_any s 48 [.pointer (some ⟨β 0, 0, none⟩), .pointer (some ⟨β 1, 0, none⟩), .pointer (some ⟨β 2, 0, none⟩), .pointer (some ⟨β 3, 0, none⟩), .pointer (some ⟨β 4, 0, none⟩)] (ScP.movedG sh ours b d r) w' hs (Nat.lt_of_lt_of_le hw0 hm.base_le) (hw.below hm.below) (by kernel_rfl) (by simp [Value.oneCell']) (fun x hx => ScP.movedG_valid hx)
        (fun x w1 hx hb => moved1_any x sh ours b d r _ _ _ _ _ w1 hx hf (cell_keep h1 hb) (cell_keep h2 hb) (h3.keep hb) (cell_keep h4 hb) (cell_keep h5 hb))
    all_goals rfl
end Go.Proofs.YtmodjglbjempkaaGreatDoor
