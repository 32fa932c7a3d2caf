/- A walk that reckons: an array of numbers, sliced. Values, the program: the calendar. Values, the program: texts divided; dates. Values, the program: times: the walk. Values, the program: times. -/
import Derived.Test.YtdkhkfdenlabaaaGreatDoorLGG
import Derived.Test.YtdkhkfdenlabaaaGreatDoorLGJ
import Derived.Test.YtdkhkfdenlabaaaGreatDoorLGP
import Derived.Lib.ItoaLen
import Derived.DataShut
set_option linter.unusedSimpArgs false
set_option linter.unusedVariables false
set_option maxRecDepth 100000
set_option maxHeartbeats 64000000
namespace Go.Proofs.YtdkhkfdenlabaaaGreatDoor
open Go.RowKit
namespace Sym
theorem Sat.rerow {base : Nat} {w0 : Base} {β : Nat → Nat} {a : Act} {w : World} {fr : List (Nat × SV)} {rows : List (Nat × Bool × SRow)} {nx n i : Nat} {o : Bool} {r r' : SRow} (hs : Sat base w0 ⟨fr, rows, nx, n⟩ β a w) (hi : get rows i = some (o, r)) (hr : RowIs w β (β i) r') (ho : r'.ok nx) :
  Sat base w0 ⟨fr, (i, o, r') :: rows, nx, n⟩ β a w := by
 obtain ⟨h1, h2, h3, h4⟩ := hs
 have old : ∀ j ow rw, get ((i, o, r') :: rows) j = some (ow, rw) → ∃ r0, get rows j = some (ow, r0) := fun j ow rw hj => by
  rw [get_cons] at hj
  by_cases e : i = j
  ·rw [if_pos e] at hj
   cases hj
   subst e
   exact ⟨_, hi⟩
  ·rw [if_neg e] at hj
   exact ⟨_, hj⟩
 refine ⟨h1, h2, h3, ⟨h4.below, h4.base_le, fun j ow rw hj => ?_, h4.lt, fun j l r1 ol r2 hj hl hlj => ?_, h4.n0, h4.ext⟩⟩
 ·rw [get_cons] at hj
  by_cases e : i = j
  ·rw [if_pos e] at hj
   cases hj
   subst e
   have := h4.row i o r hi
   exact ⟨hr, ho, this.2.2.1, this.2.2.2⟩
  ·rw [if_neg e] at hj
   exact h4.row j ow rw hj
 ·obtain ⟨p, hp⟩ := old _ _ _ hj
  obtain ⟨q, hq⟩ := old _ _ _ hl
  exact h4.inj j l p ol q hp hq hlj
theorem opx_arr {C : Ctx} {d : Nat} {ty : TypeId} {pos : String} {after : Array Edge} {gd : Option (Nat × Bool)} {fr : List (Nat × SV)} {rows : List (Nat × Bool × SRow)} {nx n : Nat} {K : St → Prop}
  {x hi : Operand} {t e t' : TypeId} {i len j : Nat} {cs : List SV} {kd : IntKind} {q : Int} (xs : List Value) (hd : Nat.blt d n = true) (hx : ev fr x = some (.ptr i 0)) (hh : ev fr hi = some (.int kd q)) (hq : q = (j : Nat)) (ri : get rows i = some (true, .cells t' cs))
  (ht : C.P.underlying t = some (.array len e)) (hs : ∀ w, (sizeOf e).run C.P w = .ok 1 w) (hc : ∀ β, SV.dens β cs = xs) (hl : xs.length = len) (hm : len ≤ maxLen) (hj : j ≤ len)
  (h : ∀ g, K ⟨(d, .any (.slice (some ⟨g, 0, none⟩) j len)) :: fr, (i, true, .blob (OwnS t' 1 g len len xs)) :: rows, nx, n⟩) :
  OpX C ⟨some d, .slice t x none (some hi) none, ty, pos, after, gd⟩ ⟨fr, rows, nx, n⟩ K := by
 subst hq
 unfold OpX
 intro β a w hsat next Q hn
 have e1 := (ev_sound hsat hx).1
 have e2 := (ev_sound hsat hh).1
 have q0 : (underlying t).run C.P w = .ok (.array len e) w := by simp [underlying, ht]
 have hj0 : ¬ ((len : Int) < (j : Int)) := by omega
 have hr : (execOp a.eval ⟨some d, .slice t x none (some hi) none, ty, pos, after, gd⟩).run C.P w = .ok (.value (.slice (some ⟨β i, 0, none⟩) j len)) w := by
  simp [execOp, e1, e2, SV.den, Instr.sliceAt, Instr.sureAddr, q0, hs, Instr.sliceBounds, Instr.sliceBound, asIntOf, hj0, add_zero]
  intro hlt; exfalso; omega
 unfold Oper.wp
 rw [hr]
 obtain ⟨k1, k2, k3, k4⟩ := hsat.mem.row i true _ ri
 have hrow : w.heap[β i]? = some (.cells xs.toArray t' (0, 0)) := by
  have := k1
  simp only [RowIs] at this
  rw [hc] at this
  exact this
 have hs2 := hsat.rerow (r' := .blob (OwnS t' 1 (β i) len len xs)) ri ⟨hsat.mem.lt i k3, rfl, xs.toArray, hrow, Nat.le_refl _, hm, by simp [hl], by simp [List.take_of_length_le, hl], by simp [hl]⟩ trivial
 exact hn _ β _ w (h (β i)) (hs2.put (by simpa [Nat.blt_eq] using hd) rfl)
def enumL {α : Type} : Nat → List α → List (Nat × α)
 | _, [] => []
 | p, v :: r => (p, v) :: enumL (p + 1) r
theorem fill_all : ∀ (vs pre post : List Value), (∀ v ∈ vs, v.cells = #[v]) → post.length = vs.length → Instr.fill (fun i => some (i, 1)) (pre ++ post).toArray (enumL pre.length vs) = some (pre ++ vs).toArray
 | [], pre, post, _, hl => by
   have : post = [] := List.eq_nil_of_length_eq_zero hl
   subst this; rfl
 | v :: vs, pre, post, h, hl => by
   cases post with
   | nil => cases hl
   | cons q post =>
     have hv := h v (by simp)
     have ih := fill_all vs (pre ++ [v]) post (fun u hu => h u (by simp [hu])) (by simpa using hl)
     have hlen : (pre ++ [v]).length = pre.length + 1 := by simp
     rw [hlen] at ih
     have hA : ((pre ++ q :: post).toArray).setIfInBounds (pre.length + 0) v = (pre ++ [v] ++ post).toArray := by
      apply Array.toList_inj.1
      simp
     show (match (some (pre.length, 1) : Option (Nat × Nat)) with
      | none => none
      | some (off, size) => if v.cells.size ≠ size || off + v.cells.size > (pre ++ q :: post).toArray.size then none else Instr.fill (fun i => some (i, 1)) (v.cells.zipIdx.foldl (fun cs (c, j) => cs.setIfInBounds (off + j) c) (pre ++ q :: post).toArray) (enumL (pre.length + 1) vs)) = _
     rw [hv]
     have hc : ¬ ((#[v].size ≠ 1 || decide (pre.length + #[v].size > (pre ++ q :: post).toArray.size)) = true) := by simp
     have hz : (#[v].zipIdx.foldl (fun cs (x : Value × Nat) => cs.setIfInBounds (pre.length + x.2) x.1) (pre ++ q :: post).toArray) = (pre ++ [v] ++ post).toArray := hA
     dsimp only
     rw [if_neg hc]
     have hz' : (#[v].zipIdx.foldl (fun cs x => match x with | (c, j) => cs.setIfInBounds (pre.length + j) c) (pre ++ q :: post).toArray) = (pre ++ [v] ++ post).toArray := hz
     rw [hz', ih]
     simp
theorem enumL_map {α β : Type} (f : α → β) : ∀ (p : Nat) (l : List α), (enumL p l).map (fun (x : Nat × α) => (x.1, f x.2)) = enumL p (l.map f)
 | _, [] => rfl
 | p, v :: r => by simp only [enumL, List.map_cons, enumL_map f (p + 1) r]
theorem x_buildArr {C : Ctx} {G : Blobs} {ps : List (Nat × Operand)} {vs : List SV} {t e : TypeId} {len : Nat} {z : Value} (hp : ps = enumL 0 (ps.map (·.2))) (ht : C.P.underlying t = some (.array len e)) (hs : ∀ w, (sizeOf e).run C.P w = .ok 1 w) (hz : ∀ w, (zeroValue t).run C.P w = .ok z w) (hc : z.cells.size = vs.length) (h1 : ∀ β, ∀ u ∈ SV.dens β vs, u.cells = #[u]) :
  ExtN C G (.build t ⟨ps⟩) vs (.agg vs) := by
 unfold ExtN
 intro ρ β w dst ty pos after g _ _ h
 have h : (ps.map (·.2)).map ρ = SV.dens β vs := by
  have h : ps.map (fun x => ρ x.2) = SV.dens β vs ∨ (ps.map (·.2)).map ρ = SV.dens β vs := .inr h
  exact h.elim (fun h => by rw [List.map_map]; exact h) id
 have q : (underlying t).run C.P w = .ok (.array len e) w := by simp [underlying, ht]
 have e1 : (((⟨ps⟩ : Array (Nat × Operand)).map fun (i, x) => (i, ρ x)).toList) = enumL 0 (SV.dens β vs) := by
  rw [← h, ← enumL_map, ← hp]
  simp
 have f1 : Instr.fill (fun i => some (i * 1, 1)) z.cells (enumL 0 (SV.dens β vs)) = some (SV.dens β vs).toArray := by
  have := fill_all (SV.dens β vs) [] z.cells.toList (h1 β) (by rw [SV.dens_len]; simpa using hc)
  simpa using this
 have hb : (Instr.build t ((⟨ps⟩ : Array (Nat × Operand)).map fun (i, x) => (i, ρ x))).run C.P w = .ok (.agg (SV.dens β vs).toArray) w := by
  unfold Instr.build
  rw [Sem.run_bind, hz]
  simp only [Result.andThen_ok, Sem.run_bind, q, hs, e1, f1]
  rfl
 simp only [execOp, Sem.run_bind, hb]
 simp [SV.den]
def allInt : List SV → Bool
 | [] => true
 | .int _ _ :: r => allInt r
 | _ => false
theorem allInt_cells : ∀ {vs : List SV}, allInt vs = true → ∀ β, ∀ u ∈ SV.dens β vs, u.cells = #[u]
 | [], _, _, u, h => by cases h
 | .int k n :: r, h, β, u, hu => by
   rcases List.mem_cons.1 hu with rfl | hu
   ·rfl
   ·exact allInt_cells (vs := r) h β u hu
theorem opx_loadC {C : Ctx} {d : Nat} {ty : TypeId} {pos : String} {after : Array Edge} {gd : Option (Nat × Bool)} {fr : List (Nat × SV)} {rows : List (Nat × Bool × SRow)} {nx n : Nat} {K : St → Prop}
  {x : Operand} {t t' : TypeId} {i off : Nat} {o : Bool} {cs : List SV} (v : SV) (hd : Nat.blt d n = true) (hag : ∀ w, (isAgg t).run C.P w = .ok false w)
  (hx : ev fr x = some (.ptr i off)) (ri : get rows i = some (o, .cells t' cs)) (hv : cs[off]? = some v)
  (h : K ⟨(d, v) :: fr, rows, nx, n⟩) : OpX C ⟨some d, .load t x, ty, pos, after, gd⟩ ⟨fr, rows, nx, n⟩ K := by
 unfold OpX
 intro β a w hs next Q hn
 obtain ⟨k1, k2, k3, k4⟩ := hs.mem.row i o _ ri
 have k1 : Row w (β i) t' (SV.dens β cs).toArray := k1
 have e1 := (ev_sound hs hx).1
 have hc : w.cell? ⟨β i, off, none⟩ = some (v.den β) := by
  rw [k1.cell]
  have := SV.dens_get β cs off
  rw [hv] at this
  simpa using this
 have hrun : (execOp a.eval ⟨some d, .load t x, ty, pos, after, gd⟩).run C.P w = .ok (.value (v.den β)) w := by
  simp [execOp, Instr.loadAt, Instr.sureAddr, e1, SV.den, loadVar, hag, hc]
 unfold Oper.wp
 rw [hrun]
 exact hn _ β _ w h (hs.put (by simpa [Nat.blt_eq] using hd) (SV.oks_get cs off v k2 hv))
theorem x_indexPtrI {C : Ctx} {G : Blobs} {x y : Operand} {t e : TypeId} {i off len j sz : Nat} {q : Int} (hq : q = (j : Nat)) (ht : C.P.underlying t = some (.array len e)) (hs : ∀ w, (sizeOf e).run C.P w = .ok sz w) (hj : j < len) :
  ExtN C G (.indexAddr t x y) [.ptr i off, .int .i64 q] (.ptr i (off + j * sz)) := by
 subst hq; exact x_indexPtr ht hs hj
end Sym
end Go.Proofs.YtdkhkfdenlabaaaGreatDoor
namespace Go.Proofs.YtdkhkfdenlabaaaGreatDoor
open Go.RowKit
open Sym
attribute [local irreducible] Calls Sym.AggEq ExP.nd ExP.dig ExP.upd ExP.writeF ExP.writeE
theorem before_any (y : Nat) (w : World) (h1 : 1900 ≤ y) (h2 : y ≤ 20000) : QC 80 #[.int .i64 (y : Int)] w (.int .i64 (VaP.bef y : Nat)) := by
 rw [VaP.bef_int h1]
 refine yE Tryz.func80 rfl Tryz.results80 Tryz.ntmps80 [] [] [.int .i64 (y : Int)] w ?_
 repeat' (first | refine yX ?_ | (apply And.intro <;> intro _) | apply bothI | refine retB fun β => ?_ | intro βe | refine yO (x_quo (by omega) (by omega) (by simp only [inK]; omega)) ?_ | exact trivial)
 all_goals first | rfl | (simp only [SV.den]; done) | (simp only [SV.den]; congr 1; omega)
theorem lengths_any (y F : Nat) (w : World) (h2 : y ≤ 20000) (hF : F = VaP.mdays y 2) : QC 79 #[.int .i64 (y : Int)] w (.agg #[.int .i64 31, .int .i64 (F : Nat), .int .i64 31, .int .i64 30, .int .i64 31, .int .i64 30, .int .i64 31, .int .i64 31, .int .i64 30, .int .i64 31, .int .i64 30, .int .i64 31]) := by
 have hF' : F = if VaP.leap y then 29 else 28 := hF
 unfold VaP.leap at hF'
 refine yE Tryz.func79 rfl Tryz.results79 Tryz.ntmps79 [] [] [.int .i64 (y : Int)] w ?_
 repeat' (first | refine yX ?_ | (apply And.intro <;> intro _) | apply bothI | refine retB fun β => ?_ | intro βe | refine yO (x_buildArr rfl Tryz.underlying95 (fun w => Tryz.sizeOf3 w) (fun w => Tryz.zeroValue95 w) rfl (allInt_cells rfl)) ?_ | refine yO (x_rem (by omega) (by omega)) ?_ | refine yO (x_indexPtrI (j := 1) (by rfl) Tryz.underlying95 (fun w => Tryz.sizeOf3 w) (by omega)) ?_ | exact trivial)
 all_goals first | (have e : F = 29 := by { rw [hF']; simp; omega }; subst e; rfl) | (have e : F = 28 := by { rw [hF']; simp; omega }; subst e; rfl) | trace_state
def VaP.dayL (y : Nat) : List Value := [.int .i64 31, .int .i64 (VaP.mdays y 2 : Nat), .int .i64 31, .int .i64 30, .int .i64 31, .int .i64 30, .int .i64 31, .int .i64 31, .int .i64 30, .int .i64 31, .int .i64 30, .int .i64 31]
theorem dayL_get (y i : Nat) (h : i < 12) : (VaP.dayL y)[i]? = some (.int .i64 (VaP.mdays y (i + 1) : Nat)) := by
 rcases i with _ | _ | _ | _ | _ | _ | _ | _ | _ | _ | _ | _ | i
 all_goals first | (exfalso; omega) | rfl
abbrev dayS (F : Nat) : List SV := [.int .i64 31, .int .i64 (F : Nat), .int .i64 31, .int .i64 30, .int .i64 31, .int .i64 30, .int .i64 31, .int .i64 31, .int .i64 30, .int .i64 31, .int .i64 30, .int .i64 31]
theorem dayS_dens (y : Nat) (β : Nat → Nat) : SV.dens β (dayS (VaP.mdays y 2)) = VaP.dayL y := rfl
theorem dayS_get (y i : Nat) (h : i < 12) : (dayS (VaP.mdays y 2))[i]? = some (.int .i64 (VaP.mdays y (i + 1) : Nat)) := by
 rcases i with _ | _ | _ | _ | _ | _ | _ | _ | _ | _ | _ | _ | i
 all_goals first | (exfalso; omega) | rfl
theorem day_no (y m d : Int) (w : World) (h : y < 1900 ∨ 9999 < y ∨ m < 1 ∨ 12 < m) : QC 29 #[.int .i64 y, .int .i64 m, .int .i64 d] w (.tuple #[.int .i64 0, .bool false]) := by
 refine yE Tryz.func29 rfl Tryz.results29 Tryz.ntmps29 [] [] [.int .i64 y, .int .i64 m, .int .i64 d] w ?_
 repeat' (first | refine yX ?_ | (apply And.intro <;> intro _) | apply bothI | refine retB fun β => ?_ | intro βe | exact trivial)
 all_goals first | rfl | (exfalso; omega)
theorem day_in (y m : Nat) (d : Int) (w : World) (h1 : 1900 ≤ y) (h2 : y ≤ 9999) (h3 : m < 12) (D : Nat) (hD : D = VaP.mdays y (m + 1)) (n : Int) (ok : Bool) (hn : n = if 1 ≤ d ∧ d ≤ D then ((VaP.bef y + VaP.msum y m : Nat) : Int) + d else 0) (hok : ok = decide (1 ≤ d ∧ d ≤ D)) :
  QC 29 #[.int .i64 (y : Int), .int .i64 ((m + 1 : Nat) : Int), .int .i64 d] w (.tuple #[.int .i64 n, .bool ok]) := by
 have L := fun (w' : World) => lengths_any y _ w' (by omega) rfl
 have B := fun (w' : World) => before_any y w' h1 (by omega)
 have hbl : VaP.bef y ≤ 2958464 := by
  have e4 := (VaP.bef_mono h1 (10000 - y)).1
  rw [show y + (10000 - y) = 10000 by omega, VaP.bef_end] at e4
  omega
 have hms := VaP.msum_le y
 have hD31 := VaP.mdays_le y (m + 1)
 rw [← hD] at hD31
 have hg := dayL_get y
 have hgs := dayS_get y
 have hds := dayS_dens y
 have hst : ∀ i, VaP.msum y (i + 1) = VaP.msum y i + VaP.mdays y (i + 1) := fun _ => rfl
 have hz : VaP.msum y 0 = 0 := rfl
 have hll : (VaP.dayL y).length = 12 := rfl
 have hml := VaP.mdays_le y
 generalize VaP.dayL y = DL at *
 generalize VaP.msum y = MS at *
 generalize VaP.bef y = BY at *
 generalize VaP.mdays y = MD at *
 refine yE Tryz.func29 rfl Tryz.results29 Tryz.ntmps29 [100035, 100044] [] [.int .i64 (y : Int), .int .i64 ((m + 1 : Nat) : Int), .int .i64 d] w ?_
 have hgo := hgs m h3
 rw [← hD] at hgo
 repeat' (first | refine yX ?_ | (apply And.intro <;> intro _) | apply bothI | refine retB fun β => ?_ | intro βe | refine yK (.agg (dayS (MD 2))) (fun β w hm => L w) ?_ | refine yK (.int .i64 (BY : Nat)) (fun β w hm => B w) ?_ | (refine opx_loadC (.int .i64 (D : Nat)) rfl (fun w => Tryz.isAgg3 w) rfl rfl (by rw [Nat.zero_add, Nat.mul_one]; exact hgo) ?_) | (refine opx_arr (j := m) DL rfl rfl rfl (by omega) rfl Tryz.underlying95 (fun w => Tryz.sizeOf3 w) hds hll (by unfold maxLen; omega) (by omega) (fun g => ?_)) | refine yO (x_indexPtrI (j := m) (by omega) Tryz.underlying95 (fun w => Tryz.sizeOf3 w) (by omega)) ?_ | refine yO (x_len Tryz.underlying69) ?_ | exact trivial)
 all_goals first | (have e : ¬ (1 ≤ d ∧ d ≤ (D : Int)) := by { omega }; rw [hn, hok, if_neg e, decide_eq_false e]; rfl) | skip
 have e : 1 ≤ d ∧ d ≤ (D : Int) := by omega
 rw [if_pos e] at hn
 rw [decide_eq_true e] at hok
 subst hok
 have hme := hms m
 refine yZ (T := {i : Nat // i ≤ m}) (fun t => ⟨[(9, .int .i64 ((BY : Int) + d + (MS t.1 : Nat))), (44, .any (.slice (some ⟨g, 0, none⟩) m 12)), (45, .int .i64 (m : Nat)), (46, .int .i64 (t.1 : Nat))], [(0, true, .blob (OwnS 95 1 g 12 12 DL))], 1, 55⟩) (fun t => m - t.1) ⟨0, Nat.zero_le _⟩ [] [] (fun t I hI => ?_) (by ((with_reducible show wk _ _); repeat' (first | exact trivial | exact eqSV_refl _ | refine eqI ?_ | refine eqS ?_ | apply And.intro | exact yV | fail)); all_goals exact fun b x h => h)
 obtain ⟨i, hi⟩ := t
 dsimp only
 have hsi := hst i
 have hmi := hms i
 have hmm := hml (i + 1)
 by_cases hlt : i < m
 ·repeat' (first | refine yX ?_ | (apply And.intro <;> intro _) | apply bothI | refine retB fun β => ?_ | intro βe | refine yN (j := i) Tryz.underlying69 Tryz.sizeOf3 ?_ | refine yO (v := .int .i64 (MD (i + 1) : Nat)) (x_loadO 0 (.int .i64 (MD (i + 1) : Nat)) (fun w => Tryz.isAgg3 w) rfl (fun β => by rw [Nat.mul_one]; exact hg i (by omega))) ?_ | exact trivial)
  all_goals first | (exfalso; omega) | (refine hI _ ⟨i + 1, by omega⟩ (by dsimp only; omega) (by ((with_reducible show wk _ _); repeat' (first | exact trivial | exact eqSV_refl _ | refine eqI ?_ | refine eqS ?_ | apply And.intro | exact yV | fail)); all_goals exact fun b x h => h); done) | trace_state
 ·repeat' (first | refine yX ?_ | (apply And.intro <;> intro _) | apply bothI | refine retB fun β => ?_ | intro βe | exact trivial)
  all_goals first | (exfalso; omega) | (have e : i = m := by { omega }; subst e; rw [hn]; simp only [SV.den, SV.dens]; congr 4; omega) | trace_state
theorem day_any (y m d : Int) (w : World) : QC 29 #[.int .i64 y, .int .i64 m, .int .i64 d] w (.tuple #[.int .i64 (VaP.dayV y m d), .bool (decide (VaP.dayP y m d))]) := by
 by_cases h : y < 1900 ∨ 9999 < y ∨ m < 1 ∨ 12 < m
 ·have hp : ¬ VaP.dayP y m d := fun hp => by have := hp.1; have := hp.2.1; have := hp.2.2.1; have := hp.2.2.2.1; omega
  rw [decide_eq_false hp, VaP.dayV, if_neg hp]
  exact day_no y m d w h
 ·obtain ⟨y, rfl⟩ : ∃ k : Nat, y = (k : Int) := ⟨y.toNat, by omega⟩
  obtain ⟨m, rfl⟩ : ∃ k : Nat, m = ((k + 1 : Nat) : Int) := ⟨m.toNat - 1, by omega⟩
  have hq : VaP.dayP (y : Int) ((m + 1 : Nat) : Int) d ↔ 1 ≤ d ∧ d ≤ ((VaP.mdays y (m + 1) : Nat) : Int) := by
   unfold VaP.dayP
   rw [Int.toNat_natCast, Int.toNat_natCast]
   constructor
   ·intro h; exact h.2.2.2.2
   ·intro h; exact ⟨by omega, by omega, by omega, by omega, h⟩
  refine day_in y m d w (by omega) (by omega) (by omega) _ rfl _ _ ?_ (by rw [decide_eq_decide]; exact hq)
  unfold VaP.dayV
  by_cases hd : 1 ≤ d ∧ d ≤ ((VaP.mdays y (m + 1) : Nat) : Int)
  ·rw [if_pos hd, if_pos (hq.2 hd), Int.toNat_natCast, Int.toNat_natCast]; rfl
  ·rw [if_neg hd, if_neg (fun h => hd (hq.1 h))]
end Go.Proofs.YtdkhkfdenlabaaaGreatDoor
namespace Go.Proofs.YtdkhkfdenlabaaaGreatDoor
open Go.RowKit
open Sym
def strV (l : List (List UInt8)) : List Value := l.map fun x => Value.string (bstr x)
theorem vsplit_any (c : UInt8) (s : List UInt8) (w : World) (hw : XV w) (hs : s.length ≤ 1000000) : Calls Tryz.prog 117 #[.string (bstr s), .string (bstr [c])] w fun e w' => BW w w' ∧ ∃ g : Nat, e = .returned (.slice (some ⟨g, 0, none⟩) (VaP.splitC c s).length (VaP.splitC c s).length) ∧ ∀ q ∈ [((some ⟨g, 0, none⟩ : Option Addr), strV (VaP.splitC c s))], SlAt q.1 q.2 w' ∧ FreshX q.1 q.2 w := by
 obtain ⟨m, hm⟩ := hw.len
 refine (Tryz.strings_Split (bstr s) (bstr [c]) m w (by rw [bstr_size]; omega) hm (by rw [bstr_size]; exact Nat.le_refl 1)).mono ?_
 rintro e w' ⟨h, rfl⟩
 have h1 : (bstr [c]).data.toList = [c] := rfl
 have h2 : (bstr s).data.toList = s := rfl
 have hd := Lib.splitB_data (bstr [c]) 0 (Lib.countB (bstr s) (bstr [c])) (bstr s)
 have hL : (Lib.splitB (bstr [c]) 0 (Lib.countB (bstr s) (bstr [c])) (bstr s)).map (·.data.toList) = VaP.splitC c s := by
  rw [hd, h1, h2, show Lib.countB (bstr s) (bstr [c]) = Lib.count s [c] from rfl]
  exact VaP.lib_split c _ s (Nat.le_refl _)
 have hV : (Lib.splitB (bstr [c]) 0 (Lib.countB (bstr s) (bstr [c])) (bstr s)).map Value.string = strV (VaP.splitC c s) := by
  unfold strV
  rw [← hL, List.map_map]
  apply List.map_congr_left
  intro b _
  rfl
 have hn := Lib.splitB_all (bstr [c]) (by rw [bstr_size]; exact Nat.le_refl 1) 0 (Lib.countB (bstr s) (bstr [c])) (bstr s) rfl
 have hn' : (VaP.splitC c s).length = Lib.countB (bstr s) (bstr [c]) + 1 := by
  rw [← hL, List.length_map]; exact hn
 rw [hV]
 have hcs := World.cells?_some (World.cells?_alloc_all w (strV (VaP.splitC c s)).toArray 9 0 (strV (VaP.splitC c s)).length (Nat.zero_le _) (by simp))
 refine ⟨(Below.refl _ _).alloc (Nat.le_refl _) _, w.heap.size, by rw [h, hn'], fun q hq => ?_⟩
 obtain rfl := List.mem_singleton.1 hq
 refine ⟨fun i v hi => ⟨_, rfl, ?_, ?_⟩, fun _ ad h => by cases h; exact Nat.le_refl _⟩
 ·show w.heap.size < (w.heap.push _).size
  simp
 ·have hlt := (List.getElem?_eq_some_iff.1 hi).1
  rw [hcs.2.2 i hlt]
  exact hi
section
attribute [local irreducible] Calls Sym.AggEq ExP.nd ExP.dig ExP.upd ExP.writeF ExP.writeE
theorem ExP.write_itoa {n : Nat} (h : n ≤ 9223372036854775807) : (Lib.itoa (n : Int), ([49] : List UInt8)) = ExP.writeF ⟨false, n, 1⟩ := by
 rw [Lib.itoa_nonneg, ExP.write_whole (Nat.le_trans (ExP.nd_le (n := 20) (by omega) (by omega)) (by omega))]
section
variable (s a b c : List UInt8) (k1 k2 k3 N : Int) (o1 o2 o3 P : Bool) (L : List UInt8) (w : World) (hw0 : 0 < w.heap.size)
 (hS : ∀ w' : World, BW w w' → Calls Tryz.prog 117 #[.string (bstr s), .string (bstr [45])] w' fun e w'' => BW w' w'' ∧ ∃ g : Nat, e = .returned (.slice (some ⟨g, 0, none⟩) 3 3) ∧ ∀ q ∈ [((some ⟨g, 0, none⟩ : Option Addr), [Value.string (bstr a), Value.string (bstr b), Value.string (bstr c)])], SlAt q.1 q.2 w'' ∧ FreshX q.1 q.2 w')
 (h1 : ∀ w', BW w w' → QC 118 #[.string (bstr a), .int .i64 4] w' (.tuple #[.int .i64 k1, .bool o1]))
 (h2 : ∀ w', BW w w' → QC 118 #[.string (bstr b), .int .i64 2] w' (.tuple #[.int .i64 k2, .bool o2]))
 (h3 : ∀ w', BW w w' → QC 118 #[.string (bstr c), .int .i64 2] w' (.tuple #[.int .i64 k3, .bool o3]))
 (hD : ∀ w' : World, QC 29 #[.int .i64 k1, .int .i64 k2, .int .i64 k3] w' (.tuple #[.int .i64 N, .bool P]))
 (hO : ∀ w', BW w w' → QC 77 #[.int .i64 N] w' (frV (L, [49])))
include hw0 hS h1 h2 h3 hD hO
theorem date_three : QC 58 #[.string (bstr s)] w (.tuple #[frV (L, [49]), .bool (o1 && o2 && o3 && P)]) := by
 refine yE Tryz.func58 rfl Tryz.results58 Tryz.ntmps58 [] [] [.str s] w ?_
 repeat' (first | refine yX ?_ | (apply And.intro <;> intro _) | apply bothI | refine retB fun β => ?_ | intro βe | (refine callSls (T := Nat) (fun g => .any (.slice (some ⟨g, 0, none⟩) 3 3)) (fun g => [(some ⟨g, 0, none⟩, [Value.string (bstr a), Value.string (bstr b), Value.string (bstr c)])]) hw0 (by kernel_rfl) rfl (fun _ => rfl) (fun β w' hm => hS w' hm.below) (fun g _ => ?_)) | refine yK (.tup [.int .i64 k1, .bool o1]) (fun β w hm => h1 w hm.below) ?_ | refine yK (.tup [.int .i64 k2, .bool o2]) (fun β w hm => h2 w hm.below) ?_ | refine yK (.tup [.int .i64 k3, .bool o3]) (fun β w hm => h3 w hm.below) ?_ | refine yK (.tup [.int .i64 N, .bool P]) (fun β w hm => hD w) ?_ | refine yK (.agg [.str L, .str [49]]) (fun β w hm => hO w hm.below) ?_ | refine yO (x_len Tryz.underlying121) ?_ | refine yN (j := 0) Tryz.underlying121 Tryz.sizeOf9 ?_ | refine yN (j := 1) Tryz.underlying121 Tryz.sizeOf9 ?_ | refine yN (j := 2) Tryz.underlying121 Tryz.sizeOf9 ?_ | refine yO (v := .str a) (x_loadF 1 (.str a) (fun w => Tryz.isAgg9 w) rfl (fun β => rfl)) ?_ | refine yO (v := .str b) (x_loadF 1 (.str b) (fun w => Tryz.isAgg9 w) rfl (fun β => rfl)) ?_ | refine yO (v := .str c) (x_loadF 1 (.str c) (fun w => Tryz.isAgg9 w) rfl (fun β => rfl)) ?_ | exact trivial)
 all_goals first | (exfalso; omega) | (clear hS h1 h2 h3 hD hO; simp_all [SV.den, SV.dens]; done) | trace_state
end
section
variable (s : List UInt8) (n : Nat) (xs : List Value) (w : World) (hw0 : 0 < w.heap.size)
 (hS : ∀ w' : World, BW w w' → Calls Tryz.prog 117 #[.string (bstr s), .string (bstr [45])] w' fun e w'' => BW w' w'' ∧ ∃ g : Nat, e = .returned (.slice (some ⟨g, 0, none⟩) n n) ∧ ∀ q ∈ [((some ⟨g, 0, none⟩ : Option Addr), xs)], SlAt q.1 q.2 w'' ∧ FreshX q.1 q.2 w')
include hw0 hS
theorem date_not (h : n ≠ 3) : QC 58 #[.string (bstr s)] w (.tuple #[frV ([], []), .bool false]) := by
 refine yE Tryz.func58 rfl Tryz.results58 Tryz.ntmps58 [] [] [.str s] w ?_
 repeat' (first | refine yX ?_ | (apply And.intro <;> intro _) | apply bothI | refine retB fun β => ?_ | intro βe | (refine callSls (T := Nat) (fun g => .any (.slice (some ⟨g, 0, none⟩) n n)) (fun g => [(some ⟨g, 0, none⟩, xs)]) hw0 (by kernel_rfl) rfl (fun _ => rfl) (fun β w' hm => hS w' hm.below) (fun g _ => ?_)) | refine yO (x_len Tryz.underlying121) ?_ | exact trivial)
 all_goals first | (exfalso; omega) | rfl | trace_state
end
theorem VaP.cnt_parts {s : List UInt8} {n : Nat} (h : VaP.cntP s n = true) : s.all ExP.digC = true ∧ s.length = n := by
 unfold VaP.cntP at h
 simpa using h
theorem split_len (c : UInt8) : ∀ s : List UInt8, ∀ x ∈ VaP.splitC c s, x.length ≤ s.length
 | [], x, h => by
   simp only [VaP.splitC, List.mem_singleton] at h
   subst h; exact Nat.le_refl _
 | y :: s, x, h => by
   have ih := split_len c s
   unfold VaP.splitC at h
   split at h
   ·rcases List.mem_cons.1 h with rfl | h
    ·simp
    ·have := ih x h; simp; omega
   ·split at h
    ·rename_i h0; exact absurd h0 (VaP.split_ne c s)
    ·rename_i g l h0
     rw [h0] at ih
     rcases List.mem_cons.1 h with rfl | h
     ·have := ih g (List.mem_cons_self ..); simp; omega
     ·have := ih x (List.mem_cons_of_mem _ h); simp; omega
def VaP.dateO (s : List UInt8) : Option ExP.Num := if 0 < VaP.dateV s then some ⟨false, (VaP.dateV s).toNat, 1⟩ else none
theorem vdate_any (s : List UInt8) (w : World) (hw : XV w) (hl : s.length ≤ 40000) : Reads 58 s (VaP.dateO s) w := by
 have hS := fun (w' : World) (h : BW w w') => vsplit_any 45 s w' (hw.below h) (by omega)
 have hlen := split_len 45 s
 unfold VaP.dateO
 by_cases h3 : (VaP.splitC 45 s).length = 3
 ·match hsp : VaP.splitC 45 s, h3 with
  | [a, b, c], _ =>
    rw [hsp] at hS hlen
    have la := hlen a (by simp)
    have lb := hlen b (by simp)
    have lc := hlen c (by simp)
    have hv : VaP.dateV s = if VaP.cntP a 4 = true ∧ VaP.cntP b 2 = true ∧ VaP.cntP c 2 = true then VaP.dayV (ExP.valS a : Nat) (ExP.valS b : Nat) (ExP.valS c : Nat) else 0 := by
     unfold VaP.dateV
     rw [hsp]
    obtain ⟨k1, o1, p1, q1, H1⟩ := count_any a 4 w hw (by omega)
    obtain ⟨k2, o2, p2, q2, H2⟩ := count_any b 2 w hw (by omega)
    obtain ⟨k3, o3, p3, q3, H3⟩ := count_any c 2 w hw (by omega)
    have hb := VaP.dayV_le k1 k2 k3
    have hp := VaP.dayV_pos k1 k2 k3
    have hall : (o1 && o2 && o3 && decide (VaP.dayP k1 k2 k3)) = decide (0 < VaP.dateV s) ∧ (0 < VaP.dateV s → VaP.dateV s = VaP.dayV k1 k2 k3) := by
     by_cases hc : VaP.cntP a 4 = true ∧ VaP.cntP b 2 = true ∧ VaP.cntP c 2 = true
     ·obtain ⟨c1, c2, c3⟩ := hc
      obtain ⟨d1, e1⟩ := VaP.cnt_parts c1
      obtain ⟨d2, e2⟩ := VaP.cnt_parts c2
      obtain ⟨d3, e3⟩ := VaP.cnt_parts c3
      obtain ⟨rfl, rfl⟩ := q1 (by omega) (by omega) d1 (by omega)
      obtain ⟨rfl, rfl⟩ := q2 (by omega) (by omega) d2 (by omega)
      obtain ⟨rfl, rfl⟩ := q3 (by omega) (by omega) d3 (by omega)
      rw [if_pos ⟨c1, c2, c3⟩] at hv
      rw [hv]
      refine ⟨?_, fun _ => rfl⟩
      simp only [Bool.and_self, Bool.true_and]
      rw [decide_eq_decide]; exact hp.symm
     ·rw [if_neg hc] at hv
      rw [hv]
      refine ⟨?_, fun h => absurd h (by omega)⟩
      have hno : (o1 && o2 && o3) = false := by
       cases ho : (o1 && o2 && o3) with
       | false => rfl
       | true =>
         exfalso
         simp only [Bool.and_eq_true] at ho
         obtain ⟨⟨r1, r2⟩, r3⟩ := ho
         obtain ⟨-, d1, e1⟩ := p1 r1
         obtain ⟨-, d2, e2⟩ := p2 r2
         obtain ⟨-, d3, e3⟩ := p3 r3
         exact hc ⟨by unfold VaP.cntP; rw [d1]; simp; omega, by unfold VaP.cntP; rw [d2]; simp; omega, by unfold VaP.cntP; rw [d3]; simp; omega⟩
      rw [hno]; rfl
    refine ⟨(Lib.itoa (VaP.dayV k1 k2 k3), [49]), fun x hx => ?_, ⟨Nat.le_trans (Lib.itoa_length_le _ (by omega) (by omega)) (by omega), by simp⟩, fun w' hb' => ?_⟩
    ·split at hx
     ·rename_i h0
      cases hx
      have := hall.2 h0
      rw [this] at h0 ⊢
      obtain ⟨j, hj⟩ : ∃ j : Nat, VaP.dayV k1 k2 k3 = (j : Int) := ⟨(VaP.dayV k1 k2 k3).toNat, by omega⟩
      rw [hj, ExP.write_itoa (by omega)]
      simp
     ·cases hx
    ·have := date_three s a b c k1 k2 k3 (VaP.dayV k1 k2 k3) o1 o2 o3 (decide (VaP.dayP k1 k2 k3)) (Lib.itoa (VaP.dayV k1 k2 k3)) w' (hw.below hb').pos (fun w2 h2 => hS w2 (belT hb' h2)) (fun w2 h2 => H1 w2 (belT hb' h2)) (fun w2 h2 => H2 w2 (belT hb' h2)) (fun w2 h2 => H3 w2 (belT hb' h2)) (fun w2 => day_any k1 k2 k3 w2) (fun w2 h2 => of_any _ w2 (hw.below (belT hb' h2)).xw (by omega) (by omega))
     rw [hall.1] at this
     by_cases h0 : 0 < VaP.dateV s
     ·rw [if_pos h0]; rw [decide_eq_true h0] at this; exact this
     ·rw [if_neg h0]; rw [decide_eq_false h0] at this; exact this
 ·have hv : VaP.dateV s = 0 := by
   unfold VaP.dateV
   split
   ·rename_i h; rw [h] at h3; exact absurd rfl h3
   ·rfl
  rw [hv, if_neg (by omega)]
  refine ⟨([], []), (fun x h => by cases h), ⟨by simp, by simp⟩, fun w' hb => ?_⟩
  exact date_not s _ _ w' (hw.below hb).pos (fun w2 h2 => hS w2 (belT hb h2)) h3
end
end Go.Proofs.YtdkhkfdenlabaaaGreatDoor
namespace Go.Proofs.YtdkhkfdenlabaaaGreatDoor
open Go.RowKit
open Sym
attribute [local irreducible] Calls Sym.AggEq ExP.nd ExP.dig ExP.upd ExP.writeF ExP.writeE
section
variable (s : List UInt8) (n : Nat) (xs : List Value) (w : World) (hw0 : 0 < w.heap.size)
 (hS : ∀ w' : World, BW w w' → Calls Tryz.prog 117 #[.string (bstr s), .string (bstr [58])] w' fun e w'' => BW w' w'' ∧ ∃ g : Nat, e = .returned (.slice (some ⟨g, 0, none⟩) n n) ∧ ∀ q ∈ [((some ⟨g, 0, none⟩ : Option Addr), xs)], SlAt q.1 q.2 w'' ∧ FreshX q.1 q.2 w')
include hw0 hS
theorem clock_not (h : n < 2 ∨ 3 < n) : QC 59 #[.string (bstr s)] w (.tuple #[frV ([], []), .bool false]) := by
 refine yE Tryz.func59 rfl Tryz.results59 Tryz.ntmps59 [] [200004, 200017] [.str s] w ?_
 repeat' (first | refine yX ?_ | (apply And.intro <;> intro _) | apply bothI | refine retB fun β => ?_ | intro βe | (refine callSls (T := Nat) (fun g => .any (.slice (some ⟨g, 0, none⟩) n n)) (fun g => [(some ⟨g, 0, none⟩, xs)]) hw0 (by kernel_rfl) rfl (fun _ => rfl) (fun β w' hm => hS w' hm.below) (fun g _ => ?_)) | refine yO (x_len Tryz.underlying121) ?_ | exact trivial)
 all_goals first | (exfalso; omega) | rfl | trace_state
variable (a b : List UInt8) (hn : n = 2 ∨ n = 3) (hx0 : xs[0]? = some (.string (bstr a))) (hx1 : xs[1]? = some (.string (bstr b)))
include hn hx0 hx1
theorem clock_hm (k1 k2 : Int) (o1 o2 : Bool)
  (h1 : ∀ w', BW w w' → QC 118 #[.string (bstr a), .int .i64 (a.length : Nat)] w' (.tuple #[.int .i64 k1, .bool o1]))
  (h2 : ∀ w', BW w w' → QC 118 #[.string (bstr b), .int .i64 2] w' (.tuple #[.int .i64 k2, .bool o2]))
  (h : ¬ (o1 = true ∧ o2 = true ∧ a.length ≤ 2 ∧ k1 ≤ 23 ∧ k2 ≤ 59)) : QC 59 #[.string (bstr s)] w (.tuple #[frV ([], []), .bool false]) := by
 refine yE Tryz.func59 rfl Tryz.results59 Tryz.ntmps59 [] [200004, 200017] [.str s] w ?_
 repeat' (first | refine yX ?_ | (apply And.intro <;> intro _) | apply bothI | refine retB fun β => ?_ | intro βe | (refine callSls (T := Nat) (fun g => .any (.slice (some ⟨g, 0, none⟩) n n)) (fun g => [(some ⟨g, 0, none⟩, xs)]) hw0 (by kernel_rfl) rfl (fun _ => rfl) (fun β w' hm => hS w' hm.below) (fun g _ => ?_)) | refine yK (.tup [.int .i64 k1, .bool o1]) (fun β w hm => h1 w hm.below) ?_ | refine yK (.tup [.int .i64 k2, .bool o2]) (fun β w hm => h2 w hm.below) ?_ | ((with_reducible show ∃ _ : SV, _); first | refine yO (x_len Tryz.underlying121) ?_ | refine yN (j := 0) Tryz.underlying121 Tryz.sizeOf9 ?_ | refine yN (j := 1) Tryz.underlying121 Tryz.sizeOf9 ?_ | refine yO (v := .str a) (x_loadF 1 (.str a) (fun w => Tryz.isAgg9 w) rfl (fun β => hx0)) ?_ | refine yO (v := .str b) (x_loadF 1 (.str b) (fun w => Tryz.isAgg9 w) rfl (fun β => hx1)) ?_ | (refine ⟨.tup [.int .i64 k1, .bool o1], by kernel_rfl, ⟨trivial, trivial, trivial⟩, fun β w hm => h1 w hm.below, ?_⟩)) | exact trivial)
 all_goals first | (exfalso; omega) | rfl | (exfalso; clear hS h1 h2; refine h ⟨?_, ?_, ?_, ?_, ?_⟩ <;> first | omega | (simp_all; done)) | trace_state
variable (k1 k2 : Nat) (hk1 : k1 ≤ 23) (hk2 : k2 ≤ 59) (ha : a.length ≤ 2) (L1 L2 : List UInt8)
 (h1 : ∀ w', BW w w' → QC 118 #[.string (bstr a), .int .i64 (a.length : Nat)] w' (.tuple #[.int .i64 (k1 : Nat), .bool true]))
 (h2 : ∀ w', BW w w' → QC 118 #[.string (bstr b), .int .i64 2] w' (.tuple #[.int .i64 (k2 : Nat), .bool true]))
 (hO : ∀ w', BW w w' → QC 77 #[.int .i64 (3600 * (k1 : Int) + 60 * (k2 : Int))] w' (frV (L1, [49])))
 (hG : ∀ w', BW w w' → QC 77 #[.int .i64 86400] w' (frV (L2, [49])))
include hk1 hk2 ha h1 h2 hO hG
theorem clock_two (Q1 Q2 : List UInt8) (e : Int) (h : n = 2)
  (hV : ∀ w', BW w w' → Calls Tryz.prog 112 #[frV (L1, [49]), frV (L2, [49])] w' (WrOut (Q1, Q2) e w')) :
  QC 59 #[.string (bstr s)] w (.tuple #[frV (Q1, Q2), .bool (decide (e = 0))]) := by
 have _u := hn
 refine yE Tryz.func59 rfl Tryz.results59 Tryz.ntmps59 [] [200004, 200017] [.str s] w ?_
 repeat' (first | refine yX ?_ | (apply And.intro <;> intro _) | apply bothI | refine retB fun β => ?_ | intro βe | (refine callSls (T := Nat) (fun g => .any (.slice (some ⟨g, 0, none⟩) n n)) (fun g => [(some ⟨g, 0, none⟩, xs)]) hw0 (by kernel_rfl) rfl (fun _ => rfl) (fun β w' hm => hS w' hm.below) (fun g _ => ?_)) | refine yK (.tup [.int .i64 (k1 : Nat), .lit true]) (fun β w hm => h1 w hm.below) ?_ | refine yK (.tup [.int .i64 (k2 : Nat), .lit true]) (fun β w hm => h2 w hm.below) ?_ | refine yK (.agg [.str L1, .str [49]]) (fun β w hm => hO w hm.below) ?_ | refine yK (.agg [.str L2, .str [49]]) (fun β w hm => hG w hm.below) ?_ | refine yK (.tup [.agg [.str Q1, .str Q2], .int .i64 e]) (fun β w hm => hV w hm.below) ?_ | ((with_reducible show ∃ _ : SV, _); first | refine yO (x_len Tryz.underlying121) ?_ | refine yN (j := 0) Tryz.underlying121 Tryz.sizeOf9 ?_ | refine yN (j := 1) Tryz.underlying121 Tryz.sizeOf9 ?_ | refine yO (v := .str a) (x_loadF 1 (.str a) (fun w => Tryz.isAgg9 w) rfl (fun β => hx0)) ?_ | refine yO (v := .str b) (x_loadF 1 (.str b) (fun w => Tryz.isAgg9 w) rfl (fun β => hx1)) ?_ | (refine ⟨.tup [.int .i64 (k1 : Nat), .lit true], by kernel_rfl, ⟨trivial, trivial, trivial⟩, fun β w hm => h1 w hm.below, ?_⟩) | (refine ⟨.agg [.str L2, .str [49]], by kernel_rfl, ⟨trivial, trivial, trivial⟩, fun β w hm => hG w hm.below, ?_⟩) | (refine ⟨.tup [.agg [.str Q1, .str Q2], .int .i64 e], by kernel_rfl, ⟨⟨trivial, trivial, trivial⟩, trivial, trivial⟩, fun β w hm => hV w hm.below, ?_⟩)) | exact trivial)
 all_goals first | (exfalso; omega) | rfl | trace_state
variable (c x p d r : List UInt8) (point : Bool) (hx2 : xs[2]? = some (.string (bstr c))) (h3 : n = 3)
 (hC : ∀ w', BW w w' → QC 113 #[.string (bstr c), .string (bstr [46])] w' (.tuple #[.string (bstr x), .string (bstr p), .bool point]))
 (hE : ∀ w' : World, QC 119 #[.string (bstr p)] w' (.tuple #[.string (bstr d), .string (bstr r)]))
include hx2 h3 hC hE
theorem clock_sec (k3 : Int) (o3 : Bool) (hX : ∀ w', BW w w' → QC 118 #[.string (bstr x), .int .i64 2] w' (.tuple #[.int .i64 k3, .bool o3]))
  (h : ¬ (o3 = true ∧ k3 ≤ 59 ∧ (point = true → d ≠ [] ∧ r = [] ∧ d.length ≤ 9))) :
  QC 59 #[.string (bstr s)] w (.tuple #[frV ([], []), .bool false]) := by
 have _u := And.intro hn hG
 refine yE Tryz.func59 rfl Tryz.results59 Tryz.ntmps59 [] [200004, 200017] [.str s] w ?_
 repeat' (first | refine yX ?_ | (apply And.intro <;> intro _) | apply bothI | refine retB fun β => ?_ | intro βe | (refine callSls (T := Nat) (fun g => .any (.slice (some ⟨g, 0, none⟩) n n)) (fun g => [(some ⟨g, 0, none⟩, xs)]) hw0 (by kernel_rfl) rfl (fun _ => rfl) (fun β w' hm => hS w' hm.below) (fun g _ => ?_)) | refine yK (.tup [.int .i64 (k1 : Nat), .lit true]) (fun β w hm => h1 w hm.below) ?_ | refine yK (.tup [.int .i64 (k2 : Nat), .lit true]) (fun β w hm => h2 w hm.below) ?_ | refine yK (.tup [.int .i64 k3, .bool o3]) (fun β w hm => hX w hm.below) ?_ | refine yK (.agg [.str L1, .str [49]]) (fun β w hm => hO w hm.below) ?_ | refine yK (.tup [.str x, .str p, .bool point]) (fun β w hm => hC w hm.below) ?_ | refine yK (.tup [.str d, .str r]) (fun β w hm => hE w) ?_ | ((with_reducible show ∃ _ : SV, _); first | refine yO (x_len Tryz.underlying121) ?_ | refine yN (j := 0) Tryz.underlying121 Tryz.sizeOf9 ?_ | refine yN (j := 1) Tryz.underlying121 Tryz.sizeOf9 ?_ | refine yN (j := 2) Tryz.underlying121 Tryz.sizeOf9 ?_ | refine yO (v := .str a) (x_loadF 1 (.str a) (fun w => Tryz.isAgg9 w) rfl (fun β => hx0)) ?_ | refine yO (v := .str b) (x_loadF 1 (.str b) (fun w => Tryz.isAgg9 w) rfl (fun β => hx1)) ?_ | refine yO (v := .str c) (x_loadF 1 (.str c) (fun w => Tryz.isAgg9 w) rfl (fun β => hx2)) ?_ | (refine ⟨.tup [.int .i64 (k1 : Nat), .lit true], by kernel_rfl, ⟨trivial, trivial, trivial⟩, fun β w hm => h1 w hm.below, ?_⟩)) | exact trivial)
 all_goals first | (exfalso; omega) | rfl | (exfalso; clear hS h1 h2 hO hG hC hE hX; refine h ⟨?_, ?_, fun _ => ⟨?_, ?_, ?_⟩⟩ <;> first | omega | (simp_all; done)) | (exfalso; clear hS h1 h2 hO hG hC hE hX; refine h ⟨?_, ?_, fun hp => ?_⟩ <;> first | omega | (simp_all; done)) | trace_state
theorem clock_three (k3 : Nat) (hX : ∀ w', BW w w' → QC 118 #[.string (bstr x), .int .i64 2] w' (.tuple #[.int .i64 (k3 : Nat), .bool true]))
  (h : k3 ≤ 59 ∧ (point = true → d ≠ [] ∧ r = [] ∧ d.length ≤ 9)) (P1 P2 S1 S2 Q1 Q2 : List UInt8) (e1 e2 e : Int)
  (hP : ∀ w', BW w w' → Calls Tryz.prog 111 #[.string (bstr c)] w' (WrOut (P1, P2) e1 w'))
  (hA : ∀ w', BW w w' → Calls Tryz.prog 115 #[frV (L1, [49]), frV (P1, P2)] w' (WrOut (S1, S2) e2 w'))
  (hV : ∀ w', BW w w' → Calls Tryz.prog 112 #[frV (S1, S2), frV (L2, [49])] w' (WrOut (Q1, Q2) e w')) :
  QC 59 #[.string (bstr s)] w (.tuple #[frV (Q1, Q2), .bool (decide (e = 0))]) := by
 have _u := hn
 refine yE Tryz.func59 rfl Tryz.results59 Tryz.ntmps59 [] [200004, 200017] [.str s] w ?_
 repeat' (first | refine yX ?_ | (apply And.intro <;> intro _) | apply bothI | refine retB fun β => ?_ | intro βe | (refine callSls (T := Nat) (fun g => .any (.slice (some ⟨g, 0, none⟩) n n)) (fun g => [(some ⟨g, 0, none⟩, xs)]) hw0 (by kernel_rfl) rfl (fun _ => rfl) (fun β w' hm => hS w' hm.below) (fun g _ => ?_)) | refine yK (.tup [.int .i64 (k1 : Nat), .lit true]) (fun β w hm => h1 w hm.below) ?_ | refine yK (.tup [.int .i64 (k2 : Nat), .lit true]) (fun β w hm => h2 w hm.below) ?_ | refine yK (.tup [.int .i64 (k3 : Nat), .lit true]) (fun β w hm => hX w hm.below) ?_ | refine yK (.agg [.str L1, .str [49]]) (fun β w hm => hO w hm.below) ?_ | refine yK (.agg [.str L2, .str [49]]) (fun β w hm => hG w hm.below) ?_ | refine yK (.tup [.str x, .str p, .bool point]) (fun β w hm => hC w hm.below) ?_ | refine yK (.tup [.str d, .str r]) (fun β w hm => hE w) ?_ | refine yK (.tup [.agg [.str P1, .str P2], .int .i64 e1]) (fun β w hm => hP w hm.below) ?_ | refine yK (.tup [.agg [.str S1, .str S2], .int .i64 e2]) (fun β w hm => hA w hm.below) ?_ | refine yK (.tup [.agg [.str Q1, .str Q2], .int .i64 e]) (fun β w hm => hV w hm.below) ?_ | ((with_reducible show ∃ _ : SV, _); first | refine yO (x_len Tryz.underlying121) ?_ | refine yN (j := 0) Tryz.underlying121 Tryz.sizeOf9 ?_ | refine yN (j := 1) Tryz.underlying121 Tryz.sizeOf9 ?_ | refine yN (j := 2) Tryz.underlying121 Tryz.sizeOf9 ?_ | refine yO (v := .str a) (x_loadF 1 (.str a) (fun w => Tryz.isAgg9 w) rfl (fun β => hx0)) ?_ | refine yO (v := .str b) (x_loadF 1 (.str b) (fun w => Tryz.isAgg9 w) rfl (fun β => hx1)) ?_ | refine yO (v := .str c) (x_loadF 1 (.str c) (fun w => Tryz.isAgg9 w) rfl (fun β => hx2)) ?_ | (refine ⟨.tup [.int .i64 (k1 : Nat), .lit true], by kernel_rfl, ⟨trivial, trivial, trivial⟩, fun β w hm => h1 w hm.below, ?_⟩) | (refine ⟨.agg [.str L2, .str [49]], by kernel_rfl, ⟨trivial, trivial, trivial⟩, fun β w hm => hG w hm.below, ?_⟩) | (refine ⟨.tup [.agg [.str Q1, .str Q2], .int .i64 e], by kernel_rfl, ⟨⟨trivial, trivial, trivial⟩, trivial, trivial⟩, fun β w hm => hV w hm.below, ?_⟩)) | exact trivial)
 all_goals first | (exfalso; omega) | rfl | (exfalso; clear hS h1 h2 hO hG hC hE hX hP hA hV; have h' := h.2 (by assumption); first | (have := h'.2.2; omega) | exact h'.1 (by assumption) | exact (by assumption : ¬ _) h'.2.1 | (simp_all; done) | fail) | trace_state
end
theorem ExP.small25 {n : Nat} (h : n < 10000000000000000000000000) : ExP.nd 10 n ≤ 300 := Nat.le_trans (ExP.nd_le (n := 25) (by omega) (by simpa using h)) (by omega)
theorem ExP.e25 {m : Bool} {n d : Nat} (h : n < 10000000000000000000000000) (h' : d < 10000000000000000000000000) (h0 : 0 < d) : ExP.writeE ⟨m, n, d⟩ = 0 := ExP.writeE_small (x := ⟨m, n, d⟩) (ExP.small25 h) (ExP.small25 h') h0
theorem VaP.hm_iff {a b : List UInt8} {k1 k2 : Int} {o1 o2 : Bool} (p1 : o1 = true → a ≠ [] ∧ a.all ExP.digC = true ∧ (a.length : Int) = (a.length : Nat)) (q1 : 1 ≤ a.length → a.length ≤ 18 → a.all ExP.digC = true → (a.length : Int) = (a.length : Nat) → o1 = true ∧ k1 = (ExP.valS a : Nat))
  (p2 : o2 = true → b ≠ [] ∧ b.all ExP.digC = true ∧ (b.length : Int) = 2) (q2 : 1 ≤ b.length → b.length ≤ 18 → b.all ExP.digC = true → (b.length : Int) = 2 → o2 = true ∧ k2 = (ExP.valS b : Nat)) :
  ((o1 = true ∧ o2 = true ∧ a.length ≤ 2 ∧ k1 ≤ 23 ∧ k2 ≤ 59) ↔ VaP.hmP a b = true) ∧ (VaP.hmP a b = true → k1 = (ExP.valS a : Nat) ∧ k2 = (ExP.valS b : Nat) ∧ ExP.valS a ≤ 23 ∧ ExP.valS b ≤ 59 ∧ a.length ≤ 2) := by
 unfold VaP.hmP VaP.cntP
 simp only [Bool.and_eq_true, decide_eq_true_eq, Bool.not_eq_true', List.isEmpty_eq_false_iff]
 constructor
 ·constructor
  ·rintro ⟨h1, h2, h3, h4, h5⟩
   obtain ⟨a0, a1, -⟩ := p1 h1
   obtain ⟨b0, b1, b2⟩ := p2 h2
   have ha : 1 ≤ a.length := List.length_pos_iff.2 a0
   obtain ⟨-, rfl⟩ := q1 ha (by omega) a1 rfl
   obtain ⟨-, rfl⟩ := q2 (by omega) (by omega) b1 b2
   exact ⟨⟨⟨⟨⟨a0, a1⟩, h3⟩, b1, by omega⟩, by omega⟩, by omega⟩
  ·rintro ⟨⟨⟨⟨⟨a0, a1⟩, h3⟩, b1, b2⟩, h4⟩, h5⟩
   have ha : 1 ≤ a.length := List.length_pos_iff.2 a0
   obtain ⟨r1, rfl⟩ := q1 ha (by omega) a1 rfl
   obtain ⟨r2, rfl⟩ := q2 (by omega) (by omega) b1 (by omega)
   exact ⟨r1, r2, h3, by omega, by omega⟩
 ·rintro ⟨⟨⟨⟨⟨a0, a1⟩, h3⟩, b1, b2⟩, h4⟩, h5⟩
  have ha : 1 ≤ a.length := List.length_pos_iff.2 a0
  obtain ⟨-, e1⟩ := q1 ha (by omega) a1 rfl
  obtain ⟨-, e2⟩ := q2 (by omega) (by omega) b1 (by omega)
  exact ⟨e1, e2, h4, h5, h3⟩
theorem VaP.cutB_no {c : UInt8} {s : List UInt8} (h : (VaP.cutB c s).2.2 = false) : VaP.cutB c s = (s, [], false) := by
 unfold VaP.cutB at h ⊢
 split at h
 ·cases h
 ·rename_i h'; rw [if_neg h']
theorem VaP.cutB_yes {c : UInt8} {s : List UInt8} (h : (VaP.cutB c s).2.2 = true) : s = (VaP.cutB c s).1 ++ c :: (VaP.cutB c s).2.1 := by
 unfold VaP.cutB at h ⊢
 split at h
 ·rename_i h'; rw [if_pos h']; exact VaP.cut_app h'
 ·cases h
theorem ExP.sec_par {x p : List UInt8} {point : Bool} (hx : x ≠ []) (ha : x.all ExP.digC = true) (hl : x.length ≤ 2) (hp : point = true → p ≠ [] ∧ p.all ExP.digC = true ∧ p.length ≤ 9) (hn : point = false → p = []) {c : List UInt8} (hc : c = if point = true then x ++ 46 :: p else x) :
  ExP.parE c = 0 ∧ ExP.decN c = ⟨false, ExP.valS (x ++ p), 10 ^ p.length⟩ := by
 cases point with
 | false =>
   rw [if_neg Bool.false_ne_true] at hc
   obtain rfl := hn rfl
   subst hc
   obtain ⟨h1, h2⟩ := ExP.digits_par hx ha (by omega)
   rw [h1, h2]
   simp
 | true =>
   rw [if_pos rfl] at hc
   obtain ⟨p0, p1, p2⟩ := hp rfl
   have hM : ExP.cutM c = (c, false) := by
    unfold ExP.cutM
    rw [if_neg]
    rw [hc]
    exact VaP.head_dig hx ha
   obtain ⟨r1, r2⟩ := VaP.run_sep (d := x) (r := 46 :: p) ha (fun c q e => by cases e; rfl)
   rw [← hc] at r1 r2
   obtain ⟨s1, s2⟩ := ExP.run_all p1
   have hlen : c.length ≤ 12 := by rw [hc]; simp; omega
   have hD : ExP.decP c = p := by unfold ExP.decP; rw [hM, r2]; unfold ExP.parD; simp [s1]
   have hT : ExP.decT c = [] := by unfold ExP.decT; rw [hM, r2]; unfold ExP.parR; simp [s2]
   have hW : ExP.decW c = x := by unfold ExP.decW; rw [hM]; exact r1
   constructor
   ·unfold ExP.parE
    rw [if_neg (by omega), if_neg]
    rw [hM, r2, hW, hT]
    rintro (h | h | h)
    ·simp [ExP.parX, s1, p0] at h
    ·exact hx h
    ·cases h
   ·unfold ExP.decN
    rw [hM, hD, hT, hW]
    have h0 : 0 < p.length := List.length_pos_iff.2 p0
    unfold ExP.scaleN
    rw [if_pos (by simp [ExP.expV]; omega)]
    simp [ExP.expV]
theorem VaP.sec_parts {x p : List UInt8} {point : Bool} : VaP.secP x p point = true ↔ (x.all ExP.digC = true ∧ x.length = 2) ∧ ExP.valS x ≤ 59 ∧ (point = true → p ≠ [] ∧ p.all ExP.digC = true ∧ p.length ≤ 9) := by
 unfold VaP.secP VaP.cntP
 cases point <;> simp [and_assoc]
theorem vclock_any (s : List UInt8) (w : World) (hw : XV w) (hl : s.length ≤ 40000) : Reads 59 s (VaP.clkV s) w := by
 have hS := fun (w' : World) (h : BW w w') => vsplit_any 58 s w' (hw.below h) (by omega)
 have hlen := split_len 58 s
 have G := fun (w' : World) (h : BW w w') => of_any 86400 w' (hw.below h).xw (by omega) (by omega)
 have g1 : (Lib.itoa 86400, ([49] : List UInt8)) = ExP.writeF ⟨false, 86400, 1⟩ := ExP.write_itoa (n := 86400) (by omega)
 have g2 : ExP.writeE ⟨false, 86400, 1⟩ = 0 := ExP.e25 (by omega) (by omega) (by omega)
 by_cases h23 : (VaP.splitC 58 s).length < 2 ∨ 3 < (VaP.splitC 58 s).length
 ·have hv : VaP.clkV s = none := by
   unfold VaP.clkV
   split
   ·rename_i h; rw [h] at h23; simp at h23
   ·rename_i h; rw [h] at h23; simp at h23
   ·rfl
  rw [hv]
  refine ⟨([], []), (fun x h => by cases h), ⟨by simp, by simp⟩, fun w' hb => ?_⟩
  exact clock_not s _ _ w' (hw.below hb).pos (fun w2 h2 => hS w2 (belT hb h2)) h23
 ·have main : ∀ (a b : List UInt8) (xs : List (List UInt8)), VaP.splitC 58 s = a :: b :: xs → (xs = [] ∨ ∃ c, xs = [c]) → Reads 59 s (VaP.clkV s) w := by
   intro a b xs hsp hxs
   rw [hsp] at hS hlen
   have la := hlen a (by simp)
   have lb := hlen b (by simp)
   have hn : (a :: b :: xs).length = 2 ∨ (a :: b :: xs).length = 3 := by
    rcases hxs with rfl | ⟨c, rfl⟩
    ·exact .inl rfl
    ·exact .inr rfl
   have hx0 : (strV (a :: b :: xs))[0]? = some (.string (bstr a)) := rfl
   have hx1 : (strV (a :: b :: xs))[1]? = some (.string (bstr b)) := rfl
   obtain ⟨k1, o1, p1, q1, H1⟩ := count_any a (a.length : Nat) w hw (by omega)
   obtain ⟨k2, o2, p2, q2, H2⟩ := count_any b 2 w hw (by omega)
   obtain ⟨hI, hK⟩ := VaP.hm_iff p1 q1 p2 q2
   by_cases hm : VaP.hmP a b = true
   ·obtain ⟨rfl, rfl, m1, m2, m3⟩ := hK hm
    obtain ⟨rfl, rfl, -, -, -⟩ := hI.2 hm
    have e3 : (3600 * ((ExP.valS a : Nat) : Int) + 60 * ((ExP.valS b : Nat) : Int)) = ((VaP.hmN a b : Nat) : Int) := by unfold VaP.hmN; omega
    have hN : VaP.hmN a b ≤ 86340 := by unfold VaP.hmN; omega
    have O := fun (w' : World) (h : BW w w') => of_any ((VaP.hmN a b : Nat) : Int) w' (hw.below h).xw (by omega) (by omega)
    have f1 : (Lib.itoa ((VaP.hmN a b : Nat) : Int), ([49] : List UInt8)) = ExP.writeF ⟨false, VaP.hmN a b, 1⟩ := ExP.write_itoa (by omega)
    have f2 : ExP.writeE ⟨false, VaP.hmN a b, 1⟩ = 0 := ExP.e25 (by omega) (by omega) (by omega)
    rcases hxs with rfl | ⟨c, rfl⟩
    ·have hv : VaP.clkV s = some ⟨false, VaP.hmN a b, 86400⟩ := by
      unfold VaP.clkV
      rw [hsp]
      exact if_pos hm
     rw [hv]
     obtain ⟨d1, d2⟩ := ExP.div_w (x := ⟨false, VaP.hmN a b, 1⟩) (y := ⟨false, 86400, 1⟩) rfl rfl Nat.one_pos Nat.one_pos f2 g2 (by show (86400 : Nat) ≠ 0; omega)
     dsimp only at d1 d2
     rw [Nat.mul_one, Nat.one_mul] at d1 d2
     have lF := ExP.writeF_len ⟨false, VaP.hmN a b, 1⟩
     have lG := ExP.writeF_len ⟨false, 86400, 1⟩
     have V := fun (w' : World) (h : BW w w') => div_any (ExP.writeF ⟨false, VaP.hmN a b, 1⟩) (ExP.writeF ⟨false, 86400, 1⟩) w' (hw.below h).xw (hw.below h).pos (by omega) (by omega) (by omega) (by omega)
     rw [d1, d2, ExP.e25 (m := false) (n := VaP.hmN a b) (d := 86400) (by omega) (by omega) (by omega), ← f1, ← g1] at V
     refine ⟨ExP.writeF ⟨false, VaP.hmN a b, 86400⟩, (fun x h => by cases h; rfl), ExP.writeF_len _, fun w' hb => ?_⟩
     have := clock_two s _ _ w' (hw.below hb).pos (fun w2 h2 => hS w2 (belT hb h2)) a b hn hx0 hx1 (ExP.valS a) (ExP.valS b) m1 m2 m3 _ _ (fun w2 h2 => H1 w2 (belT hb h2)) (fun w2 h2 => H2 w2 (belT hb h2)) (fun w2 h2 => by rw [e3]; exact O w2 (belT hb h2)) (fun w2 h2 => G w2 (belT hb h2)) _ _ _ rfl (fun w2 h2 => V w2 (belT hb h2))
     exact this
    ·have lc := hlen c (by simp)
     have hx2 : (strV (a :: b :: [c]))[2]? = some (.string (bstr c)) := rfl
     have C := fun (w' : World) (h : BW w w') => vcut_any 46 c w' (hw.below h) (by omega)
     obtain ⟨cl1, cl2⟩ := VaP.cutB_len 46 c
     have hcn := @VaP.cutB_no 46 c
     have hcy := @VaP.cutB_yes 46 c
     have hv : VaP.clkV s = VaP.clkG a b (VaP.cutB 46 c).1 (VaP.cutB 46 c).2.1 (VaP.cutB 46 c).2.2 := by
      unfold VaP.clkV
      rw [hsp]
     rw [hv]
     obtain ⟨z, hz⟩ : ∃ z, VaP.cutB 46 c = z := ⟨_, rfl⟩
     rw [hz] at C cl1 cl2 hcn hcy ⊢
     obtain ⟨x, p, point⟩ := z
     dsimp only at *
     have E := fun (w' : World) => vdigits_any p w' (by omega)
     obtain ⟨k3, o3, p3, q3, H3⟩ := count_any x 2 w hw (by omega)
     have hrun : (ExP.runD p ≠ [] ∧ ExP.runR p = [] ∧ (ExP.runD p).length ≤ 9) ↔ (p ≠ [] ∧ p.all ExP.digC = true ∧ p.length ≤ 9) := by
      constructor
      ·rintro ⟨t1, t2, t3⟩
       have t4 := ExP.run_not t2
       have t5 := (ExP.run_all t4).1
       rw [t5] at t1 t3
       exact ⟨t1, t4, t3⟩
      ·rintro ⟨t1, t2, t3⟩
       obtain ⟨t4, t5⟩ := ExP.run_all t2
       rw [t4, t5]
       exact ⟨t1, rfl, t3⟩
     by_cases hs : VaP.secP x p point = true
     ·obtain ⟨⟨u1, u2⟩, u3, u4⟩ := VaP.sec_parts.1 hs
      obtain ⟨rfl, rfl⟩ := q3 (by omega) (by omega) u1 (by omega)
      have hpn : point = false → p = [] := fun h => by
       have := hcn h
       cases this; rfl
      have hcc : c = if point = true then x ++ 46 :: p else x := by
       cases point with
       | true => rw [if_pos rfl]; exact hcy rfl
       | false => rw [if_neg Bool.false_ne_true]; have := hcn rfl; cases this; rfl
      have hx' : x ≠ [] := fun e => by rw [e] at u2; cases u2
      obtain ⟨y1, y2⟩ := ExP.sec_par hx' u1 (by omega) u4 hpn hcc
      have hpl : p.length ≤ 9 := by
       cases point with
       | true => exact (u4 rfl).2.2
       | false => rw [hpn rfl]; simp
      have hpd : p.all ExP.digC = true := by
       cases point with
       | true => exact (u4 rfl).2.1
       | false => rw [hpn rfl]; rfl
      have hval : ExP.valS (x ++ p) < 100000000000 := by
       have h1 := ExP.val_lt (x ++ p) (by rw [List.all_append, u1, hpd]; rfl)
       have h2 : (10 : Nat) ^ (x ++ p).length ≤ 10 ^ 11 := Nat.pow_le_pow_right (by omega) (by rw [List.length_append]; omega)
       omega
      have hten : 10 ^ p.length ≤ 1000000000 := by
       have h2 : (10 : Nat) ^ p.length ≤ 10 ^ 9 := Nat.pow_le_pow_right (by omega) hpl
       omega
      have hten0 : 0 < 10 ^ p.length := Nat.pow_pos (by omega)
      have hv2 : VaP.clkG a b x p point = some ⟨false, VaP.hmN a b * 10 ^ p.length + ExP.valS (x ++ p), 10 ^ p.length * 86400⟩ := if_pos ⟨hm, hs⟩
      rw [hv2]
      have P := fun (w' : World) (h : BW w w') => parse_law c w' (hw.below h).xw (hw.below h).pos (by omega)
      have hmul : VaP.hmN a b * 10 ^ p.length ≤ 86340 * 1000000000 := Nat.mul_le_mul hN hten
      simp only [y1, y2, if_true] at P
      generalize ExP.valS (x ++ p) = v at *
      generalize 10 ^ p.length = T at *
      have pe : ExP.writeE ⟨false, v, T⟩ = 0 := ExP.e25 (by omega) (by omega) hten0
      rw [pe] at P
      obtain ⟨a1, a2⟩ := ExP.add_w (x := ⟨false, VaP.hmN a b, 1⟩) (y := ⟨false, v, T⟩) rfl rfl Nat.one_pos hten0 f2 pe
      dsimp only at a1 a2
      rw [Nat.mul_one, Nat.one_mul] at a1 a2
      have se : ExP.writeE ⟨false, VaP.hmN a b * T + v, T⟩ = 0 := ExP.e25 (by omega) (by omega) hten0
      obtain ⟨d1, d2⟩ := ExP.div_w (x := ⟨false, VaP.hmN a b * T + v, T⟩) (y := ⟨false, 86400, 1⟩) rfl rfl hten0 Nat.one_pos se g2 (by show (86400 : Nat) ≠ 0; omega)
      dsimp only at d1 d2
      rw [Nat.mul_one] at d1 d2
      have lF := ExP.writeF_len ⟨false, VaP.hmN a b, 1⟩
      have lG := ExP.writeF_len ⟨false, 86400, 1⟩
      have lP := ExP.writeF_len ⟨false, v, T⟩
      have lS := ExP.writeF_len ⟨false, VaP.hmN a b * T + v, T⟩
      have A := fun (w' : World) (h : BW w w') => add_any (ExP.writeF ⟨false, VaP.hmN a b, 1⟩) (ExP.writeF ⟨false, v, T⟩) w' (hw.below h).xw (hw.below h).pos (by omega) (by omega) (by omega) (by omega)
      rw [a1, a2, se, ← f1] at A
      have V := fun (w' : World) (h : BW w w') => div_any (ExP.writeF ⟨false, VaP.hmN a b * T + v, T⟩) (ExP.writeF ⟨false, 86400, 1⟩) w' (hw.below h).xw (hw.below h).pos (by omega) (by omega) (by omega) (by omega)
      rw [d1, d2, ExP.e25 (m := false) (n := VaP.hmN a b * T + v) (d := T * 86400) (by omega) (by omega) (by omega), ← g1] at V
      refine ⟨ExP.writeF ⟨false, VaP.hmN a b * T + v, T * 86400⟩, (fun x h => by cases h; rfl), ExP.writeF_len _, fun w' hb => ?_⟩
      have := clock_three s _ _ w' (hw.below hb).pos (fun w2 h2 => hS w2 (belT hb h2)) a b hn hx0 hx1 (ExP.valS a) (ExP.valS b) m1 m2 m3 _ _ (fun w2 h2 => H1 w2 (belT hb h2)) (fun w2 h2 => H2 w2 (belT hb h2)) (fun w2 h2 => by rw [e3]; exact O w2 (belT hb h2)) (fun w2 h2 => G w2 (belT hb h2)) c x p (ExP.runD p) (ExP.runR p) point hx2 rfl (fun w2 h2 => C w2 (belT hb h2)) E (ExP.valS x) (fun w2 h2 => H3 w2 (belT hb h2)) ⟨u3, fun hp => hrun.2 (u4 hp)⟩ _ _ _ _ _ _ _ _ _ (fun w2 h2 => P w2 (belT hb h2)) (fun w2 h2 => A w2 (belT hb h2)) (fun w2 h2 => V w2 (belT hb h2))
      exact this
     ·have hv2 : VaP.clkG a b x p point = none := if_neg (fun h => hs h.2)
      rw [hv2]
      refine ⟨([], []), (fun x h => by cases h), ⟨by simp, by simp⟩, fun w' hb => ?_⟩
      refine clock_sec s _ _ w' (hw.below hb).pos (fun w2 h2 => hS w2 (belT hb h2)) a b hn hx0 hx1 (ExP.valS a) (ExP.valS b) m1 m2 m3 _ (Lib.itoa 86400) (fun w2 h2 => H1 w2 (belT hb h2)) (fun w2 h2 => H2 w2 (belT hb h2)) (fun w2 h2 => by rw [e3]; exact O w2 (belT hb h2)) (fun w2 h2 => G w2 (belT hb h2)) c x p (ExP.runD p) (ExP.runR p) point hx2 rfl (fun w2 h2 => C w2 (belT hb h2)) E k3 o3 (fun w2 h2 => H3 w2 (belT hb h2)) ?_
      rintro ⟨t1, t2, t3⟩
      obtain ⟨-, t4, t5⟩ := p3 t1
      obtain ⟨-, rfl⟩ := q3 (by omega) (by omega) t4 t5
      exact hs (VaP.sec_parts.2 ⟨⟨t4, by omega⟩, by omega, fun hp => hrun.1 (t3 hp)⟩)
   ·have hv : VaP.clkV s = none := by
     unfold VaP.clkV
     rw [hsp]
     rcases hxs with rfl | ⟨c, rfl⟩
     ·exact if_neg hm
     ·exact if_neg (fun h => hm h.1)
    rw [hv]
    refine ⟨([], []), (fun x h => by cases h), ⟨by simp, by simp⟩, fun w' hb => ?_⟩
    exact clock_hm s _ _ w' (hw.below hb).pos (fun w2 h2 => hS w2 (belT hb h2)) a b hn hx0 hx1 k1 k2 o1 o2 (fun w2 h2 => H1 w2 (belT hb h2)) (fun w2 h2 => H2 w2 (belT hb h2)) (fun h => hm (hI.1 h))
  match hsp : VaP.splitC 58 s, h23 with
  | [a, b], _ => exact main a b [] hsp (.inl rfl)
  | [a, b, c], _ => exact main a b [c] hsp (.inr ⟨c, rfl⟩)
  | [], h => simp at h
  | [a], h => simp at h
  | a :: b :: c :: d :: e, h => simp at h
end Go.Proofs.YtdkhkfdenlabaaaGreatDoor
