/- Arguments that are slices of steps: opened. -/
import Derived.Test.YtmodjglbjempkaaGreatDoorHFrame2
import Derived.Test.YtmodjglbjempkaaGreatDoorHSb
set_option linter.unusedSimpArgs false
set_option linter.unusedVariables false
namespace Go.Proofs.YtmodjglbjempkaaGreatDoor
open Go.ChangeShapes Go.WideShapes Go.ChangeAt Go.RowKit Go.Deep
section
variable {H : Type} {enc : TypeId × Value → H} {P : Program} {w : World} {base : Nat} {spare : Nat → Bool} {held : Bool}
theorem open_slice_fields {t e : TypeId} {fs : Array Field} {fuel : Nat} {cs : List Value} {x : DataW H × List MemPlace} (ht : P.underlying t = some (.slice e)) (he : P.underlying e = some (.struct fs))
    (hone : oneCellFields P fs = true) (hC : P.cellsOf e = fs.size) (h : DataW.trod enc P w base spare held fuel t cs = some x) :
    cs = [.slice none 0 0] ∨
    ∃ (a : Addr) (len cap m : Nat), cs = [.slice (some a) len cap] ∧ len ≤ cap ∧ cap ≤ maxLen ∧ len ≤ m ∧
      ∀ i, i < m → ∃ n : Nat, ∀ (j : Nat) (f : Field), fs[j]? = some f → ∃ (v : Value) (y : DataW H × List MemPlace), w.cell? (a.add (i * fs.size + j)) = some v ∧ DataW.trod enc P w base spare held n f.type [v] = some y := by
  rcases open_slice ht h with h0 | ⟨a, len, cap, m, n, D, Pl, hcs, hb, hl, hm, hmm, hx, hi⟩
  · exact .inl h0.1
  · refine .inr ⟨a, len, cap, m, hcs, hl, hm, by rw [hmm]; split <;> omega, fun i him => ?_⟩
    obtain ⟨cs', hc, ht'⟩ := hi i him
    rw [hC] at hc
    obtain ⟨ys, n', hn', hy, hlen, hyl, hf⟩ := DataW.trod_struct he ht'
    obtain ⟨_, hcl, hat⟩ := World.cells?_some hc
    refine ⟨n', fun j f hj => ?_⟩
    obtain ⟨ho, hk⟩ := hone_of hone j f hj
    have hjl : j < fs.size := (Array.getElem?_eq_some_iff.1 hj).1
    have hcell := hat j hjl
    have hv : cs'[j]? = some (cs'[j]'(by omega)) := List.getElem?_eq_getElem (by omega)
    have h1 := hf j f hj
    rw [ho, hk] at h1
    have hone' : (cs'.drop j).take 1 = [cs'[j]'(by omega)] := by
      rw [List.drop_eq_getElem_cons (by omega)]
      rfl
    rw [hone'] at h1
    have hys : ys[j]? = some (ys[j]'(by omega)) := List.getElem?_eq_getElem (by omega)
    refine ⟨_, _, ?_, h1.trans hys⟩
    rw [← Go.Deep.add_add, hcell, hv]
end
section
variable {H : Type} {enc : TypeId × Value → H} {w : World} {base : Nat} {spare : Nat → Bool} {held : Bool}
set_option maxRecDepth 100000 in
theorem open_steps {r : Reach} {b0 : Nat} {v : Value} {d : DataW H} {p : List MemPlace} (hv : Value.okWide Tryz.prog w r b0 54 v) (h : DataW.Trod enc Tryz.prog w base spare held 54 v d p) :
    ∃ (la : Option Addr) (L : List (Int × Int)) (cap : Nat), v = .slice la L.length cap ∧ Sym.StepsAt la L w ∧ L.length ≤ 9223372036854775807 := by
  obtain ⟨la, len, cap, rfl⟩ := okWide_slice Tryz.underlying54 hv
  obtain ⟨fuel, hf⟩ := h
  rcases open_slice_fields Tryz.underlying54 Tryz.underlying78 (by kernel_rfl) (by kernel_rfl) hf with hcs | ⟨a, len', cap', m, hcs, hl, hm, hlm, hi⟩
  · simp [Value.cells] at hcs
    obtain ⟨rfl, rfl, rfl⟩ := hcs
    exact ⟨none, [], 0, rfl, fun i s hs => by simp at hs, by simp⟩
  · simp [Value.cells] at hcs
    obtain ⟨rfl, rfl, rfl⟩ := hcs
    have hstep : ∀ i, ∃ s : Int × Int, i < len → w.cell? (a.add (i * 2)) = some (.int .i64 s.1) ∧ w.cell? (a.add (i * 2 + 1)) = some (.int .i64 s.2) := fun i => by
      by_cases h0 : i < len
      · obtain ⟨n, hn⟩ := hi i (by omega)
        obtain ⟨v0, y0, c0, t0⟩ := hn 0 _ rfl
        obtain ⟨v1, y1, c1, t1⟩ := hn 1 _ rfl
        obtain ⟨k0, rfl, -⟩ := field_int (k := .i64) (by kernel_rfl) t0
        obtain ⟨k1, rfl, -⟩ := field_int (k := .i64) (by kernel_rfl) t1
        exact ⟨(k0, k1), fun _ => ⟨c0, c1⟩⟩
      · exact ⟨(0, 0), fun h => absurd h h0⟩
    obtain ⟨f, hf'⟩ := Classical.axiomOfChoice hstep
    refine ⟨some a, (List.range len).map f, cap, by simp, fun i s hs => ?_, by simp; exact Nat.le_trans hl hm⟩
    have hlt : i < len := by
      have := (List.getElem?_eq_some_iff.1 hs).1
      simpa using this
    have hs' : f i = s := by
      rw [List.getElem?_map, List.getElem?_range hlt] at hs
      simpa using hs
    obtain ⟨c0, c1⟩ := hf' i hlt
    rw [hs'] at c0 c1
    have e : ∀ k, (a.add k).block = a.block := fun k => by unfold Addr.add; split <;> rfl
    exact ⟨a, rfl, by have := World.block_lt_of_cell? w (a.add (i * 2)) c0; rwa [e] at this, c0, c1⟩
end
end Go.Proofs.YtmodjglbjempkaaGreatDoor
