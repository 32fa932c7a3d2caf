/- Arguments that are values: opened to a tree. -/
import Derived.Test.YtdkhkfdenlabaaaGreatDoorJGX
import Derived.Test.YtdkhkfdenlabaaaGreatDoorJGS
set_option linter.unusedSimpArgs false
set_option linter.unusedVariables false
namespace Go.Proofs.YtdkhkfdenlabaaaGreatDoor
open Go.ChangeShapes Go.WideShapes Go.ChangeAt Go.RowKit Go.Deep
section
variable {H : Type} {enc : TypeId × Value → H} {w : World} {base : Nat} {spare : Nat → Bool} {held : Bool}
theorem cells_each {a : Addr} {n : Nat} {cs : List Value} (h : w.cells? base a n = some cs) : cs.length = n ∧ ∀ (j : Nat) (v : Value), cs[j]? = some v → w.cell? (a.add j) = some v := by
  unfold World.cells? at h
  split at h
  · have hl := Lib.mapM_length h
    simp only [List.length_range] at hl
    refine ⟨hl, fun j v hv => ?_⟩
    have hj : j < n := by
      have := (List.getElem?_eq_some_iff.1 hv).1
      omega
    obtain ⟨b, hb, hf⟩ := Lib.mapM_at h j j (by simp [hj])
    rw [hb] at hv
    cases hv
    exact hf
  · cases h
theorem exists_pick {α : Type} {n : Nat} {P : Nat → α → Prop} [Inhabited α] (h : ∀ i, i < n → ∃ x, P i x) : ∃ f : Nat → α, ∀ i, i < n → P i (f i) :=
  ⟨fun i => if hi : i < n then Classical.choose (h i hi) else default, fun i hi => by
    simp only [dif_pos hi]
    exact Classical.choose_spec (h i hi)⟩
set_option maxRecDepth 100000 in
theorem value_cells : ∀ (fuel : Nat) (cs : List Value) (x : DataW H × List MemPlace), DataW.trod enc Tryz.prog w base spare held fuel 28 cs = some x → ∃ (t : VaP.VT) (a : Option Addr) (cap : Nat), cs = itCells t (a, cap) ∧ VIn w t a cap := by
  intro fuel
  induction fuel using Nat.strongRecOn with
  | _ fuel ih =>
  intro cs x h
  obtain ⟨xs, n, rfl, -, hl, hlen, hg⟩ := DataW.trod_struct Tryz.underlying28 h
  have hc9 : Tryz.prog.cellsOf 28 = 9 := by kernel_rfl
  rw [hc9] at hl
  have hx8 : xs.length = 8 := hlen
  match cs, hl, xs, hx8 with
  | [c0, c1, c2, c3, c4, c5, c6, c7, c8], _, [x0, x1, x2, x3, x4, x5, x6, x7], _ =>
    have g0 : DataW.trod enc Tryz.prog w base spare held n 3 [c0] = some x0 := hg 0 _ rfl
    have g1 : DataW.trod enc Tryz.prog w base spare held n 25 [c1, c2] = some x1 := hg 1 _ rfl
    have g2 : DataW.trod enc Tryz.prog w base spare held n 9 [c3] = some x2 := hg 2 _ rfl
    have g3 : DataW.trod enc Tryz.prog w base spare held n 4 [c4] = some x3 := hg 3 _ rfl
    have g4 : DataW.trod enc Tryz.prog w base spare held n 3 [c5] = some x4 := hg 4 _ rfl
    have g5 : DataW.trod enc Tryz.prog w base spare held n 3 [c6] = some x5 := hg 5 _ rfl
    have g6 : DataW.trod enc Tryz.prog w base spare held n 3 [c7] = some x6 := hg 6 _ rfl
    have g7 : DataW.trod enc Tryz.prog w base spare held n 26 [c8] = some x7 := hg 7 _ rfl
    obtain ⟨k, rfl, -⟩ := field_int Tryz.underlying3 g0
    obtain ⟨tx, rfl, htx⟩ := field_str Tryz.underlying9 g2
    obtain ⟨on, rfl⟩ := field_bool Tryz.underlying4 g3
    obtain ⟨cd, rfl, -⟩ := field_int Tryz.underlying3 g4
    obtain ⟨R, rfl, -⟩ := field_int Tryz.underlying3 g5
    obtain ⟨L, rfl, -⟩ := field_int Tryz.underlying3 g6
    obtain ⟨ys, m, rfl, -, -, hylen, hy⟩ := DataW.trod_struct Tryz.underlying25 g1
    have hy2 : ys.length = 2 := hylen
    match ys, hy2 with
    | [y0, y1], _ =>
      have f0 : DataW.trod enc Tryz.prog w base spare held m 9 [c1] = some y0 := hy 0 _ rfl
      have f1 : DataW.trod enc Tryz.prog w base spare held m 9 [c2] = some y1 := hy 1 _ rfl
      obtain ⟨n1, rfl, hn1⟩ := field_str Tryz.underlying9 f0
      obtain ⟨n2, rfl, hn2⟩ := field_str Tryz.underlying9 f1
      rcases DataW.trod_slice Tryz.underlying26 g7 with ⟨e, -⟩ | ⟨ad, len, cap, elems, rest, q, hq, e, -, -, hcap, hmax, hel, hat, -, -⟩
      · cases e
        refine ⟨⟨k, (n1, n2), tx, on, cd, R, L, []⟩, none, 0, rfl, .mk _ _ _ (fun _ => (none, 0)) ⟨hn1, hn2, htx, by simp⟩ (Nat.le_refl _) (fun _ => rfl) (fun i x hx => by simp at hx) (fun i x hx => by simp at hx)⟩
      · cases e
        have key : ∀ i, i < len → ∃ y : VaP.VT × (Option Addr × Nat), ad.block < w.heap.size ∧ (∀ j v, (itCells y.1 y.2)[j]? = some v → w.cell? (ad.add (i * 9 + j)) = some v) ∧ VIn w y.1 y.2.1 y.2.2 := by
          intro i hi
          have h1 := hat i hi
          rw [List.getElem?_eq_getElem (by omega)] at h1
          obtain ⟨cs', hcs, htr⟩ := Option.bind_eq_some_iff.1 h1
          obtain ⟨t, a, c, e, hv⟩ := ih q (by omega) cs' _ htr
          subst e
          rw [hc9] at hcs
          have hb := (cells_each hcs).2
          refine ⟨(t, (a, c)), ?_, fun j v hj => ?_, hv⟩
          · have := World.cells?_block hcs (by omega)
            have e : (ad.add (i * 9)).block = ad.block := by
              unfold Addr.add
              split <;> rfl
            rwa [e] at this
          · have := hb j v hj
            rwa [Go.Deep.add_add] at this
        have : Inhabited (VaP.VT × (Option Addr × Nat)) := ⟨(⟨0, ([], []), [], false, 0, 0, 0, []⟩, (none, 0))⟩
        obtain ⟨f, hf⟩ := exists_pick key
        have hget : ∀ i x, ((List.range len).map fun i => (f i).1)[i]? = some x → i < len ∧ x = (f i).1 := by
          intro i x hx
          rw [List.getElem?_map] at hx
          obtain ⟨j, hj, rfl⟩ := Option.map_eq_some_iff.1 hx
          obtain ⟨hlt, he⟩ := List.getElem?_eq_some_iff.1 hj
          simp only [List.length_range] at hlt
          simp only [List.getElem_range] at he
          subst he
          exact ⟨hlt, rfl⟩
        refine ⟨⟨k, (n1, n2), tx, on, cd, R, L, (List.range len).map fun i => (f i).1⟩, some ad, cap, by simp [itCells], .mk _ _ _ (fun i => (f i).2) ⟨hn1, hn2, htx, by unfold maxLen at hmax; simp; omega⟩ (by simpa using hcap) (fun h => by cases h) (fun i x hx => ?_) (fun i x hx => ?_)⟩
        · obtain ⟨hi, rfl⟩ := hget i x hx
          exact (hf i hi).2.2
        · obtain ⟨hi, rfl⟩ := hget i x hx
          exact ⟨ad, rfl, (hf i hi).1, (hf i hi).2.1⟩
set_option maxRecDepth 100000 in
theorem open_value {v : Value} {r : Reach} {b0 : Nat} {d : DataW H} {p : List MemPlace} (hv : Value.okWide Tryz.prog w r b0 28 v) (h : DataW.Trod enc Tryz.prog w base spare held 28 v d p) : ∃ (t : VaP.VT) (a : Option Addr) (cap : Nat), v = vtV t a cap ∧ VIn w t a cap := by
  obtain ⟨cs, rfl, -⟩ := okWide_struct Tryz.underlying28 hv
  obtain ⟨fuel, hf⟩ := h
  obtain ⟨t, a, cap, e, hi⟩ := value_cells fuel _ _ hf
  refine ⟨t, a, cap, ?_, hi⟩
  obtain ⟨l⟩ := cs
  have e' : l = itCells t (a, cap) := e
  rw [e']; rfl
end
end Go.Proofs.YtdkhkfdenlabaaaGreatDoor
