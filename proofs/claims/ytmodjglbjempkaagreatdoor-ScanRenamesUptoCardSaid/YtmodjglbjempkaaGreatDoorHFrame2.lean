/- Arguments that are structs: opened to their fields. -/
import Derived.Test.YtmodjglbjempkaaGreatDoorHFrame
import Derived.Test.YtmodjglbjempkaaGreatDoorHPa
import Derived.Test.YtmodjglbjempkaaGreatDoorHRfW12
import Derived.Deep.Slices
import Derived.Deep.Fields
import Derived.ChangeSame
set_option linter.unusedSimpArgs false
set_option linter.unusedVariables false
namespace Go.Proofs.YtmodjglbjempkaaGreatDoor
open Go.ChangeShapes Go.WideShapes Go.ChangeAt Go.RowKit Go.Deep
section
variable {H : Type} {enc : TypeId × Value → H} {P : Program} {w : World} {base : Nat} {spare : Nat → Bool} {held : Bool}
theorem open_struct {r : Reach} {b0 : Nat} {t : TypeId} {fs : Array Field} {v : Value} {d : DataW H} {p : List MemPlace} (hs : P.underlying t = some (.struct fs)) (hone : oneCellFields P fs = true) (hC : P.cellsOf t = fs.size)
    (hv : Value.okWide P w r b0 t v) (h : DataW.Trod enc P w base spare held t v d p) :
    ∃ (cs : List Value) (n : Nat), v = .agg cs.toArray ∧ cs.length = fs.size ∧ ∀ (j : Nat) (f : Field), fs[j]? = some f → ∃ u y, cs[j]? = some u ∧ DataW.trod enc P w base spare held n f.type [u] = some y := by
  obtain ⟨cs, rfl, hsz⟩ := okWide_struct hs hv
  obtain ⟨l⟩ := cs
  obtain ⟨fuel, hf⟩ := h
  obtain ⟨xs, n, _, hx, _, hlen, hg⟩ := DataW.trod_struct hs hf
  have hl : l.length = fs.size := by simpa using hsz.trans hC
  refine ⟨l, n, rfl, hl, fun j f hj => ?_⟩
  obtain ⟨o, k⟩ := hone_of hone j f hj
  have hjl : j < fs.size := (Array.getElem?_eq_some_iff.1 hj).1
  have h1 := hg j f hj
  rw [o, k] at h1
  have h2 : ((Value.agg ⟨l⟩).cells.toList.drop j).take 1 = [l[j]'(by omega)] := by
    show (l.drop j).take 1 = _
    rw [List.drop_eq_getElem_cons (by omega)]; rfl
  rw [h2] at h1
  exact ⟨l[j]'(by omega), xs[j]'(by omega), List.getElem?_eq_getElem (by omega), h1.trans (List.getElem?_eq_getElem (by omega))⟩
theorem field_int {n : Nat} {t : TypeId} {k : IntKind} {u : Value} {y} (ht : P.underlying t = some (.int k)) (h : DataW.trod enc P w base spare held n t [u] = some y) : ∃ m, u = .int k m ∧ (Lit.int k m).wf = true := by
  obtain ⟨m, e, -, hw⟩ := DataW.trod_int ht h
  exact ⟨m, by simpa using e, hw⟩
theorem field_bool {n : Nat} {t : TypeId} {u : Value} {y} (ht : P.underlying t = some .bool) (h : DataW.trod enc P w base spare held n t [u] = some y) : ∃ b, u = .bool b := by
  obtain ⟨m, e, -⟩ := DataW.trod_bool ht h
  exact ⟨m, by simpa using e⟩
theorem field_str {n : Nat} {t : TypeId} {u : Value} {y} (ht : P.underlying t = some .string) (h : DataW.trod enc P w base spare held n t [u] = some y) : ∃ l : List UInt8, u = .string (bstr l) ∧ l.length ≤ 9223372036854775807 := by
  obtain ⟨s, e, -, hs⟩ := DataW.trod_string ht h
  obtain ⟨l, rfl⟩ := bstr_of s
  exact ⟨l, by simpa using e, by rw [bstr_size] at hs; exact hs⟩
end
section
variable {H : Type} {enc : TypeId × Value → H} {w : World} {base : Nat} {spare : Nat → Bool} {held : Bool}
set_option maxRecDepth 100000 in
theorem open_ref {r : Reach} {b0 : Nat} {v : Value} {d : DataW H} {p : List MemPlace} (hv : Value.okWide Tryz.prog w r b0 35 v) (h : DataW.Trod enc Tryz.prog w base spare held 35 v d p) : ∃ x : RfP.Ref, v = .agg (refC x) ∧ x.sh.length ≤ 9223372036854775807 := by
  obtain ⟨cs, n, rfl, hl, hf⟩ := open_struct Tryz.underlying35 (by kernel_rfl) (by kernel_rfl) hv h
  match cs, hl with
  | [c0, c1, c2, c3, c4, c5, c6, c7, c8, c9], _ =>
    obtain ⟨_, _, e0, h0⟩ := hf 0 _ rfl
    obtain ⟨_, _, e1, h1⟩ := hf 1 _ rfl
    obtain ⟨_, _, e2, h2⟩ := hf 2 _ rfl
    obtain ⟨_, _, e3, h3⟩ := hf 3 _ rfl
    obtain ⟨_, _, e4, h4⟩ := hf 4 _ rfl
    obtain ⟨_, _, e5, h5⟩ := hf 5 _ rfl
    obtain ⟨_, _, e6, h6⟩ := hf 6 _ rfl
    obtain ⟨_, _, e7, h7⟩ := hf 7 _ rfl
    obtain ⟨_, _, e8, h8⟩ := hf 8 _ rfl
    obtain ⟨_, _, e9, h9⟩ := hf 9 _ rfl
    cases e0; cases e1; cases e2; cases e3; cases e4; cases e5; cases e6; cases e7; cases e8; cases e9
    obtain ⟨sh, rfl, hs⟩ := field_str (by kernel_rfl) h0
    obtain ⟨k, rfl, -⟩ := field_int (k := .i64) (by kernel_rfl) h1
    obtain ⟨a, rfl, -⟩ := field_int (k := .i64) (by kernel_rfl) h2
    obtain ⟨b, rfl, -⟩ := field_int (k := .i64) (by kernel_rfl) h3
    obtain ⟨c, rfl, -⟩ := field_int (k := .i64) (by kernel_rfl) h4
    obtain ⟨d, rfl, -⟩ := field_int (k := .i64) (by kernel_rfl) h5
    obtain ⟨e, rfl⟩ := field_bool (by kernel_rfl) h6
    obtain ⟨f, rfl⟩ := field_bool (by kernel_rfl) h7
    obtain ⟨g, rfl⟩ := field_bool (by kernel_rfl) h8
    obtain ⟨i, rfl⟩ := field_bool (by kernel_rfl) h9
    exact ⟨⟨sh, k, a, b, c, d, e, f, g, i⟩, rfl, hs⟩
set_option maxRecDepth 100000 in
theorem open_rect {r : Reach} {b0 : Nat} {v : Value} {d : DataW H} {p : List MemPlace} (hv : Value.okWide Tryz.prog w r b0 42 v) (h : DataW.Trod enc Tryz.prog w base spare held 42 v d p) : ∃ x : RfP.Rect, v = .agg #[.int .i64 x.r, .int .i64 x.c, .int .i64 x.h, .int .i64 x.w] := by
  obtain ⟨cs, n, rfl, hl, hf⟩ := open_struct Tryz.underlying42 (by kernel_rfl) (by kernel_rfl) hv h
  match cs, hl with
  | [c0, c1, c2, c3], _ =>
    obtain ⟨_, _, e0, h0⟩ := hf 0 _ rfl
    obtain ⟨_, _, e1, h1⟩ := hf 1 _ rfl
    obtain ⟨_, _, e2, h2⟩ := hf 2 _ rfl
    obtain ⟨_, _, e3, h3⟩ := hf 3 _ rfl
    cases e0; cases e1; cases e2; cases e3
    obtain ⟨a, rfl, -⟩ := field_int (k := .i64) (by kernel_rfl) h0
    obtain ⟨b, rfl, -⟩ := field_int (k := .i64) (by kernel_rfl) h1
    obtain ⟨c, rfl, -⟩ := field_int (k := .i64) (by kernel_rfl) h2
    obtain ⟨d, rfl, -⟩ := field_int (k := .i64) (by kernel_rfl) h3
    exact ⟨⟨a, b, c, d⟩, rfl⟩
end
end Go.Proofs.YtmodjglbjempkaaGreatDoor
