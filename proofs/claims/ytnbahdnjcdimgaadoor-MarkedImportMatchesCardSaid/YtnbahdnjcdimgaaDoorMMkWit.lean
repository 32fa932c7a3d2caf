/- Marked-down texts: a world in which the tables read as the rows list them. -/
import Derived.Test.YtnbahdnjcdimgaaDoorCards
import Derived.Test.YtnbahdnjcdimgaaDoorTie
import Derived.ProofKit
import Derived.OpenShut
import Derived.ShutString
import Derived.Deep.DeepHandedRow
import Derived.Lib.LaidTab
import Derived.Lib.LaidU8
import Derived.LaidSub
import Derived.DataShut
import Derived.Shelf.Vars
import Derived.Test.YtnbahdnjcdimgaaDoorMMkW1
set_option linter.unusedSimpArgs false
set_option linter.unusedVariables false
namespace Go.Proofs.YtnbahdnjcdimgaaDoor
open Go.ChangeShapes Go.WideShapes Go.ChangeAt Go.RowKit
theorem own : ownKnob Tryd.prog.godebug = none := by kernel_rfl
theorem laidOut : laidOutB Tryd.prog = true := by kernel_rfl
def cellsD : DataW Unit → Array Value
  | .agg l => (l.flatMap fun | .lit (.int k n) => [Value.int k n] | .agg m => m.map (fun | .lit (.int k n) => Value.int k n | .lit (.string s) => Value.string ⟨s.toArray⟩ | _ => Value.bool false) | _ => []).toArray
  | _ => #[]
def putC (cs : Array Value) : Obj → Obj
  | .cells _ t fr => .cells cs t fr
  | o => o
noncomputable def laidWorld (os : Os) : World :=
  let w0 := World.holding Tryd.prog os ⟨#[], #[], []⟩
  { w0 with heap := ((w0.heap.modify 3 (putC (cellsD Rows.laid_unicode_utf8_acceptRanges))).modify 2 (putC (cellsD Rows.laid_unicode_utf8_first))).modify 0 (putC (cellsD Rows.laid_chancery_marked_toggles)) }
theorem laid_met (os : Os) (args : Array Value) : laidMet Tryd.prog Rows.markedImportMatchesRow.laid ((laidWorld os).forCall (fun _ _ => 0) ⟨#[], args, []⟩).memory :=
  laidMet_of_run' 8 (by kernel_rfl) (by kernel_rfl)
open Go.Lib in
theorem first_eq : firstData = Rows.laid_unicode_utf8_first := by kernel_rfl
open Go.Lib in
theorem accept_eq : acceptData = Rows.laid_unicode_utf8_acceptRanges := by kernel_rfl
/-- the cells of an array of two texts each -/
theorem cells_of_pairs {H : Type} {enc : TypeId × Value → H} {w : World} {base : Nat} {sp : Nat → Bool} {held : Bool} {fuel : Nat} {cs : List Value} {zs : List (List UInt8 × List UInt8)} {p : List MemPlace}
    (h : DataW.trod enc Tryd.prog w base sp held fuel 84 cs = some (.agg (zs.map fun l => .agg [.lit (.string l.1), .lit (.string l.2)]), p)) (k : Nat) (z : List UInt8 × List UInt8) (hk : zs[k]? = some z) : cs[k * 2]? = some (.string (bstr z.1)) ∧ cs[k * 2 + 1]? = some (.string (bstr z.2)) := by
  have c2 : Tryd.prog.cellsOf 83 = 2 := by kernel_rfl
  have c1 : Tryd.prog.cellsOf 9 = 1 := by kernel_rfl
  obtain ⟨xs, m, rfl, hx, -, hn, ha⟩ := DataW.trod_array Tryd.underlying84 h
  have hxs : zs.map (fun l => (DataW.agg [.lit (.string l.1), .lit (.string l.2)] : DataW H)) = xs.map (·.1) := by
    have q := congrArg Prod.fst hx
    simpa using q
  have hzl : zs.length = 4 := by have q := congrArg List.length hxs; simp only [List.length_map] at q; omega
  have hk4 : k < 4 := by have q := (List.getElem?_eq_some_iff.1 hk).1; omega
  obtain ⟨x, hxk⟩ : ∃ x, xs[k]? = some x := ⟨_, List.getElem?_eq_getElem (by omega)⟩
  have hx1 : x.1 = .agg [.lit (.string z.1), .lit (.string z.2)] := by
    have q := congrArg (fun l => l[k]?) hxs
    simp only [List.getElem?_map, hk, hxk, Option.map_some, Option.some.injEq] at q
    exact q.symm
  have h1 := (ha k hk4).trans hxk
  rw [c2] at h1
  obtain ⟨ys, m2, rfl, hy, -, hn2, hb⟩ := DataW.trod_struct Tryd.underlying83 h1
  have hys : [(DataW.lit (.string z.1) : DataW H), .lit (.string z.2)] = ys.map (·.1) := by
    have q := (hx1.symm.trans (congrArg Prod.fst hy))
    simpa using q
  obtain ⟨y0, y1, rfl⟩ : ∃ a b, ys = [a, b] := by
    rcases ys with _ | ⟨a, _ | ⟨b, _ | ⟨c, r⟩⟩⟩
    · simp at hys
    · simp at hys
    · exact ⟨a, b, rfl⟩
    · simp at hys
  simp only [List.map_cons, List.map_nil, List.cons.injEq, and_true] at hys
  have h20 : DataW.trod enc Tryd.prog w base sp held m2 9 ((((cs.drop (k * 2)).take 2).drop 0).take (Tryd.prog.cellsOf 9)) = [y0, y1][0]? := hb 0 _ rfl
  have h21 : DataW.trod enc Tryd.prog w base sp held m2 9 ((((cs.drop (k * 2)).take 2).drop 1).take (Tryd.prog.cellsOf 9)) = [y0, y1][1]? := hb 1 _ rfl
  rw [c1] at h20 h21
  obtain ⟨s0, e0, f0, -⟩ := DataW.trod_string Tryd.underlying9 (h20.trans (show _ = some y0 from rfl))
  obtain ⟨s1, e1, f1, -⟩ := DataW.trod_string Tryd.underlying9 (h21.trans (show _ = some y1 from rfl))
  have g0 := hys.1
  have g1 := hys.2
  rw [f0] at g0
  rw [f1] at g1
  simp only [DataW.lit.injEq, Lit.string.injEq] at g0 g1
  rw [g0, g1]
  have r0 := congrArg (fun l => l[0]?) e0
  have r1 := congrArg (fun l => l[0]?) e1
  simp only [List.drop_zero, List.getElem?_take, List.getElem?_drop, List.getElem?_cons_zero, Nat.add_zero] at r0 r1
  simp at r0 r1
  exact ⟨by rw [r0]; rfl, by rw [r1]; rfl⟩
open Go.Lib in
theorem tog_of {W : World} (h : VarReads Tryd.prog W "chancery/marked.toggles" Rows.laid_chancery_marked_toggles) : ∀ (i : Nat) s, MkP.togs[i]? = some s → W.cell? ⟨0, i, none⟩ = some (.string (bstr s)) := by
  obtain ⟨g', t', cs, fuel, p, hg', ht', hvar, hd⟩ := h
  have hg : Tryd.prog.globalNamed "chancery/marked.toggles" = some 0 := by kernel_rfl
  have hty : (Tryd.prog.globals[0]?).map (·.type) = some 84 := by kernel_rfl
  obtain rfl := Option.some.inj (hg.symm.trans hg')
  obtain rfl := Option.some.inj (hty.symm.trans ht')
  have hcs := cells_of_pairs (zs := [([42, 42], MkP.nBold), ([42], MkP.nItalic), ([126, 126], MkP.nStrike), ([96], MkP.nFixed)]) hd
  intro k s hk
  have := World.var?_cell hg hvar k
  rw [this, ← Array.getElem?_toList]
  have h0 := hcs 0 _ rfl
  have h1 := hcs 1 _ rfl
  have h2 := hcs 2 _ rfl
  have h3 := hcs 3 _ rfl
  rcases k with _ | _ | _ | _ | _ | _ | _ | _ | k
  · cases hk; exact h0.1
  · cases hk; exact h0.2
  · cases hk; exact h1.1
  · cases hk; exact h1.2
  · cases hk; exact h2.1
  · cases hk; exact h2.2
  · cases hk; exact h3.1
  · cases hk; exact h3.2
  · simp [MkP.togs] at hk
open Go.Lib in
theorem xm_of {W : World} (h : laidMetH Tryd.prog Rows.markedImportMatchesRow.laid W) (hs : W.ShapedOpen Tryd.prog) : XM W := by
  have hM : laidMet Tryd.prog Rows.markedImportMatchesRow.laid W := h
  have R : ∀ n d, (n, d) ∈ Rows.markedImportMatchesRow.laid → VarReads Tryd.prog W n d := fun n d hm => Lib.laidMet.reads hM hm
  exact ⟨utf8Tabs_of_reads { Tryd.lays197 with } ⟨by kernel_rfl, by kernel_rfl, by kernel_rfl, by kernel_rfl, by kernel_rfl, by kernel_rfl, by kernel_rfl⟩ (by rw [first_eq]; exact R _ _ (List.mem_of_getElem? (i := 2) rfl)) (by rw [accept_eq]; exact R _ _ (List.mem_of_getElem? (i := 0) rfl)),
    cell_of_shapedOpen_int (t := 3) (zero := #[.int .i64 0]) hs (of_decide_eq_true (by kernel_rfl)) (by kernel_rfl) rfl (by kernel_rfl) (by kernel_rfl) Tryd.underlying3,
    tog_of (R "chancery/marked.toggles" Rows.laid_chancery_marked_toggles (List.mem_of_getElem? (i := 1) rfl))⟩
end Go.Proofs.YtnbahdnjcdimgaaDoor
