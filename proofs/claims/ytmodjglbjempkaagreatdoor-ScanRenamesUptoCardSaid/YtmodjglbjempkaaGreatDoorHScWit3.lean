/- A world in which the tables, texts and errors that the row of the law on names lists read as it lists them. -/
import Derived.Test.YtmodjglbjempkaaGreatDoorHScWit2
import Derived.Deep.DeepWitnessRowRef
import Derived.Lib.LaidCaseMet
import Derived.PinnedBridge
set_option linter.unusedSimpArgs false
set_option linter.unusedVariables false
namespace Go.Proofs
def Tryz.lays274_ren : Go.Shelf.Ren := ⟨fun | 274 => 139 | n => n, fun | 0 => 0 | 3 => 3 | 4 => 4 | 21 => 21 | 46 => 137 | 51 => 151 | 160 => 140 | 162 => 142 | 208 => 155 | 206 => 153 | n => n, fun | 13 => 3 | n => n⟩
theorem Tryz.lays274 : Go.Proofs.Lays.n274 Tryz.prog Tryz.lays274_ren := {
  mixed := by kernel_rfl
  f274 := Tryz.func139.trans (congrArg some (by kernel_rfl))
  t0 := Tryz.underlying0
  a0 := Tryz.isAgg0
  z0 := Tryz.sizeOf0
  v0 := Tryz.zeroValue0
  t3 := Tryz.underlying3
  a3 := Tryz.isAgg3
  z3 := Tryz.sizeOf3
  v3 := Tryz.zeroValue3
  t4 := Tryz.underlying4
  a4 := Tryz.isAgg4
  z4 := Tryz.sizeOf4
  v4 := Tryz.zeroValue4
  t21 := Tryz.underlying21
  a21 := Tryz.isAgg21
  z21 := Tryz.sizeOf21
  v21 := Tryz.zeroValue21
  t46 := Tryz.underlying137
  a46 := Tryz.isAgg137
  z46 := Tryz.sizeOf137
  v46 := Tryz.zeroValue137
  t51 := Tryz.underlying151
  a51 := Tryz.isAgg151
  z51 := Tryz.sizeOf151
  v51 := Tryz.zeroValue151
  t160 := Tryz.underlying140
  a160 := Tryz.isAgg140
  z160 := Tryz.sizeOf140
  v160 := Tryz.zeroValue140
  t162 := Tryz.underlying142
  a162 := Tryz.isAgg142
  z162 := Tryz.sizeOf142
  v162 := Tryz.zeroValue142
  t208 := Tryz.underlying155
  a208 := Tryz.isAgg155
  z208 := Tryz.sizeOf155
  v208 := Tryz.zeroValue155 }
end Go.Proofs
namespace Go.Proofs.YtmodjglbjempkaaGreatDoor
open Go.ChangeShapes Go.WideShapes Go.ChangeAt Go.RowKit
def flatD : Nat → DataW Unit → List Value
  | 0, _ => []
  | f + 1, .agg l => l.flatMap (flatD f)
  | _ + 1, .lit (.int k n) => [Value.int k n]
  | _ + 1, _ => []
def elemsD : DataW Unit → List (DataW Unit)
  | .slice l _ => l
  | _ => []
noncomputable def laidWorld3 (os : Os) : World :=
  let w0 := World.holding Tryz.prog os ⟨#[.cells #[.string rangeTxt] 175, .cells #[.string syntaxTxt] 175, .cells ((elemsD Rows.laid_unicode_caseOrbit).flatMap (flatD 5)).toArray 139, .cells Lib.caseCells5 155], #[], []⟩
  { w0 with heap := ((((((((((w0.heap.modify 0 (putC (cellsD Rows.laid_chancery_chanceryref2_faultTexts))).modify 10 (putC (cellsD Rows.laid_math_bits_deBruijn32tab))).modify 11 (putC (cellsD Rows.laid_math_bits_deBruijn64tab))).modify 9 (putC (cellsD Rows.laid_internal_strconv_uint64pow10))).modify 8 (putC #[.iface 173 (.pointer (some ⟨low, 0, none⟩))])).modify 7 (putC #[.iface 173 (.pointer (some ⟨low + 1, 0, none⟩))])).modify 6 (putC (cellsD Rows.laid_unicode_utf8_acceptRanges))).modify 5 (putC (cellsD Rows.laid_unicode_utf8_first))).modify 1 (putC (cellsD Rows.laid_unicode_asciiFold))).modify 2 (putC #[.slice (some ⟨low + 2, 0, none⟩) (elemsD Rows.laid_unicode_caseOrbit).length (elemsD Rows.laid_unicode_caseOrbit).length])).modify 3 (putC #[.slice (some ⟨low + 3, 0, none⟩) 336 336]) }
theorem laidVars_swap {P : Program} {w : World} {x y : String × DataW Unit} {r : List (String × DataW Unit)} : ∀ (A : List (String × DataW Unit)) (ps : List MemPlace), DataW.LaidVars P w (A ++ x :: y :: r) ps → ∃ ps', DataW.LaidVars P w (A ++ y :: x :: r) ps' ∧ ps'.Perm ps
  | [], ps, h => by
    obtain ⟨n, d⟩ := x
    obtain ⟨m, e⟩ := y
    obtain ⟨g, t, cs, f, p, q, h1, h2, h3, h4, ⟨g', t', cs', f', p', q', k1, k2, k3, k4, k5, rfl⟩, rfl⟩ := h
    refine ⟨_, ⟨g', t', cs', f', p', _, k1, k2, k3, k4, ⟨g, t, cs, f, p, q', h1, h2, h3, h4, k5, rfl⟩, rfl⟩, ?_⟩
    have : ∀ (a b c : List MemPlace), (a ++ (b ++ c)).Perm (b ++ (a ++ c)) := fun a b c => by rw [← List.append_assoc, ← List.append_assoc]; exact (List.perm_append_comm).append_right c
    exact this _ _ _
  | (n, d) :: A, ps, h => by
    obtain ⟨g, t, cs, f, p, q, h1, h2, h3, h4, h5, rfl⟩ := h
    obtain ⟨q', k1, k2⟩ := laidVars_swap A q h5
    exact ⟨_, ⟨g, t, cs, f, p, q', h1, h2, h3, h4, k1, rfl⟩, k2.append_left _⟩
theorem laidMet_swap {P : Program} {w : World} {x y : String × DataW Unit} {r : List (String × DataW Unit)} (A : List (String × DataW Unit)) (h : laidMet P (A ++ x :: y :: r) w) : laidMet P (A ++ y :: x :: r) w := by
  obtain ⟨ps, h1, h2, h3⟩ := h
  obtain ⟨ps', k1, k2⟩ := laidVars_swap A ps h1
  exact ⟨ps', k1, k2.nodup_iff.2 h2, fun b off hp => h3 b off (k2.mem_iff.1 hp)⟩
def laidA : List (String × DataW Unit) := [("chancery/chanceryref2.faultTexts", Rows.laid_chancery_chanceryref2_faultTexts), ("math/bits.deBruijn32tab", Rows.laid_math_bits_deBruijn32tab), ("math/bits.deBruijn64tab", Rows.laid_math_bits_deBruijn64tab), ("internal/strconv.uint64pow10", Rows.laid_internal_strconv_uint64pow10), ("unicode/utf8.acceptRanges", Rows.laid_unicode_utf8_acceptRanges), ("strconv.ErrRange", Rows.laid_strconv_ErrRange), ("strconv.ErrSyntax", Rows.laid_strconv_ErrSyntax), ("unicode.asciiFold", Rows.laid_unicode_asciiFold), ("unicode.caseOrbit", Rows.laid_unicode_caseOrbit)]
theorem laid_met3 (os : Os) (args : Array Value) : laidMet Tryz.prog Rows.scanRenamesUptoRow.laid ((laidWorld3 os).forCall (fun _ _ => 0) ⟨#[], args, []⟩).memory := by
  have e : Rows.scanRenamesUptoRow.laid = laidA ++ ("unicode.CaseRanges", Lib.caseData) :: ("unicode/utf8.first", Rows.laid_unicode_utf8_first) :: [] := by rw [← Pinned.caseRanges_eq]; rfl
  rw [e]
  refine laidMet_swap laidA ?_
  exact laidMet_with_case (ρ := Tryz.lays274_ren) { Tryz.lays274 with } Tryz.underlying153 ⟨by kernel_rfl, by kernel_rfl, by kernel_rfl, by kernel_rfl, by kernel_rfl, by kernel_rfl⟩
    (l := laidA ++ [("unicode/utf8.first", Rows.laid_unicode_utf8_first)])
    8 (by kernel_rfl) (by kernel_rfl) (by kernel_rfl) (low + 3) 155 (of_decide_eq_true (by kernel_rfl)) (by kernel_rfl) (by kernel_rfl) (by kernel_rfl)
end Go.Proofs.YtmodjglbjempkaaGreatDoor
