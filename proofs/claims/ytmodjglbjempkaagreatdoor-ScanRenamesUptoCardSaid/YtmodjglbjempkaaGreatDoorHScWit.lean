/- A world in which the tables, texts and errors that the rows list read as they list them. -/
import Derived.Test.YtmodjglbjempkaaGreatDoorCards
import Derived.Test.YtmodjglbjempkaaGreatDoorTie
import Derived.ProofKit
import Derived.OpenShut
import Derived.ShutString
import Derived.Deep.DeepHandedRow
import Derived.Lib.LaidTab
import Derived.LaidSub
import Derived.Shelf.Vars
import Derived.Test.YtmodjglbjempkaaGreatDoorHScB
set_option linter.unusedSimpArgs false
set_option linter.unusedVariables false
namespace Go.Proofs.YtmodjglbjempkaaGreatDoor
open Go.ChangeShapes Go.WideShapes Go.ChangeAt Go.RowKit
theorem own : ownKnob Tryz.prog.godebug = none := by kernel_rfl
theorem laidOut : laidOutB Tryz.prog = true := by kernel_rfl
def cellsD : DataW Unit → Array Value
  | .agg l => (l.flatMap fun | .lit (.int k n) => [Value.int k n] | .lit (.string s) => [Value.string ⟨s.toArray⟩] | .agg m => m.map (fun | .lit (.int k n) => Value.int k n | _ => Value.bool false) | _ => []).toArray
  | _ => #[]
def putC (cs : Array Value) : Obj → Obj
  | .cells _ t fr => .cells cs t fr
  | o => o
def rangeTxt : ByteArray := ⟨#[118, 97, 108, 117, 101, 32, 111, 117, 116, 32, 111, 102, 32, 114, 97, 110, 103, 101]⟩
def syntaxTxt : ByteArray := ⟨#[105, 110, 118, 97, 108, 105, 100, 32, 115, 121, 110, 116, 97, 120]⟩
noncomputable def low : Nat := (World.holding Tryz.prog default ⟨#[], #[], []⟩).heap.size
noncomputable def laidWorld (os : Os) : World :=
  let w0 := World.holding Tryz.prog os ⟨#[.cells #[.string rangeTxt] 175, .cells #[.string syntaxTxt] 175], #[], []⟩
  { w0 with heap := (((((w0.heap.modify 0 (putC (cellsD Rows.laid_chancery_chanceryref2_faultTexts))).modify 10 (putC (cellsD Rows.laid_math_bits_deBruijn32tab))).modify 11 (putC (cellsD Rows.laid_math_bits_deBruijn64tab))).modify 9 (putC (cellsD Rows.laid_internal_strconv_uint64pow10))).modify 8 (putC #[.iface 173 (.pointer (some ⟨low, 0, none⟩))])).modify 7 (putC #[.iface 173 (.pointer (some ⟨low + 1, 0, none⟩))]) }
theorem laid_met (os : Os) (args : Array Value) : laidMet Tryz.prog Rows.scanTokensMatchRow.laid ((laidWorld os).forCall (fun _ _ => 0) ⟨#[], args, []⟩).memory :=
  laidMet_of_run' 8 (by kernel_rfl) (by kernel_rfl)
/-- an array of strings that reads as the texts holds the texts -/
theorem cells_of_strs {H : Type} {enc : TypeId × Value → H} {P : Program} {w : World} {base : Nat} {sp : Nat → Bool} {held : Bool} {fuel : Nat} {t e : TypeId} {n : Nat} {cs : List Value} {zs : List (List UInt8)} {p : List MemPlace}
    (ht : P.underlying t = some (.array n e)) (he : P.underlying e = some .string) (hce : P.cellsOf e = 1) (hct : P.cellsOf t = n)
    (h : DataW.trod enc P w base sp held fuel t cs = some (.agg (zs.map fun l => .lit (.string l)), p)) : cs = zs.map fun l => Value.string (bstr l) := by
  cases fuel with
  | zero => simp [DataW.trod] at h
  | succ fuel =>
    simp only [DataW.trod, ht, hce, hct, Nat.mul_one] at h
    split at h
    · rename_i hl
      obtain ⟨xs, hm, hx⟩ := Option.map_eq_some_iff.1 h
      have hxs : xs.map (·.1) = zs.map fun l => (DataW.lit (.string l) : DataW H) := by
        have := congrArg Prod.fst hx
        simpa using this
      have hxl : xs.length = n := by simpa using Lib.mapM_length hm
      have hzl : zs.length = n := by
        have := congrArg List.length hxs
        simp at this
        omega
      apply List.ext_getElem?
      intro i
      by_cases hi : i < n
      · obtain ⟨b, hb, hf⟩ := Lib.mapM_at hm i i (by simp [hi])
        obtain ⟨z, hc, rfl, _⟩ := DataW.trod_string he hf
        have h1 : cs[i]? = some (.string z) := by
          have := congrArg (·[0]?) hc
          simpa [List.getElem?_take, List.getElem?_drop] using this
        have h2 : (xs.map (·.1))[i]? = some (DataW.lit (.string z.data.toList) : DataW H) := by simp [hb]
        rw [hxs] at h2
        simp only [List.getElem?_map, Option.map_eq_some_iff, DataW.lit.injEq, Lit.string.injEq] at h2
        obtain ⟨z', hz', rfl⟩ := h2
        simp [h1, hz', bstr]
      · rw [List.getElem?_eq_none (by omega), List.getElem?_eq_none (by simp; omega)]
    · cases h
theorem ft_of {W : World} {l : List (String × DataW Unit)} (h : laidMetH Tryz.prog l W) (e : (l.filter fun x => x.1 == "chancery/chanceryref2.faultTexts") = [("chancery/chanceryref2.faultTexts", .agg (ScP.ftexts.map fun l => .lit (.string l)))]) : FT W := by
  have h1 := h.filter (fun x => x.1 == "chancery/chanceryref2.faultTexts")
  rw [e] at h1
  have h1 : laidMet Tryz.prog [("chancery/chanceryref2.faultTexts", .agg (ScP.ftexts.map fun l => .lit (.string l)))] W := h1
  obtain ⟨ps, ⟨g', t', cs, fuel, p, q, hg', ht', hvar, hd, _, _⟩, _⟩ := h1
  have hg : Tryz.prog.globalNamed "chancery/chanceryref2.faultTexts" = some 0 := by kernel_rfl
  have hty : (Tryz.prog.globals[0]?).map (·.type) = some 96 := by kernel_rfl
  obtain rfl := Option.some.inj (hg.symm.trans hg')
  obtain rfl := Option.some.inj (hty.symm.trans ht')
  have hcs := cells_of_strs Tryz.underlying96 Tryz.underlying9 (by kernel_rfl) (by kernel_rfl) hd
  intro k hk
  have := World.var?_cell hg hvar k
  rw [this, ← Array.getElem?_toList, hcs]
  have key : ∀ k : Fin 9, ScP.ftexts[k.val]? = some (ScP.ftexts.getD k.val []) := by decide
  rw [List.getElem?_map, key ⟨k, hk⟩]; rfl
end Go.Proofs.YtmodjglbjempkaaGreatDoor
