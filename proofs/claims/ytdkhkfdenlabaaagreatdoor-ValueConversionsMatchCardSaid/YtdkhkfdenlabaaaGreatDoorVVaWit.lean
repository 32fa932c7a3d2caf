/- A world in which the tables, texts and e -/
import Derived.Test.YtdkhkfdenlabaaaGreatDoorCards
import Derived.Test.YtdkhkfdenlabaaaGreatDoorTie
import Derived.ProofKit
import Derived.OpenShut
import Derived.ShutString
import Derived.Deep.DeepHandedRow
import Derived.Lib.LaidTab
import Derived.Lib.LaidU8
import Derived.LaidSub
import Derived.Shelf.Vars
import Derived.Test.YtdkhkfdenlabaaaGreatDoorVGI
set_option linter.unusedSimpArgs false
set_option linter.unusedVariables false
set_option maxRecDepth 100000
set_option maxHeartbeats 64000000
namespace Go.Proofs.YtdkhkfdenlabaaaGreatDoor
open Go.Proofs.Tryz
open Go.ChangeShapes Go.WideShapes Go.ChangeAt Go.RowKit
theorem own : ownKnob Tryz.prog.godebug = none := by kernel_rfl
theorem laidOut : laidOutB Tryz.prog = true := by kernel_rfl
def cellsD : DataW Unit -> Array Value
 | .agg l => (l.flatMap fun | .lit (.int k n) => [Value.int k n] | .lit (.string s) => [Value.string ⟨s.toArray⟩] | .agg m => m.map (fun | .lit (.int k n) => Value.int k n | _ => Value.bool false) | _ => []).toArray
 | _ => #[]
def Gf (cs : Array Value) : Obj -> Obj
 | .cells _ t fr => .cells cs t fr
 | o => o
def SK : ByteArray := ⟨#[118, 97, 108, 117, 101, 32, 111, 117, 116, 32, 111, 102, 32, 114, 97, 110, 103, 101]⟩
def PX : ByteArray := ⟨#[105, 110, 118, 97, 108, 105, 100, 32, 115, 121, 110, 116, 97, 120]⟩
noncomputable def low : Nat := (World.holding Tryz.prog default ⟨#[], #[], []⟩).heap.size
noncomputable def laidWorld (os : Os) : World :=
 let w0 := World.holding Tryz.prog os ⟨#[.cells #[.string SK] 244, .cells #[.string PX] 244], #[], []⟩
 { w0 with heap := ((((((((w0.heap.modify 8 (Gf (cellsD Rows.laid_math_bits_deBruijn32tab))).modify 9 (Gf (cellsD Rows.laid_math_bits_deBruijn64tab))).modify 7 (Gf (cellsD Rows.laid_internal_strconv_uint64pow10))).modify 6 (Gf #[.iface 242 (.pointer (some ⟨low, 0, none⟩))])).modify 5 (Gf #[.iface 242 (.pointer (some ⟨low + 1, 0, none⟩))])).modify 3 (Gf (cellsD Rows.laid_unicode_utf8_acceptRanges))).modify 2 (Gf (cellsD Rows.laid_unicode_utf8_first))).modify 0 (Gf (cellsD Rows.laid_chancery_value_faults))).modify 1 (Gf (cellsD Rows.laid_chancery_chanceryref2_faultTexts)) }
theorem OI (os : Os) (args : Array Value) : laidMet Tryz.prog Rows.valueCheckMatchesRow.laid ((laidWorld os).forCall (fun _ _ => 0) ⟨#[], args, []⟩).memory :=
 laidMet_of_run' 8 (by kernel_rfl) (by kernel_rfl)
theorem uC {H : Type} {enc : TypeId × Value -> H} {P : Program} {w : World} {base : Nat} {sp : Nat -> Bool} {held : Bool} {fuel : Nat} {t e : TypeId} {n : Nat} {cs : List Value} {zs : List (List UInt8)} {p : List MemPlace}
  (ht : P.underlying t = some (.array n e)) (he : P.underlying e = some .string) (hce : P.cellsOf e = 1) (hct : P.cellsOf t = n)
  (h : DataW.trod enc P w base sp held fuel t cs = some (.agg (zs.map fun l => .lit (.string l)), p)) : cs = zs.map fun l => Value.string (ah l) := by
 cases fuel with
 | zero => simp [DataW.trod] at h
 | succ fuel =>
   simp only [DataW.trod, ht, hce, hct, Nat.mul_one] at h
   split at h
   ·rename_i hl
    obtain ⟨xs, hm, hx⟩ := Option.map_eq_some_iff.1 h
    have hxs : xs.map (·.1) = zs.map fun l => (DataW.lit (.string l) : DataW H) := by
     have := congrArg Prod.fst hx
     simpa using this
    have hxl : xs.length = n := by simpa using Lib.mapM_length hm
    have hzl : zs.length = n := by
     have := congrArg List.length hxs
     simp at this
     omega
    apply List.ext_getElem?
    intro i
    by_cases hi : i < n
    ·obtain ⟨b, hb, hf⟩ := Lib.mapM_at hm i i (by simp [hi])
     obtain ⟨z, hc, rfl, _⟩ := DataW.trod_string he hf
     have h1 : cs[i]? = some (.string z) := by
      have := congrArg (·[0]?) hc
      simpa [List.getElem?_take, List.getElem?_drop] using this
     have h2 : (xs.map (·.1))[i]? = some (DataW.lit (.string z.data.toList) : DataW H) := by simp [hb]
     rw [hxs] at h2
     simp only [List.getElem?_map, Option.map_eq_some_iff, DataW.lit.injEq, Lit.string.injEq] at h2
     obtain ⟨z', hz', rfl⟩ := h2
     simp [h1, hz', ah]
    ·rw [List.getElem?_eq_none (by omega), List.getElem?_eq_none (by simp; omega)]
   ·cases h
def KT : List (List UInt8) := [af.bD 0, af.bD 1, af.bD 2, af.bD 3, af.bD 4, af.bD 5, af.bD 6, af.bD 7, af.bD 8]
theorem Bv (k : Nat) (h : k < 9) : KT[k]? = some (af.bD k) := by
 rcases k with _ | _ | _ | _ | _ | _ | _ | _ | _ | k
 all_goals first | (exfalso; omega) | rfl
open Go.Lib in
theorem Xa {W : World} (h : VarReads Tryz.prog W "chancery/value.faults" (.agg (KT.map fun l => .lit (.string l)))) : ∀ i, i < 9 -> W.cell? ⟨0, i, none⟩ = some (.string (ah (af.bD i))) := by
 obtain ⟨g', t', cs, fuel, p, hg', ht', hvar, hd⟩ := h
 have hg : Tryz.prog.globalNamed "chancery/value.faults" = some 0 := by kernel_rfl
 have hty : (Tryz.prog.globals[0]?).map (·.type) = some 81 := by kernel_rfl
 obtain rfl := Option.some.inj (hg.symm.trans hg')
 obtain rfl := Option.some.inj (hty.symm.trans ht')
 have hcs := uC underlying81 underlying9 (by kernel_rfl) (by kernel_rfl) hd
 intro k hk
 have := World.var?_cell hg hvar k
 rw [this, <- Array.getElem?_toList, hcs, List.getElem?_map, Bv k hk]; rfl
open Go.Lib in
theorem W9 {W : World} (h : VarReads Tryz.prog W "chancery/chanceryref2.faultTexts" (.agg (KT.map fun l => .lit (.string l)))) : XR W := by
 obtain ⟨g', t', cs, fuel, p, hg', ht', hvar, hd⟩ := h
 have hg : Tryz.prog.globalNamed "chancery/chanceryref2.faultTexts" = some 1 := by kernel_rfl
 have hty : (Tryz.prog.globals[1]?).map (·.type) = some 81 := by kernel_rfl
 obtain rfl := Option.some.inj (hg.symm.trans hg')
 obtain rfl := Option.some.inj (hty.symm.trans ht')
 have hcs := uC underlying81 underlying9 (by kernel_rfl) (by kernel_rfl) hd
 intro k hk
 have := World.var?_cell hg hvar k
 rw [this, <- Array.getElem?_toList, hcs, List.getElem?_map, Bv k hk]; rfl
open Go.Lib in
theorem II {W : World} {n : String} {g : Nat} {s : String} {d : DataW Unit} (h : VarReads Tryz.prog W n (.iface s d)) (hg : Tryz.prog.globalNamed n = some g) (hty : (Tryz.prog.globals[g]?).map (·.type) = some 169) : ∃ te pe, W.cell? ⟨g, 0, none⟩ = some (.iface te pe) := by
 obtain ⟨g', t', cs, fuel, p, hg', ht', hvar, hd⟩ := h
 obtain rfl := Option.some.inj (hg.symm.trans hg')
 obtain rfl := Option.some.inj (hty.symm.trans ht')
 have hu : ∃ ms, Tryz.prog.underlying 169 = some (.interface ms) := ⟨_, underlying169⟩
 obtain ⟨ms, hu⟩ := hu
 have hl : ∃ te pe, cs.toList = [.iface te pe] := by
  clear hvar
  generalize cs.toList = l at hd
  cases fuel with
  | zero => simp [DataW.trod] at hd
  | succ fuel =>
    unfold DataW.trod at hd
    rw [hu] at hd
    split at hd <;> first | exact ⟨_, _, rfl⟩ | (exfalso; simp_all; done)
 obtain ⟨te, pe, hl⟩ := hl
 refine ⟨te, pe, ?_⟩
 have := World.var?_cell hg hvar 0
 rw [this, <- Array.getElem?_toList, hl]
 rfl
open Go.Lib in
theorem Ri : firstData = Rows.laid_unicode_utf8_first := by kernel_rfl
open Go.Lib in
theorem N8 : acceptData = Rows.laid_unicode_utf8_acceptRanges := by kernel_rfl
open Go.Lib in
theorem TR {W : World} (R : ∀ n d, (n, d) ∈ Rows.valueCalendarMatchesRow.laid -> VarReads Tryz.prog W n d) (hx : XW W) (hs : W.ShapedOpen Tryz.prog) : XV W where
 xw := hx
 utf := utf8Tabs_of_reads { Tryz.lays197 with } ⟨by kernel_rfl, by kernel_rfl, by kernel_rfl, by kernel_rfl, by kernel_rfl, by kernel_rfl, by kernel_rfl⟩ (by rw [Ri]; exact R _ _ (List.mem_of_getElem? (i := 7) rfl)) (by rw [N8]; exact R _ _ (List.mem_of_getElem? (i := 3) rfl))
 len := cell_of_shapedOpen_int (t := 3) (zero := #[.int .i64 0]) hs (of_decide_eq_true (by kernel_rfl)) (by kernel_rfl) rfl (by kernel_rfl) (by kernel_rfl) underlying3
 ZB := II (R "strconv.ErrSyntax" Rows.laid_strconv_ErrSyntax (List.mem_of_getElem? (i := 5) rfl)) (by kernel_rfl) (by kernel_rfl)
 ran := II (R "strconv.ErrRange" Rows.laid_strconv_ErrRange (List.mem_of_getElem? (i := 4) rfl)) (by kernel_rfl) (by kernel_rfl)
 Yw := Xa (R "chancery/value.faults" Rows.laid_chancery_value_faults (List.mem_of_getElem? (i := 6) rfl))
theorem XK {W : World} (h : laidMetH Tryz.prog Rows.valueCheckMatchesRow.laid W) : XW W := by
 have h1 := h.filter (fun x => x.1 == "internal/strconv.uint64pow10")
 have e : (Rows.valueCheckMatchesRow.laid.filter fun x => x.1 == "internal/strconv.uint64pow10") = [("internal/strconv.uint64pow10", Lib.tabData .u64 Lib.pow10Tab)] := by kernel_rfl
 rw [e] at h1
 exact ⟨Lib.tabIs_of_head (rest := []) (g := 7) (t := 235) (e := 189) (n := 20) (by kernel_rfl) (by kernel_rfl) underlying235 underlying189 (by kernel_rfl) (by kernel_rfl) h1⟩
theorem XQ {W : World} (h : laidMetH Tryz.prog Rows.valueCheckMatchesRow.laid W) (hs : W.ShapedOpen Tryz.prog) : XV W /\ XR W := by
 have hM : laidMet Tryz.prog Rows.valueCheckMatchesRow.laid W := h
 exact ⟨TR (fun n d hm => Lib.laidMet.reads hM (.tail _ hm)) (XK h) hs, W9 (Lib.laidMet.reads hM (.head _))⟩
end Go.Proofs.YtdkhkfdenlabaaaGreatDoor
