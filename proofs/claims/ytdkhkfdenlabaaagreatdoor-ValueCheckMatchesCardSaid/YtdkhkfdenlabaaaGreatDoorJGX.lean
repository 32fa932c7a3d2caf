/- The frame of a law's proof: what was read below the heap's old size is read so again. Arguments that are fractions: opened to their fields. -/
import Derived.ProofKit
import Derived.OpenShut
import Derived.ShutString
import Derived.Below
import Derived.Carry
import Derived.Test.YtdkhkfdenlabaaaGreatDoorJGN
import Derived.Deep.Slices
import Derived.Deep.Fields
import Derived.ChangeSame
set_option linter.unusedSimpArgs false
set_option linter.unusedVariables false
namespace Go.Proofs.YtdkhkfdenlabaaaGreatDoor
open Go.ChangeShapes Go.WideShapes Go.ChangeAt Go.RowKit
theorem below_trodAll {H : Type} {enc : TypeId × Value → H} {P : Program} (hl : laidOutB P = true) {W W' : World} (hb : Below W.heap.size W W') :
    ∀ {ts : List TypeId} {vs : List Value} {ds : List (DataW H)} {ps : List MemPlace}, (ts.all fun t => P.readableRec t && decide (t < P.types.size)) = true →
      DataW.TrodAll enc P W 0 (fun _ => true) true ts vs ds ps → DataW.TrodAll enc P W' 0 (fun b => decide (b < W.heap.size)) true ts vs ds ps
  | [], [], [], _, _, h => h
  | [], _ :: _, _, _, _, h => h.elim
  | [], [], _ :: _, _, _, h => h.elim
  | _ :: _, [], _, _, _, h => h.elim
  | _ :: _, _ :: _, [], _, _, h => h.elim
  | t :: ts, v :: vs, d :: ds, ps, hr, h => by
    have hlt := h.lt
    obtain ⟨p, q, h1, h2, e⟩ := h
    simp only [List.all_cons, Bool.and_eq_true, decide_eq_true_eq] at hr
    exact ⟨p, q, Below.trod hl hr.1.1 hr.1.2 h1 hb (fun x hx => hlt x (by rw [e]; exact List.mem_append_left _ hx)), below_trodAll hl hb (by simpa using hr.2) h2, e⟩
theorem wf_i64 {n : Int} (h : (Lit.int .i64 n).wf = true) : -9223372036854775808 ≤ n ∧ n ≤ 9223372036854775807 := by
  simp [Lit.wf, IntKind.min, IntKind.max, IntKind.signed, IntKind.bits] at h
  omega
end Go.Proofs.YtdkhkfdenlabaaaGreatDoor
namespace Go.Proofs.YtdkhkfdenlabaaaGreatDoor
open Go.ChangeShapes Go.WideShapes Go.ChangeAt Go.RowKit Go.Deep
section
variable {H : Type} {enc : TypeId × Value → H} {P : Program} {w : World} {base : Nat} {spare : Nat → Bool} {held : Bool}
theorem field_int {n : Nat} {t : TypeId} {k : IntKind} {u : Value} {y} (ht : P.underlying t = some (.int k)) (h : DataW.trod enc P w base spare held n t [u] = some y) : ∃ m, u = .int k m ∧ (Lit.int k m).wf = true := by
  obtain ⟨m, e, -, hw⟩ := DataW.trod_int ht h
  exact ⟨m, by simpa using e, hw⟩
theorem field_bool {n : Nat} {t : TypeId} {u : Value} {y} (ht : P.underlying t = some .bool) (h : DataW.trod enc P w base spare held n t [u] = some y) : ∃ b, u = .bool b := by
  obtain ⟨m, e, -⟩ := DataW.trod_bool ht h
  exact ⟨m, by simpa using e⟩
theorem field_str {n : Nat} {t : TypeId} {u : Value} {y} (ht : P.underlying t = some .string) (h : DataW.trod enc P w base spare held n t [u] = some y) : ∃ l : List UInt8, u = .string (bstr l) ∧ l.length ≤ 9223372036854775807 := by
  obtain ⟨s, e, -, hs⟩ := DataW.trod_string ht h
  obtain ⟨l, rfl⟩ := bstr_of s
  exact ⟨l, by simpa using e, by rw [bstr_size] at hs; exact hs⟩
end
section
variable {H : Type} {enc : TypeId × Value → H} {w : World} {base : Nat} {spare : Nat → Bool} {held : Bool}
end
end Go.Proofs.YtdkhkfdenlabaaaGreatDoor
