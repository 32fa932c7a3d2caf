/- Marked-down texts, the program: a character read, walked in place. -/
import Derived.Test.YtnbahdnjcdimgaaDoorMMkW6A
import Derived.Test.YtnbahdnjcdimgaaDoorMMkW6B
import Derived.Test.YtnbahdnjcdimgaaDoorMMkW6C
set_option linter.unusedSimpArgs false
set_option linter.unusedVariables false
namespace Go.Proofs.YtnbahdnjcdimgaaDoor
open Go.RowKit
open Sym
attribute [local irreducible] Calls Sym.AggEq
set_option maxRecDepth 100000 in
set_option maxHeartbeats 4000000 in
theorem charN {W0 : World} {w0 : Base} {fn : Func} {res : List ResultVar} {R : Ending → World → Prop} {sc sb : List Nat} {all l : List Oper} {k : List It} {d m : Nat} {fr : List (Nat × SV)} (s : List UInt8) (t : MkP.RT) (Φ : Nat → Option Obj → Prop) (hres : fn.results = res.toArray) (hs : s ≠ []) (hl : s.length ≤ 100000) (hn : t.n ≤ 100000) (hk : t.k ≤ 100000) (hW : XM W0) (hB : Below W0.heap.size W0 w0.w) (hn0 : w0.n0 ≤ 1) (hfr : okF 1 fr = true) (hd : Nat.blt d m = true)
    (h : ∀ (g cap gl lcap : Nat) (xa : Option Addr) (xc : Nat) (w1 : Base), Ext W0.heap.size w0 w1 → Kept W0.heap.size w1 xa (MkP.atv (MkP.ats t.o0 t.o1 t.o2 t.o3 t.link)) → wpS ⟨Tryd.prog, env, W0.heap.size, w1, fn, res, R, sc, sb⟩ 1000 (.ops all l :: k) ⟨(d, .int .i64 ((MkP.chr s).2.2 : Nat)) :: fr, rdR (MkP.chR t (MkP.chr s).2.1 (MkP.chr s).1 g cap gl lcap xa xc) Φ, 4, m⟩) :
    CallN ⟨Tryd.prog, env, W0.heap.size, w0, fn, res, R, sc, sb⟩ all l k (some d) 25 [.ptr 0 0, .str s] ⟨fr, rdR t Φ, 4, m⟩ := by
  by_cases hA : VaP.dec s = (65533, 1)
  · exact charNA s t Φ hres hs hA hl hn hk hW hB hn0 hfr hd h
  · by_cases hC : VaP.charP (VaP.dec s).1 = false
    · exact charNB s t Φ hres hs hA hC hl hn hk hW hB hn0 hfr hd h
    · exact charNC s t Φ hres hs hA (by simpa using hC) hl hn hk hW hB hn0 hfr hd h
end Go.Proofs.YtnbahdnjcdimgaaDoor
