/- A walk that reckons: operations by lemma; steps of rows and columns as an argument. -/
import Derived.Test.YtgphgimbnflhfaaDoorSz4
import Derived.Deep.Slices
set_option linter.unusedSimpArgs false
set_option linter.unusedVariables false
namespace Go.Proofs.YtgphgimbnflhfaaDoor
open Go.RowKit
namespace Sym
theorem x_len {C : Ctx} {G : Blobs} {x : Operand} {t e : TypeId} {a : Option Addr} {len cap : Nat} (ht : C.P.underlying t = some (.slice e)) : ExtN C G (.call ⟨.builtin .len, ⟨[x]⟩, ⟨[t]⟩⟩) [.any (.slice a len cap)] (.int .i64 (len : Nat)) := by
  unfold ExtN
  intro ρ β w dst ty pos after g _ _ h
  have e1 : ρ x = .slice a len cap := by simpa [opsX, SV.dens, SV.den] using h
  have q : (underlying t).run C.P w = .ok (.slice e) w := by simp [underlying, ht]
  simp [execOp, resolve, invoke, builtin, Builtin.len_, e1, q, SV.den, goInt]
theorem x_index {C : Ctx} {G : Blobs} {x y : Operand} {t e : TypeId} {a : Addr} {len cap j sz : Nat} {i : Int} (hi : i = (j : Nat)) (ht : C.P.underlying t = some (.slice e)) (hs : ∀ w, (sizeOf e).run C.P w = .ok sz w) (hj : j < len) :
    ExtN C G (.indexAddr t x y) [.any (.slice (some a) len cap), .int .i64 i] (.any (.pointer (some (a.add (j * sz))))) := by
  subst hi
  unfold ExtN
  intro ρ β w dst ty pos after g _ _ h
  have h' : ρ x = .slice (some a) len cap ∧ ρ y = .int .i64 (j : Nat) := by simpa [opsX, SV.dens, SV.den] using h
  have q : (underlying t).run C.P w = .ok (.slice e) w := by simp [underlying, ht]
  simp [execOp, Instr.indexAt, h'.1, h'.2, asIntOf, q, hs, hj, SV.den]
theorem x_indexPtr {C : Ctx} {G : Blobs} {x y : Operand} {t e : TypeId} {i off len j sz : Nat} (ht : C.P.underlying t = some (.array len e)) (hs : ∀ w, (sizeOf e).run C.P w = .ok sz w) (hj : j < len) :
    ExtN C G (.indexAddr t x y) [.ptr i off, .int .i64 (j : Nat)] (.ptr i (off + j * sz)) := by
  unfold ExtN
  intro ρ β w dst ty pos after g _ _ h
  have h' : ρ x = .pointer (some ⟨β i, off, none⟩) ∧ ρ y = .int .i64 (j : Nat) := by simpa [opsX, SV.dens, SV.den] using h
  have q : (underlying t).run C.P w = .ok (.array len e) w := by simp [underlying, ht]
  simp [execOp, Instr.indexAt, Instr.sureAddr, h'.1, h'.2, asIntOf, q, hs, hj, SV.den, add_at]
theorem x_load1 {C : Ctx} {G : Blobs} {x : Operand} {t : TypeId} {a : Addr} {v : SV} (hag : ∀ w, (isAgg t).run C.P w = .ok false w) (hc : ∀ w, Below C.base C.w0.w w → ∀ β, w.cell? a = some (v.den β)) :
    ExtN C G (.load t x) [.any (.pointer (some a))] v := by
  unfold ExtN
  intro ρ β w dst ty pos after g hb _ h
  have e1 : ρ x = .pointer (some a) := by simpa [opsX, SV.dens, SV.den] using h
  simp [execOp, Instr.loadAt, Instr.sureAddr, e1, loadVar, hag, hc w hb β]
theorem x_loadAgg {C : Ctx} {G : Blobs} {x : Operand} {t : TypeId} {a : Addr} {vs : List SV} (hag : ∀ w, (isAgg t).run C.P w = .ok true w) (hs : ∀ w, (sizeOf t).run C.P w = .ok vs.length w) (hc : ∀ w, Below C.base C.w0.w w → ∀ β j v, (SV.dens β vs)[j]? = some v → w.cell? (a.add j) = some v) :
    ExtN C G (.load t x) [.any (.pointer (some a))] (.agg vs) := by
  unfold ExtN
  intro ρ β w dst ty pos after g hb _ h
  have e1 : ρ x = .pointer (some a) := by simpa [opsX, SV.dens, SV.den] using h
  have := run_loadCells_list (P := C.P) w a (SV.dens β vs) (fun j v hj => hc w hb β j v hj)
  rw [SV.dens_len] at this
  simp [execOp, Instr.loadAt, Instr.sureAddr, e1, loadVar, hag, hs, this, SV.den]
theorem x_field {C : Ctx} {G : Blobs} {x : Operand} {t : TypeId} {a : Addr} {fs : Array Field} {f : Nat} {fd : Field} {sz : Nat} (ht : C.P.underlying t = some (.struct fs)) (hf : fs[f]? = some fd) (hs : ∀ w, (sizeOf fd.type).run C.P w = .ok sz w) (h0 : sz ≠ 0) :
    ExtN C G (.fieldAddr t x f) [.any (.pointer (some a))] (.any (.pointer (some (a.add fd.offset)))) := by
  unfold ExtN
  intro ρ β w dst ty pos after g hb _ h
  have e1 : ρ x = .pointer (some a) := by simpa [opsX, SV.dens, SV.den] using h
  have q : (underlying t).run C.P w = .ok (.struct fs) w := by simp [underlying, ht]
  simp [execOp, Instr.fieldAt, Instr.sureAddr, e1, q, hf, fieldPlace, hs, h0, SV.den]
theorem x_func {C : Ctx} {G : Blobs} {f : FuncId} {ys : List Operand} {us : List SV} : ExtN C G (.makeFunc (.func f) ⟨[]⟩ ⟨ys⟩) us (.fn f us) := by
  unfold ExtN
  intro ρ β w dst ty pos after g hb _ h
  have h : ys.map ρ = SV.dens β us := by simpa [opsX] using h
  simp [execOp, Instr.makeFunc, SV.den, ← h]
theorem x_indexAgg {C : Ctx} {G : Blobs} {x y : Operand} {t e : TypeId} {len j : Nat} {cs : List SV} {v : SV} (ht : C.P.underlying t = some (.array len e)) (hs : ∀ w, (sizeOf e).run C.P w = .ok 1 w) (hag : ∀ w, (isAgg e).run C.P w = .ok false w) (hj : j < len) (hv : cs[j]? = some v) :
    ExtN C G (.index t x y) [.agg cs, .int .i64 (j : Nat)] v := by
  unfold ExtN
  intro ρ β w dst ty pos after g _ _ h
  have h' : ρ x = .agg (SV.dens β cs).toArray ∧ ρ y = .int .i64 (j : Nat) := by simpa [opsX, SV.dens, SV.den] using h
  have q : (underlying t).run C.P w = .ok (.array len e) w := by simp [underlying, ht]
  have g1 : (SV.dens β cs)[j]? = some (v.den β) := by rw [SV.dens_get, hv]; rfl
  simp [execOp, Instr.index, h'.1, h'.2, asIntOf, q, hs, hag, hj, part, g1]
theorem x_pair {C : Ctx} {G : Blobs} {x y : Operand} {t e : TypeId} {a b : Option Addr} {n c m d : Nat} {z : Value} (ht : C.P.underlying t = some (.array 2 e)) (hs : ∀ w, (sizeOf e).run C.P w = .ok 1 w) (hz : ∀ w, (zeroValue t).run C.P w = .ok z w) (hc : z.cells.size = 2) :
    ExtN C G (.build t ⟨[(0, x), (1, y)]⟩) [.any (.slice a n c), .any (.slice b m d)] (.agg [.any (.slice a n c), .any (.slice b m d)]) := by
  unfold ExtN
  intro ρ β w dst ty pos after g _ _ h
  have h' : ρ x = .slice a n c ∧ ρ y = .slice b m d := by simpa [opsX, SV.dens, SV.den] using h
  have q : (underlying t).run C.P w = .ok (.array 2 e) w := by simp [underlying, ht]
  have h2 : ∃ c0 c1, z.cells = #[c0, c1] := by
    generalize z.cells = zc at hc
    obtain ⟨l⟩ := zc
    match l, hc with
    | [c0, c1], _ => exact ⟨c0, c1, rfl⟩
  obtain ⟨c0, c1, h2⟩ := h2
  have f1 : Instr.fill (fun i => some (i, 1)) #[c0, c1] [(0, .slice a n c), (1, .slice b m d)] = some #[.slice a n c, .slice b m d] := by simp [Instr.fill, Value.cells]
  simp [execOp, Instr.build, h'.1, h'.2, q, hs, hz, h2, f1, SV.den, SV.dens]
/-- steps of rows or columns, as they lie in memory -/
def StepsAt (la : Option Addr) (L : List (Int × Int)) (w : World) : Prop := ∀ i s, L[i]? = some s → ∃ a, la = some a ∧ a.block < w.heap.size ∧ w.cell? (a.add (i * 2)) = some (.int .i64 s.1) ∧ w.cell? (a.add (i * 2 + 1)) = some (.int .i64 s.2)
theorem StepsAt.below {la : Option Addr} {L : List (Int × Int)} {w w' : World} (h : StepsAt la L w) (hb : Below w.heap.size w w') : StepsAt la L w' := fun i s hi => by
  obtain ⟨a, h1, h2, h3, h4⟩ := h i s hi
  have e : ∀ k, (a.add k).block = a.block := fun k => by unfold Addr.add; split <;> rfl
  refine ⟨a, h1, Nat.lt_of_lt_of_le h2 hb.size, ?_, ?_⟩
  · rw [World.cell?_of_block (w := w) (by rw [e]; exact hb.block _ h2)]; exact h3
  · rw [World.cell?_of_block (w := w) (by rw [e]; exact hb.block _ h2)]; exact h4
end Sym
end Go.Proofs.YtgphgimbnflhfaaDoor
