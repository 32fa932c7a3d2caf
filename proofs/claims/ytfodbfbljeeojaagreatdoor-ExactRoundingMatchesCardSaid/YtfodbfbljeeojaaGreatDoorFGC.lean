/- A walk that reckons: operations by lemma; steps of rows and columns as an argument. A walk that reckons: slices of the function's own: made, appended to, read. A walk that reckons: more operations: quotients, bytes as strings, values by any lemma, calls that make a slice. A walk that reckons: slices of the function's own, of elements of any size. A walk that reckons: a builder of strings of the function's own; a new beginning in the midst of a walk. A walk that reckons: a scope through which the run goes without a jump. -/
import Derived.Test.YtfodbfbljeeojaaGreatDoorFGB
import Derived.Deep.Slices
import Derived.Maps.AppendAt
import Derived.Lib.FrozenHead
import Derived.Scope
set_option linter.unusedSimpArgs false
set_option linter.unusedVariables false
namespace Go.Proofs.YtfodbfbljeeojaaGreatDoor
open Go.RowKit
namespace Sym
theorem x_len {C : Ctx} {G : Blobs} {x : Operand} {t e : TypeId} {a : Option Addr} {len cap : Nat} (ht : C.P.underlying t = some (.slice e)) : ExtN C G (.call ⟨.builtin .len, ⟨[x]⟩, ⟨[t]⟩⟩) [.any (.slice a len cap)] (.int .i64 (len : Nat)) := by
  unfold ExtN
  intro ρ β w dst ty pos after g _ _ h
  have e1 : ρ x = .slice a len cap := by simpa [opsX, SV.dens, SV.den] using h
  have q : (underlying t).run C.P w = .ok (.slice e) w := by simp [underlying, ht]
  simp [execOp, resolve, invoke, builtin, Builtin.len_, e1, q, SV.den, goInt]
theorem x_index {C : Ctx} {G : Blobs} {x y : Operand} {t e : TypeId} {a : Addr} {len cap j sz : Nat} {i : Int} (hi : i = (j : Nat)) (ht : C.P.underlying t = some (.slice e)) (hs : ∀ w, (sizeOf e).run C.P w = .ok sz w) (hj : j < len) :
    ExtN C G (.indexAddr t x y) [.any (.slice (some a) len cap), .int .i64 i] (.any (.pointer (some (a.add (j * sz))))) := by
  subst hi
  unfold ExtN
  intro ρ β w dst ty pos after g _ _ h
  have h' : ρ x = .slice (some a) len cap ∧ ρ y = .int .i64 (j : Nat) := by simpa [opsX, SV.dens, SV.den] using h
  have q : (underlying t).run C.P w = .ok (.slice e) w := by simp [underlying, ht]
  simp [execOp, Instr.indexAt, h'.1, h'.2, asIntOf, q, hs, hj, SV.den]
theorem x_load1 {C : Ctx} {G : Blobs} {x : Operand} {t : TypeId} {a : Addr} {v : SV} (hag : ∀ w, (isAgg t).run C.P w = .ok false w) (hc : ∀ w, Below C.base C.w0.w w → ∀ β, w.cell? a = some (v.den β)) :
    ExtN C G (.load t x) [.any (.pointer (some a))] v := by
  unfold ExtN
  intro ρ β w dst ty pos after g hb _ h
  have e1 : ρ x = .pointer (some a) := by simpa [opsX, SV.dens, SV.den] using h
  simp [execOp, Instr.loadAt, Instr.sureAddr, e1, loadVar, hag, hc w hb β]
/-- steps of rows or columns, as they lie in memory -/
def StepsAt (la : Option Addr) (L : List (Int × Int)) (w : World) : Prop := ∀ i s, L[i]? = some s → ∃ a, la = some a ∧ a.block < w.heap.size ∧ w.cell? (a.add (i * 2)) = some (.int .i64 s.1) ∧ w.cell? (a.add (i * 2 + 1)) = some (.int .i64 s.2)
theorem StepsAt.below {la : Option Addr} {L : List (Int × Int)} {w w' : World} (h : StepsAt la L w) (hb : Below w.heap.size w w') : StepsAt la L w' := fun i s hi => by
  obtain ⟨a, h1, h2, h3, h4⟩ := h i s hi
  have e : ∀ k, (a.add k).block = a.block := fun k => by unfold Addr.add; split <;> rfl
  refine ⟨a, h1, Nat.lt_of_lt_of_le h2 hb.size, ?_, ?_⟩
  · rw [World.cell?_of_block (w := w) (by rw [e]; exact hb.block _ h2)]; exact h3
  · rw [World.cell?_of_block (w := w) (by rw [e]; exact hb.block _ h2)]; exact h4
end Sym
end Go.Proofs.YtfodbfbljeeojaaGreatDoor
namespace Go.Proofs.YtfodbfbljeeojaaGreatDoor
open Go.RowKit
namespace Sym
/-- a block that one slice owns -/
def OwnI (e : TypeId) (g n cap : Nat) (xs : List Value) (b : Nat) (o : Option Obj) : Prop := b = g ∧ ∃ cur, o = some (.cells cur e (0, 0)) ∧ n ≤ cap ∧ cap ≤ maxLen ∧ cur.size = cap ∧ cur.toList.take n = xs ∧ xs.length = n
theorem OwnI.owns {e : TypeId} {g n cap : Nat} {xs : List Value} {b base : Nat} {w : World} (h : OwnI e g n cap xs b w.heap[b]?) (hb : base ≤ b) : w.ownsRow base e 1 (.slice (some ⟨g, 0, none⟩) n cap) n xs := by
  obtain ⟨rfl, cur, h1, h2, h3, h4, h5, h6⟩ := h
  exact ⟨by omega, .inr ⟨b, cap, cur, rfl, hb, h1, h2, h3, by omega, by simpa using h5⟩⟩
theorem OwnI.cell {e : TypeId} {g n cap : Nat} {xs : List Value} {b : Nat} {w : World} (h : OwnI e g n cap xs b w.heap[b]?) : ∀ j u, xs[j]? = some u → w.cell? ((⟨g, 0, none⟩ : Addr).add j) = some u := by
  obtain ⟨rfl, cur, h1, h2, h3, h4, h5, h6⟩ := h
  intro j u hj
  rw [add_at]
  have hjn : j < n := by have := (List.getElem?_eq_some_iff.1 hj).1; omega
  have : cur[j]? = some u := by
    rw [← h5, List.getElem?_take, if_pos hjn] at hj
    simpa using hj
  simp [World.cell?, h1, this]
mutual
/-- the block i is named -/
def ment (i : Nat) : SV → Bool
  | .ptr j _ => Nat.beq j i
  | .agg cs => ments i cs
  | .tup cs => ments i cs
  | .fn _ cs => ments i cs
  | _ => false
def ments (i : Nat) : List SV → Bool
  | [] => false
  | v :: r => ment i v || ments i r
end
mutual
theorem ment_den {i : Nat} {β β' : Nat → Nat} (hb : ∀ j, j ≠ i → β' j = β j) : ∀ v : SV, ment i v = false → v.den β' = v.den β
  | .lit _, _ => rfl
  | .bool _, _ => rfl
  | .prop _ _, _ => rfl
  | .int _ _, _ => rfl
  | .str _, _ => rfl
  | .ptr j _, h => by simp only [SV.den]; rw [hb j (Nat.ne_of_beq_eq_false h)]
  | .agg cs, h => by simp only [SV.den]; rw [ments_den hb cs h]
  | .tup cs, h => by simp only [SV.den]; rw [ments_den hb cs h]
  | .fn _ cs, h => by simp only [SV.den]; rw [ments_den hb cs h]
  | .any _, _ => rfl
theorem ments_den {i : Nat} {β β' : Nat → Nat} (hb : ∀ j, j ≠ i → β' j = β j) : ∀ vs : List SV, ments i vs = false → SV.dens β' vs = SV.dens β vs
  | [], _ => rfl
  | v :: r, h => by
    simp only [ments, Bool.or_eq_false_iff] at h
    simp only [SV.dens]; rw [ment_den hb v h.1, ments_den hb r h.2]
end
def mentF (i : Nat) : List (Nat × SV) → Bool
  | [] => false
  | (_, v) :: r => ment i v || mentF i r
def mentR (i : Nat) : List (Nat × Bool × SRow) → Bool
  | [] => false
  | (_, _, .cells _ cs) :: r => ments i cs || mentR i r
  | (_, _, .blob _) :: r => mentR i r
theorem mentF_get {i s : Nat} {v : SV} : ∀ (fr : List (Nat × SV)), mentF i fr = false → get fr s = some v → ment i v = false
  | [], _, h => by simp [get] at h
  | (j, u) :: r, hm, h => by
    simp only [mentF, Bool.or_eq_false_iff] at hm
    rw [get_cons] at h
    by_cases e : j = s
    · rw [if_pos e] at h; cases h; exact hm.1
    · rw [if_neg e] at h; exact mentF_get r hm.2 h
theorem mentR_get {i s : Nat} {o : Bool} {t : TypeId} {cs : List SV} : ∀ (rows : List (Nat × Bool × SRow)), mentR i rows = false → get rows s = some (o, .cells t cs) → ments i cs = false
  | [], _, h => by simp [get] at h
  | (j, q, .cells t' c') :: r, hm, h => by
    simp only [mentR, Bool.or_eq_false_iff] at hm
    rw [get_cons] at h
    by_cases e : j = s
    · rw [if_pos e] at h; cases h; exact hm.1
    · rw [if_neg e] at h; exact mentR_get r hm.2 h
  | (j, q, .blob _) :: r, hm, h => by
    simp only [mentR] at hm
    rw [get_cons] at h
    by_cases e : j = s
    · rw [if_pos e] at h; cases h
    · rw [if_neg e] at h; exact mentR_get r hm h
theorem RowIs_block {β : Nat → Nat} {w w' : World} {b : Nat} {r : SRow} (hb : w'.heap[b]? = w.heap[b]?) (hs : w.heap.size ≤ w'.heap.size) (h : RowIs w β b r) : RowIs w' β b r := by
  cases r with
  | cells t cs => simp only [RowIs] at h ⊢; unfold Row at h ⊢; rw [hb]; exact h
  | blob Φ => exact ⟨Nat.lt_of_lt_of_le h.1 hs, by rw [hb]; exact h.2⟩
theorem SRow.ok_mono {n m : Nat} (h : n ≤ m) : ∀ (r : SRow), r.ok n → r.ok m
  | .cells t cs, k => SV.oks_mono h cs k
  | .blob _, _ => trivial
theorem fill1 (u : Value) (hu : u.cells = #[u]) (A : Array Value) (h : A.size = 1) : Instr.fill (fun i => some (i, 1)) A [(0, u)] = some #[u] := by
  obtain ⟨l⟩ := A
  match l, h with
  | [c0], _ => simp [Instr.fill, hu]
end Sym
end Go.Proofs.YtfodbfbljeeojaaGreatDoor
namespace Go.Proofs.YtfodbfbljeeojaaGreatDoor
open Go.RowKit
namespace Sym
theorem x_rem {C : Ctx} {G : Blobs} {x y : Operand} {t u : TypeId} {k : IntKind} {a b : Int} (ha : 0 ≤ a) (hb : 0 < b) : ExtN C G (.binOp .rem t x y u) [.int k a, .int k b] (.int k (a % b)) := by
  unfold ExtN
  intro ρ β w dst ty pos after g _ _ h
  have h' : ρ x = .int k a ∧ ρ y = .int k b := by simpa [opsX, SV.dens, SV.den] using h
  have e0 : ¬ b = 0 := by omega
  simp [execOp, eqGuard, binOp, Op.intDiv, h'.1, h'.2, e0, SV.den, Int.tmod_eq_emod_of_nonneg ha]
theorem x_quo {C : Ctx} {G : Blobs} {x y : Operand} {t u : TypeId} {k : IntKind} {a b : Int} (ha : 0 ≤ a) (hb : 0 < b) (hk : inK k a) : ExtN C G (.binOp .quo t x y u) [.int k a, .int k b] (.int k (a / b)) := by
  unfold ExtN
  intro ρ β w dst ty pos after g _ _ h
  have h' : ρ x = .int k a ∧ ρ y = .int k b := by simpa [opsX, SV.dens, SV.den] using h
  have e0 : ¬ b = 0 := by omega
  have h1 : 0 ≤ a / b := Int.ediv_nonneg ha (by omega)
  have h2 : a / b ≤ a := Int.ediv_le_self _ ha
  have hw : k.wrap (a / b) = a / b := inK_wrap (by cases k <;> simp only [inK] at hk ⊢ <;> omega)
  simp [execOp, eqGuard, binOp, Op.intDiv, h'.1, h'.2, e0, SV.den, Int.tdiv_eq_ediv_of_nonneg ha, hw]
/-- bytes of one's own, turned into a string -/
theorem x_bytesStr {C : Ctx} {G : Blobs} {x : Operand} {t u e : TypeId} {g cap n : Nat} {xs : List Value} (i : Nat) (l : List UInt8) (hs : C.P.underlying t = some (.slice e)) (he : C.P.underlying e = some (.int .u8)) (hd : C.P.underlying u = some .string)
    (ri : G i = some (OwnI e g n cap xs)) (hx : xs = bvals l) : ExtN C G (.convert t u x) [.any (.slice (some ⟨g, 0, none⟩) n cap)] (.str l) := by
  unfold ExtN
  intro ρ β w dst ty pos after gd _ hG h
  have e1 : ρ x = .slice (some ⟨g, 0, none⟩) n cap := by simpa [opsX, SV.dens, SV.den] using h
  have ho := (hG i _ ri).2
  have hc := OwnI.cell ho
  have hn : n = l.length := by obtain ⟨-, cur, -, -, -, -, -, h6⟩ := ho; rw [← h6, hx]; simp [bvals]
  subst hn
  have hr := run_convert_bytes_back (P := C.P) w t u e ⟨g, 0, none⟩ cap l hs he hd (fun j hj => hc j _ (by rw [hx]; simp [bvals, hj]))
  simp [execOp, e1, hr, SV.den, bstr]
/-- a block that is there gets a number -/
theorem Sat.learn {base : Nat} {w0 : Base} {β : Nat → Nat} {a : Act} {w : World} {fr : List (Nat × SV)} {rows : List (Nat × Bool × SRow)} {nx n b : Nat} {o : Bool} {Φ : Nat → Option Obj → Prop} (hs : Sat base w0 ⟨fr, rows, nx, n⟩ β a w) (hb : b < w.heap.size) (hΦ : Φ b w.heap[b]?)
    (ho : o = true → base ≤ b ∧ ∀ i o' r, get rows i = some (o', r) → β i ≠ b) (hn : ∀ i r, get rows i = some (true, r) → β i ≠ b) :
    Sat base w0 ⟨fr, (nx, o, .blob Φ) :: rows, nx + 1, n⟩ (fun i => if i = nx then b else β i) a w := by
  obtain ⟨h1, h2, h3, h4⟩ := hs
  have hbe : ∀ i, i < nx → (fun i => if i = nx then b else β i) i = β i := fun i hi => by dsimp only; rw [if_neg (by omega)]
  refine ⟨h1, h2, fun s v hv => ?_, ?_⟩
  · obtain ⟨k1, k2⟩ := h3 s v hv
    exact ⟨by rw [k1, SV.den_ext hbe v k2], SV.ok_mono (Nat.le_succ _) v k2⟩
  · refine ⟨h4.below, h4.base_le, fun i ow r' hi => ?_, fun i hi => ?_, fun i j r' oj rj hi hj hji => ?_, Nat.le_trans h4.n0 (Nat.le_succ _), fun i hi => ?_⟩
    · rw [get_cons] at hi
      by_cases e : nx = i
      · rw [if_pos e] at hi
        cases hi
        subst e
        dsimp only
        rw [if_pos rfl]
        exact ⟨⟨hb, hΦ⟩, trivial, by omega, fun h => (ho h).1⟩
      · rw [if_neg e] at hi
        obtain ⟨k1, k2, k3, k4⟩ := h4.row i ow r' hi
        have k3 : i < nx := k3
        dsimp only
        rw [if_neg (by omega)]
        exact ⟨RowIs_ext hbe k2 k1, SRow.ok_mono (Nat.le_succ _) r' k2, by omega, k4⟩
    · have hi : i < nx + 1 := hi
      by_cases e : i = nx
      · rw [if_pos e]; exact hb
      · rw [if_neg e]; exact h4.lt i (show i < nx by omega)
    · rw [get_cons] at hi hj
      by_cases e : nx = i
      · rw [if_pos e] at hi
        cases hi
        rw [if_neg (by omega)] at hj
        rw [if_pos e.symm, if_neg (by omega)]
        exact (ho rfl).2 j oj rj hj
      · rw [if_neg e] at hi
        rw [if_neg (by omega : ¬ i = nx)]
        by_cases ej : nx = j
        · rw [if_pos ej.symm]; exact fun e0 => hn i r' hi e0.symm
        · rw [if_neg ej] at hj; rw [if_neg (by omega)]; exact h4.inj i j r' oj rj hi hj hji
    · have h5 : w0.n0 ≤ nx := h4.n0
      have e : ¬ i = nx := by omega
      rw [if_neg e]; exact h4.ext i hi
/-- what a slice shows, in a world -/
def SlAt (a : Option Addr) (xs : List Value) (w : World) : Prop := ∀ i v, xs[i]? = some v → ∃ ad, a = some ad ∧ ad.block < w.heap.size ∧ w.cell? (ad.add i) = some v
/-- what a slice shows, all in one block -/
def SlB (a : Option Addr) (xs : List Value) (b : Nat) (o : Option Obj) : Prop := ∀ w : World, w.heap[b]? = o → ∀ i v, xs[i]? = some v → ∃ ad, a = some ad ∧ ad.block = b ∧ w.cell? (ad.add i) = some v
def Fresh (a : Option Addr) (w : World) : Prop := ∀ ad, a = some ad → w.heap.size ≤ ad.block
theorem add_block (a : Addr) (k : Nat) : (a.add k).block = a.block := by unfold Addr.add; split <;> rfl
theorem SlAt.below {a : Option Addr} {xs : List Value} {w w' : World} (h : SlAt a xs w) (hb : Below w.heap.size w w') : SlAt a xs w' := fun i v hi => by
  obtain ⟨ad, h1, h2, h3⟩ := h i v hi
  exact ⟨ad, h1, Nat.lt_of_lt_of_le h2 hb.size, by rw [World.cell?_of_block (w := w) (by rw [add_block]; exact hb.block _ h2)]; exact h3⟩
theorem SlAt.some {a : Option Addr} {xs : List Value} {w : World} (h : SlAt a xs w) (hx : xs ≠ []) : ∃ ad, a = some ad := by
  cases xs with
  | nil => exact absurd rfl hx
  | cons x r => obtain ⟨ad, e, _⟩ := h 0 x rfl; exact ⟨ad, e⟩
theorem SlB.at {a : Option Addr} {xs : List Value} {b : Nat} {w : World} (h : SlB a xs b w.heap[b]?) (hb : b < w.heap.size) : SlAt a xs w := fun i v hi => by
  obtain ⟨ad, h1, h2, h3⟩ := h w rfl i v hi
  exact ⟨ad, h1, by omega, h3⟩
theorem xop_of {C : Ctx} (hE : EnvOK C.P C.E) (hres : C.fn.results = C.res.toArray) {all l : List Oper} {k : List It} {o : Oper} {st : St} (fuel : Nat) (h : OpX C o st (fun st' => wpS C fuel (.ops all l :: k) st')) : XopN C all l k o st := by
  unfold OpX at h
  unfold XopN
  exact fun β a w hs => h β a w hs _ _ (fun st' β' a' w' hK hs' => wpS_sound hE hres fuel (.ops all l :: k) st' β' a' w' hK hs')
theorem call_of {C : Ctx} (hE : EnvOK C.P C.E) (hres : C.fn.results = C.res.toArray) {all l : List Oper} {k : List It} {dst : Option Nat} {f : FuncId} {args : List SV} {st : St} (fuel : Nat) (h : CallX C dst f args st (fun st' => wpS C fuel (.ops all l :: k) st')) : CallN C all l k dst f args st := by
  unfold CallX at h
  unfold CallN
  refine ⟨h.1, fun β a w hs => (h.2 β a w hs).mono ?_⟩
  rintro e w' ⟨v, st', β', rfl, hK, hs'⟩
  exact wpS_sound hE hres fuel (.ops all l :: k) st' β' _ w' hK hs'
theorem opx_build {C : Ctx} {d : Nat} {ty : TypeId} {pos : String} {after : Array Edge} {gd : Option (Nat × Bool)} {fr : List (Nat × SV)} {rows : List (Nat × Bool × SRow)} {nx n len : Nat} {K : St → Prop}
    {ps : List (Nat × Operand)} {t e : TypeId} (xs : List Value) (hd : Nat.blt d n = true) (hl : xs.length = len) (hm : len ≤ maxLen)
    (hr : ∀ β a w, Sat C.base C.w0 ⟨fr, rows, nx, n⟩ β a w → (Instr.buildSlice t len (ps.toArray.map fun (i, x) => (i, a.eval x))).run C.P w = .ok (.slice (some ⟨w.heap.size, 0, none⟩) len len) (w.alloc (.cells xs.toArray e)))
    (h : ∀ g, K ⟨(d, .any (.slice (some ⟨g, 0, none⟩) len len)) :: fr, (nx, true, .blob (OwnI e g len len xs)) :: rows, nx + 1, n⟩) :
    OpX C ⟨some d, .buildSlice t len ⟨ps⟩, ty, pos, after, gd⟩ ⟨fr, rows, nx, n⟩ K := by
  unfold OpX
  intro β a w hs next Q hn
  have hrun := hr β a w hs
  unfold Oper.wp
  have : (execOp a.eval ⟨some d, .buildSlice t len ⟨ps⟩, ty, pos, after, gd⟩).run C.P w = .ok (.value (.slice (some ⟨w.heap.size, 0, none⟩) len len)) (w.alloc (.cells xs.toArray e)) := by
    simp only [execOp, Sem.run_bind]
    rw [hrun]; simp
  rw [this]
  have hs2 := hs.alloc (r := .blob (OwnI e w.heap.size len len xs)) trivial (.cells xs.toArray e) (fun β' hb => ⟨by simp, rfl, xs.toArray, by have := Row.new w e xs.toArray; unfold Row at this; exact this, Nat.le_refl _, hm, by simp [hl], by simp [List.take_of_length_le, hl], hl⟩) rfl
  have hs3 := hs2.put (d := d) (by simpa [Nat.blt_eq] using hd) (v := .any (.slice (some ⟨w.heap.size, 0, none⟩) len len)) rfl
  exact hn _ _ _ _ (h w.heap.size) hs3
theorem opx_one {C : Ctx} {d : Nat} {ty : TypeId} {pos : String} {after : Array Edge} {gd : Option (Nat × Bool)} {fr : List (Nat × SV)} {rows : List (Nat × Bool × SRow)} {nx n : Nat} {K : St → Prop}
    {x : Operand} {t e : TypeId} {kd : IntKind} {p : Int} {z0 : Value} (hd : Nat.blt d n = true) (hx : ev fr x = some (.int kd p))
    (ht : C.P.underlying t = some (.slice e)) (hs : ∀ w, (sizeOf e).run C.P w = .ok 1 w) (hz : ∀ w, (zeroValue e).run C.P w = .ok z0 w) (hz1 : z0.cells = #[z0])
    (h : ∀ g, K ⟨(d, .any (.slice (some ⟨g, 0, none⟩) 1 1)) :: fr, (nx, true, .blob (OwnI e g 1 1 [.int kd p])) :: rows, nx + 1, n⟩) :
    OpX C ⟨some d, .buildSlice t 1 ⟨[(0, x)]⟩, ty, pos, after, gd⟩ ⟨fr, rows, nx, n⟩ K :=
  opx_build [.int kd p] hd rfl (by unfold maxLen; omega) (fun β a w hsat => by
    have e1 := (ev_sound hsat hx).1
    have q0 : (underlying t).run C.P w = .ok (.slice e) w := by simp [underlying, ht]
    simp [Instr.buildSlice, q0, hs, hz, hz1, e1, SV.den, fill1 (.int kd p) rfl, newRow, World.alloc_eq]) h
end Sym
end Go.Proofs.YtfodbfbljeeojaaGreatDoor
namespace Go.Proofs.YtfodbfbljeeojaaGreatDoor
open Go.RowKit
namespace Sym
def OwnS (e : TypeId) (sz g n cap : Nat) (xs : List Value) (b : Nat) (o : Option Obj) : Prop := b = g ∧ ∃ cur, o = some (.cells cur e (0, 0)) ∧ n ≤ cap ∧ cap ≤ maxLen ∧ cur.size = cap * sz ∧ cur.toList.take (n * sz) = xs ∧ xs.length = n * sz
theorem OwnS.owns {e : TypeId} {sz g n cap : Nat} {xs : List Value} {b base : Nat} {w : World} (h : OwnS e sz g n cap xs b w.heap[b]?) (hb : base ≤ b) : w.ownsRow base e sz (.slice (some ⟨g, 0, none⟩) n cap) n xs := by
  obtain ⟨rfl, cur, h1, h2, h3, h4, h5, h6⟩ := h
  exact ⟨h6, .inr ⟨b, cap, cur, rfl, hb, h1, h2, h3, h4, h5⟩⟩
theorem OwnS.cell {e : TypeId} {sz g n cap : Nat} {xs : List Value} {b : Nat} {w : World} (h : OwnS e sz g n cap xs b w.heap[b]?) : ∀ j u, xs[j]? = some u → w.cell? ((⟨g, 0, none⟩ : Addr).add j) = some u := by
  obtain ⟨rfl, cur, h1, h2, h3, h4, h5, h6⟩ := h
  intro j u hj
  rw [add_at]
  have hjn : j < n * sz := by have := (List.getElem?_eq_some_iff.1 hj).1; omega
  have : cur[j]? = some u := by
    rw [← h5, List.getElem?_take, if_pos hjn] at hj
    simpa using hj
  simp [World.cell?, h1, this]
theorem OwnS.slAt {e : TypeId} {sz g n cap : Nat} {xs : List Value} {b : Nat} {w : World} (h : OwnS e sz g n cap xs b w.heap[b]?) (hb : b < w.heap.size) : SlAt (some ⟨g, 0, none⟩) xs w := fun j u hj => ⟨_, rfl, by rw [← h.1]; exact hb, h.cell j u hj⟩
theorem fill_whole {sz : Nat} {u : Value} {xs : List Value} (hu : u.cells = xs.toArray) (hl : xs.length = sz) (A : Array Value) (hA : A.size = sz) : Instr.fill (fun i => some (i * sz, sz)) A [(0, u)] = some xs.toArray := by
  simp only [Instr.fill, hu, Nat.zero_mul]
  rw [if_neg (by simp; omega)]
  congr 1
  have := foldl_set 0 xs 0 A (by omega)
  rw [← Array.foldl_toList, Array.toList_zipIdx]
  simp only [Nat.add_zero, Nat.zero_add] at this ⊢
  refine this.trans ?_
  rw [List.drop_eq_nil_of_le (by simp; omega)]
  simp
theorem opx_build1 {C : Ctx} {d : Nat} {ty : TypeId} {pos : String} {after : Array Edge} {gd : Option (Nat × Bool)} {fr : List (Nat × SV)} {rows : List (Nat × Bool × SRow)} {nx n : Nat} {K : St → Prop}
    {x : Operand} {t e : TypeId} {sz : Nat} {v : SV} {vs : List SV} {xs : List Value} {z0 : Value} (hd : Nat.blt d n = true) (hx : ev fr x = some v) (hc : cellsSV v = some vs) (hxs : ∀ β, SV.dens β vs = xs) (hl : xs.length = sz) (h0 : 0 < sz) (hk : sz ≤ 1000)
    (ht : C.P.underlying t = some (.slice e)) (hs : ∀ w, (sizeOf e).run C.P w = .ok sz w) (hz : ∀ w, (zeroValue e).run C.P w = .ok z0 w)
    (h : ∀ g, K ⟨(d, .any (.slice (some ⟨g, 0, none⟩) 1 1)) :: fr, (nx, true, .blob (OwnS e sz g 1 1 xs)) :: rows, nx + 1, n⟩) :
    OpX C ⟨some d, .buildSlice t 1 ⟨[(0, x)]⟩, ty, pos, after, gd⟩ ⟨fr, rows, nx, n⟩ K := by
  unfold OpX
  intro β a w hs0 next Q hn
  obtain ⟨e1, hok⟩ := ev_sound hs0 hx
  obtain ⟨ec, -⟩ := cells_sound (β := β) hc hok
  rw [hxs β] at ec
  have q0 : (underlying t).run C.P w = .ok (.slice e) w := by simp [underlying, ht]
  have hA : ((Array.range (1 * sz)).map (z0.cells[· % z0.cells.size]!)).size = sz := by simp
  have hf := fill_whole ec hl _ hA
  have hrun : (execOp a.eval ⟨some d, .buildSlice t 1 ⟨[(0, x)]⟩, ty, pos, after, gd⟩).run C.P w = .ok (.value (.slice (some ⟨w.heap.size, 0, none⟩) 1 1)) (w.alloc (.cells xs.toArray e)) := by
    have n1 : ¬ 1 * sz > 2 ^ 24 := by omega
    have n2 : ¬ 1 * sz = 0 := by omega
    simp only [execOp, Sem.run_bind]
    unfold Instr.buildSlice
    simp only [Sem.run_bind, q0, Result.andThen_ok, hs, if_neg n1, if_neg n2, hz, Sem.run_pure]
    have e3 : ((#[(0, x)] : Array (Nat × Operand)).map fun (i, y) => (i, a.eval y)).toList = [(0, v.den β)] := by simp [e1]
    simp only [e3, hf, Sem.run_bind, newRow, World.alloc_eq]
    simp [World.alloc_eq]
  unfold Oper.wp
  rw [hrun]
  have hs2 := hs0.alloc (r := .blob (OwnS e sz w.heap.size 1 1 xs)) trivial (.cells xs.toArray e) (fun β' hb => ⟨by simp, rfl, xs.toArray, by have := Row.new w e xs.toArray; unfold Row at this; exact this, Nat.le_refl _, by unfold maxLen; omega, by simp [hl], by simp [List.take_of_length_le, hl], by omega⟩) rfl
  have hs3 := hs2.put (d := d) (by simpa [Nat.blt_eq] using hd) (v := .any (.slice (some ⟨w.heap.size, 0, none⟩) 1 1)) rfl
  exact hn _ _ _ _ (h w.heap.size) hs3
theorem opx_append {C : Ctx} {d : Nat} {ty : TypeId} {pos : String} {after : Array Edge} {gd : Option (Nat × Bool)} {fr : List (Nat × SV)} {rows : List (Nat × Bool × SRow)} {nx n : Nat} {K : St → Prop}
    {x y : Operand} {t e : TypeId} {sz : Nat} (i j : Nat) {g n1 cap1 g2 m c2 : Nat} {xs ys : List Value} {inf : TypeInfo} {z : Value} (hd : Nat.blt d n = true)
    (ht : C.P.underlying t = some (.slice e)) (hi : C.P.info? e = some inf) (hz : inf.zero = some z) (hsize : inf.size = sz) (hzs : z.cells.size = sz) (h0 : 0 < sz)
    (hx : ev fr x = some (.any (.slice (some ⟨g, 0, none⟩) n1 cap1))) (hy : ev fr y = some (.any (.slice (some ⟨g2, 0, none⟩) m c2)))
    (ri : get rows i = some (true, .blob (OwnS e sz g n1 cap1 xs))) (rj : get rows j = some (true, .blob (OwnS e sz g2 m c2 ys)))
    (h63 : n1 + m ≤ maxLen) (hbytes : (n1 + m) * inf.bytes ≤ 140737488355328) (h1 : ∀ u ∈ ys, u.oneCell' = true) (hno : (mentF i fr || mentR i rows) = false) (hni : C.w0.n0 ≤ i)
    (h : ∀ g' cap', K ⟨(d, .any (.slice (some ⟨g', 0, none⟩) (n1 + m) cap')) :: fr, (i, true, .blob (OwnS e sz g' (n1 + m) cap' (xs ++ ys))) :: rows, nx, n⟩) :
    OpX C ⟨some d, .call ⟨.builtin .append, ⟨[x, y]⟩, ⟨[t, t]⟩⟩, ty, pos, after, gd⟩ ⟨fr, rows, nx, n⟩ K := by
  unfold OpX
  intro β a w hs next Q hnn0
  have hm := hs.mem
  obtain ⟨qi, -, qi3, qi4⟩ := hm.row i _ _ ri
  obtain ⟨qj, -, qj3, -⟩ := hm.row j _ _ rj
  have qi3 : i < nx := qi3
  have hown := OwnS.owns qi.2 (qi4 rfl)
  have hg : β i = g := qi.2.1
  have hnews := OwnS.cell qj.2
  have hml : ys.length = m * sz := by obtain ⟨-, cur, -, -, -, -, -, h6⟩ := qj.2; exact h6
  obtain ⟨v', w', hr, h2, h3, h4, h5⟩ := run_append_own_at (P := C.P) w C.base t ty e inf z sz inf.bytes ht hi hz hsize rfl hzs h0 _ n1 xs hown ⟨g2, 0, none⟩ m c2 ys hml hnews h1 h63 hbytes hm.base_le
  have hnn : ¬ v' = .slice none 0 0 := fun e0 => by have := (h4.1 e0).1; cases this
  obtain ⟨hlen, hor⟩ := h2
  rcases hor with ⟨e0, e1⟩ | ⟨g', cap', cur, rfl, hb', hc', hn', hm', hs', ht'⟩
  · exact absurd e0 hnn
  have hblk : g' = g ∨ g' = w.heap.size := by simpa [Value.ownBlock] using h5
  unfold Oper.wp
  have e1 := (ev_sound hs hx).1
  have e2 := (ev_sound hs hy).1
  have hrun : (execOp a.eval ⟨some d, .call ⟨.builtin .append, ⟨[x, y]⟩, ⟨[t, t]⟩⟩, ty, pos, after, gd⟩).run C.P w = .ok (.value (.slice (some ⟨g', 0, none⟩) (n1 + m) cap')) w' := by
    unfold execOp
    simp only [resolve, invoke, builtin, Sem.run_bind, Sem.run_pure, Result.andThen_ok, List.map_toArray, List.map_cons, List.map_nil, e1, e2, SV.den, hr]
  rw [hrun]
  have hgs : g < w.heap.size := by rw [← hg]; exact qi.1
  have hsz' : g' < w'.heap.size := by
    rcases Nat.lt_or_ge g' w'.heap.size with h0 | h0
    · exact h0
    · rw [Array.getElem?_eq_none h0] at hc'; cases hc'
  have hbg : C.base ≤ g := by rw [← hg]; exact qi4 rfl
  simp only [Bool.or_eq_false_iff] at hno
  have hβ : ∀ q, q ≠ i → (fun q => if q = i then g' else β q) q = β q := fun q hq => by dsimp only; rw [if_neg hq]
  have hapart : ∀ q o r, get rows q = some (o, r) → q ≠ i → β q ≠ g := fun q o r hq hne => by rw [← hg]; exact hm.inj i q _ o r ri hq hne
  have hother : ∀ p o r', get rows p = some (o, r') → p ≠ i → β p ≠ g' := fun p o r' hp hpi => by
    rcases hblk with e0 | e0
    · rw [e0]; exact hapart p o r' hp hpi
    · have := hm.lt p (hm.row p o r' hp).2.2.1; omega
  have hs2 : Sat C.base C.w0 ⟨fr, (i, true, .blob (OwnS e sz g' (n1 + m) cap' (xs ++ ys))) :: rows, nx, n⟩ (fun q => if q = i then g' else β q) a w' := by
    refine ⟨hs.defers, hs.size, fun s v hv => ?_, ⟨hm.below.os ▸ h3.os, hm.below.tape ▸ h3.tape, hm.below.output ▸ h3.output, Nat.le_trans hm.below.size h3.size, fun q hq => ?_⟩, Nat.le_trans hm.base_le h3.size, fun q o r hq => ?_, fun q hq => ?_, fun q p r o r' hq hp hpq => ?_, hm.n0, fun q hq => ?_⟩
    · obtain ⟨k1, k2⟩ := hs.slot s v hv
      exact ⟨by rw [k1, ment_den hβ v (mentF_get fr hno.1 hv)], k2⟩
    · rw [h3.block q (Nat.lt_of_lt_of_le hq hm.base_le) (by simp [Value.ownBlock]; omega)]; exact hm.below.block q hq
    · rw [get_cons] at hq
      by_cases e0 : i = q
      · rw [if_pos e0] at hq
        cases hq
        subst e0
        dsimp only
        rw [if_pos rfl]
        exact ⟨⟨hsz', rfl, cur, hc', hn', hm', hs', ht', hlen⟩, trivial, qi3, fun _ => hb'⟩
      · rw [if_neg e0] at hq
        obtain ⟨k1, k2, k3, k4⟩ := hm.row q o r hq
        have hqi : q ≠ i := fun e => e0 e.symm
        dsimp only
        rw [if_neg hqi]
        have k5 := RowIs_block (h3.block _ (hm.lt q k3) (by simp [Value.ownBlock]; exact hapart q o r hq hqi)) h3.size k1
        refine ⟨?_, k2, k3, k4⟩
        cases r with
        | cells t' cs => simp only [RowIs] at k5 ⊢; rw [ments_den hβ cs (mentR_get rows hno.2 hq)]; exact k5
        | blob Φ => exact k5
    · have hq : q < nx := hq
      by_cases e0 : q = i
      · rw [if_pos e0]; exact hsz'
      · rw [if_neg e0]; exact Nat.lt_of_lt_of_le (hm.lt q hq) h3.size
    · rw [get_cons] at hq hp
      by_cases e0 : i = q
      · rw [if_neg (by omega)] at hp
        rw [if_pos e0.symm, if_neg (by omega)]
        exact hother p o r' hp (by omega)
      · rw [if_neg e0] at hq
        rw [if_neg (by omega : ¬ q = i)]
        by_cases e2 : i = p
        · rw [if_pos e2.symm]; exact fun e3 => hother q _ _ hq (by omega) e3.symm
        · rw [if_neg e2] at hp
          rw [if_neg (by omega)]
          exact hm.inj q p r o r' hq hp hpq
    · rw [if_neg (by omega)]; exact hm.ext q hq
  have hs3 := hs2.put (d := d) (by simpa [Nat.blt_eq] using hd) (v := .any (.slice (some ⟨g', 0, none⟩) (n1 + m) cap')) rfl
  exact hnn0 _ _ _ _ (h g' cap') hs3
/-- the first append, to no slice at all -/
theorem opx_append0 {C : Ctx} {d : Nat} {ty : TypeId} {pos : String} {after : Array Edge} {gd : Option (Nat × Bool)} {fr : List (Nat × SV)} {rows : List (Nat × Bool × SRow)} {nx n : Nat} {K : St → Prop}
    {x y : Operand} {t e : TypeId} {sz : Nat} (j : Nat) {g2 m c2 : Nat} {ys : List Value} {inf : TypeInfo} {z : Value} (hd : Nat.blt d n = true)
    (ht : C.P.underlying t = some (.slice e)) (hi : C.P.info? e = some inf) (hz : inf.zero = some z) (hsize : inf.size = sz) (hzs : z.cells.size = sz) (h0 : 0 < sz)
    (hx : ev fr x = some (.any (.slice none 0 0))) (hy : ev fr y = some (.any (.slice (some ⟨g2, 0, none⟩) m c2)))
    (rj : get rows j = some (true, .blob (OwnS e sz g2 m c2 ys)))
    (h63 : m ≤ maxLen) (hbytes : m * inf.bytes ≤ 140737488355328) (h1 : ∀ u ∈ ys, u.oneCell' = true) (hm0 : 0 < m)
    (h : ∀ g' cap', K ⟨(d, .any (.slice (some ⟨g', 0, none⟩) m cap')) :: fr, (nx, true, .blob (OwnS e sz g' m cap' ys)) :: rows, nx + 1, n⟩) :
    OpX C ⟨some d, .call ⟨.builtin .append, ⟨[x, y]⟩, ⟨[t, t]⟩⟩, ty, pos, after, gd⟩ ⟨fr, rows, nx, n⟩ K := by
  unfold OpX
  intro β a w hs next Q hnn0
  have hm := hs.mem
  obtain ⟨qj, -, qj3, -⟩ := hm.row j _ _ rj
  have hnews := OwnS.cell qj.2
  have hml : ys.length = m * sz := by obtain ⟨-, cur, -, -, -, -, -, h6⟩ := qj.2; exact h6
  obtain ⟨v', w', hr, h2, h3, h4, h5⟩ := run_append_own_at (P := C.P) w C.base t ty e inf z sz inf.bytes ht hi hz hsize rfl hzs h0 _ 0 [] (owns_nil w C.base e sz) ⟨g2, 0, none⟩ m c2 ys hml hnews h1 (by omega) (by rw [Nat.zero_add]; exact hbytes) hm.base_le
  have hnn : ¬ v' = .slice none 0 0 := fun e0 => by have := (h4.1 e0).2; omega
  obtain ⟨hlen, hor⟩ := h2
  rcases hor with ⟨e0, e1⟩ | ⟨g', cap', cur, rfl, hb', hc', hn', hm', hs', ht'⟩
  · exact absurd e0 hnn
  have hblk : g' = w.heap.size := by simpa [Value.ownBlock] using h5
  unfold Oper.wp
  have e1 := (ev_sound hs hx).1
  have e2 := (ev_sound hs hy).1
  have hrun : (execOp a.eval ⟨some d, .call ⟨.builtin .append, ⟨[x, y]⟩, ⟨[t, t]⟩⟩, ty, pos, after, gd⟩).run C.P w = .ok (.value (.slice (some ⟨g', 0, none⟩) (0 + m) cap')) w' := by
    unfold execOp
    simp only [resolve, invoke, builtin, Sem.run_bind, Sem.run_pure, Result.andThen_ok, List.map_toArray, List.map_cons, List.map_nil, e1, e2, SV.den, hr]
  rw [hrun]
  simp only [Nat.zero_add, List.nil_append] at *
  have hsz' : g' < w'.heap.size := by
    rcases Nat.lt_or_ge g' w'.heap.size with h0 | h0
    · exact h0
    · rw [Array.getElem?_eq_none h0] at hc'; cases hc'
  have hbel : Below w.heap.size w w' := ⟨h3.os, h3.tape, h3.output, h3.size, fun k hk => h3.block k hk (by simp [Value.ownBlock])⟩
  have hs' : Sat C.base C.w0 ⟨fr, rows, nx, n⟩ β a w' := ⟨hs.defers, hs.size, hs.slot, hm.belowNext hbel⟩
  have hs2 := hs'.learn (o := true) (b := g') (Φ := OwnS e sz g' m cap' ys) hsz' ⟨rfl, cur, hc', hn', hm', by assumption, ht', hlen⟩ (fun _ => ⟨hb', fun i o' r hi => by have := hm.lt i (hm.row i o' r hi).2.2.1; omega⟩) (fun i r hi => by have := hm.lt i (hm.row i true r hi).2.2.1; omega)
  have hs3 := hs2.put (d := d) (by simpa [Nat.blt_eq] using hd) (v := .any (.slice (some ⟨g', 0, none⟩) m cap')) rfl
  exact hnn0 _ _ _ _ (h g' cap') hs3
end Sym
end Go.Proofs.YtfodbfbljeeojaaGreatDoor
namespace Go.Proofs.YtfodbfbljeeojaaGreatDoor
open Go.RowKit
namespace Sym
end Sym
end Go.Proofs.YtfodbfbljeeojaaGreatDoor
namespace Go.Proofs.YtfodbfbljeeojaaGreatDoor
open Go.RowKit
namespace Sym
end Sym
end Go.Proofs.YtfodbfbljeeojaaGreatDoor
