/- A walk that reckons: what is known of one block is told of a The table of types. (by a tool) -/
import Derived.Test.YtdkhkfdenlabaaaGreatDoorLGE
import Derived.Test.YtdkhkfdenlabaaaGreatDoorLGA
set_option linter.unusedSimpArgs false
set_option linter.unusedVariables false
set_option maxRecDepth 100000
set_option maxHeartbeats 64000000
namespace Go.Proofs.YtdkhkfdenlabaaaGreatDoor
open Go.RowKit
namespace Sym
open ExP (nd)
theorem Sat.copy {base : Nat} {w0 : Base} {β : Nat → Nat} {a : Act} {w : World} {fr : List (Nat × SV)} {rows : List (Nat × Bool × SRow)} {nx n : Nat} (i j : Nat) {Φ : Nat → Option Obj → Prop} (hs : Sat base w0 ⟨fr, rows, nx, n⟩ β a w) (hj : get rows j = some (false, .blob Φ)) (hi : i < nx) (hij : i ≠ j) (hn0 : w0.n0 ≤ i)
  (hno : (mentF i fr || mentR i rows) = false) : Sat base w0 ⟨fr, (i, false, .blob Φ) :: rows, nx, n⟩ (fun q => if q = i then β j else β q) a w := by
 obtain ⟨h1, h2, h3, h4⟩ := hs
 simp only [Bool.or_eq_false_iff] at hno
 have hβ : ∀ q, q ≠ i → (fun q => if q = i then β j else β q) q = β q := fun q hq => by dsimp only; rw [if_neg hq]
 obtain ⟨k1, -, k3, -⟩ := h4.row j _ _ hj
 refine ⟨h1, h2, fun s v hv => ?_, ?_⟩
 ·obtain ⟨e1, e2⟩ := h3 s v hv
  exact ⟨by rw [e1, ment_den hβ v (mentF_get fr hno.1 hv)], e2⟩
 refine ⟨h4.below, h4.base_le, fun q o r hq => ?_, fun q hq => ?_, fun q p r o r' hq hp hpq => ?_, h4.n0, fun q hq => ?_⟩
 ·rw [get_cons] at hq
  by_cases e : i = q
  ·rw [if_pos e] at hq
   cases hq
   subst e
   try dsimp only
   rw [if_pos rfl]
   exact ⟨k1, trivial, hi, fun e => by cases e⟩
  ·rw [if_neg e] at hq
   obtain ⟨m1, m2, m3, m4⟩ := h4.row q o r hq
   try dsimp only
   rw [if_neg (fun e' => e e'.symm)]
   refine ⟨?_, m2, m3, m4⟩
   cases r with
   | cells t cs => simp only [RowIs] at m1 ⊢; rw [ments_den hβ cs (mentR_get rows hno.2 hq)]; exact m1
   | blob Φ => exact m1
 ·have hq : q < nx := hq
  try dsimp only
  split
  ·exact h4.lt j k3
  ·exact h4.lt q hq
 ·rw [get_cons] at hq hp
  by_cases e : i = q
  ·rw [if_pos e] at hq; cases hq
  ·rw [if_neg e] at hq
   have e' : ¬ q = i := fun e' => e e'.symm
   try dsimp only
   rw [if_neg e']
   by_cases e2 : i = p
   ·rw [if_pos e2.symm]
    refine h4.inj q j r false _ hq hj (fun e3 => ?_)
    subst e3
    rw [hj] at hq; cases hq
   ·rw [if_neg e2] at hp
    have e4 : ¬ p = i := fun e' => e2 e'.symm
    rw [if_neg e4]
    exact h4.inj q p r o r' hq hp hpq
 ·have hq : q < w0.n0 := hq
  try dsimp only
  rw [if_neg (by omega)]; exact h4.ext q hq
theorem back_copy {C : Ctx} {I : Act → World → Prop} {fr : List (Nat × SV)} {rows : List (Nat × Bool × SRow)} {nx n : Nat} (i j : Nat) {Φ : Nat → Option Obj → Prop} (hj : get rows j = some (false, .blob Φ)) (hi : Nat.blt i nx = true) (hij : Nat.beq i j = false) (hn0 : C.w0.n0 ≤ i)
  (hno : (mentF i fr || mentR i rows) = false) (h : BackN C I ⟨fr, (i, false, .blob Φ) :: rows, nx, n⟩) : BackN C I ⟨fr, rows, nx, n⟩ := by
 unfold BackN at h ⊢
 intro β a w hs
 exact h _ a w (hs.copy i j hj (by simpa [Nat.blt_eq] using hi) (Nat.ne_of_beq_eq_false hij) hn0 hno)
theorem loop_learnA {C : Ctx} {c : Code} {k : List It} {fr : List (Nat × SV)} {rows : List (Nat × Bool × SRow)} {nx n : Nat} (a : Option Addr) (xs : List Value) (h0 : 0 < C.base) (hb : C.base = C.w0.w.heap.size) (hA : SlAt a xs C.w0.w)
  (h : LoopN C c k ⟨fr, (nx, false, .blob (SlB a xs)) :: rows, nx + 1, n⟩) : LoopN C c k ⟨fr, rows, nx, n⟩ := by
 unfold LoopN at h ⊢
 intro β act w hs
 have hm := hs.mem
 have hbl : Below C.w0.w.heap.size C.w0.w w := by rw [← hb]; exact hm.below
 have hex : ∃ b, b < C.base ∧ SlB a xs b w.heap[b]? := by
  cases xs with
  | nil => exact ⟨0, h0, fun _ _ i v hi => by simp at hi⟩
  | cons x r =>
    obtain ⟨ad, e, h1, _⟩ := hA 0 x rfl
    refine ⟨ad.block, by omega, fun W hW i v hi => ?_⟩
    obtain ⟨ad', e', h2, h3⟩ := (hA.below hbl) i v hi
    rw [e] at e'
    cases e'
    exact ⟨ad, e, rfl, by rw [World.cell?_of_block (w := w) (by rw [add_block]; exact hW)]; exact h3⟩
 obtain ⟨b, hb1, hb2⟩ := hex
 have hbl2 := hm.base_le
 exact h _ _ _ (hs.learn (o := false) (b := b) (Φ := SlB a xs) (by omega) hb2 (fun e => by cases e) (fun i r hi => by
  have := (hm.row i true r hi).2.2.2 rfl
  omega))
theorem Mem.slB {base : Nat} {w0 : Base} {rows : List (Nat × Bool × SRow)} {nx : Nat} {β : Nat → Nat} {w : World} (hm : Mem base w0 rows nx β w) (j : Nat) {o : Bool} {a : Option Addr} {xs : List Value} (hj : get rows j = some (o, .blob (SlB a xs))) : SlAt a xs w :=
 (hm.row j _ _ hj).1.2.at (hm.row j _ _ hj).1.1
def NatAny (L : List (Option Addr)) (k : IntKind) (b x : Nat) (w : World) (e : Ending) (w' : World) : Prop :=
 ∃ a cap, e = .returned (.slice a (nd b x) cap) ∧ SlAt a (nv k b x) w' ∧ (FreshX a (nv k b x) w ∨ a ∈ L) ∧ (a = none → cap = 0) ∧ nd b x ≤ cap ∧ Below w.heap.size w w'
def ApartL (C : Ctx) (L : List (Option Addr)) (rows : List (Nat × Bool × SRow)) (nx : Nat) : Prop := ∀ β w, Mem C.base C.w0 rows nx β w → ∀ ad, some ad ∈ L → ∀ i r, get rows i = some (true, r) → β i ≠ ad.block
theorem callNatL {C : Ctx} {d : Nat} {f : FuncId} {args : List SV} {fr : List (Nat × SV)} {rows : List (Nat × Bool × SRow)} {nx n : Nat} {K : St → Prop} (L : List (Option Addr)) (k : IntKind) (b x : Nat) (h0 : 0 < C.base)
  (he : entersB C.P f = true) (hd : Nat.blt d n = true) (hL : ApartL C L rows nx) (hc : ∀ β w, Mem C.base C.w0 rows nx β w → Calls C.P f (SV.dens β args).toArray w (NatAny L k b x w))
  (h : ∀ a cap, (a = none → cap = 0) → nd b x ≤ cap → (0 < nd b x → ∃ ad, a = some ad) → K ⟨(d, .any (.slice a (nd b x) cap)) :: fr, (nx, false, .blob (SlB a (nv k b x))) :: rows, nx + 1, n⟩) : CallX C (some d) f args ⟨fr, rows, nx, n⟩ K := by
 unfold CallX
 refine ⟨he, fun β act w hs => (hc β w hs.mem).mono ?_⟩
 rintro e w' ⟨a, cap, rfl, hsl, hfr, hn, hcap, hb⟩
 have hm := hs.mem
 have hs' : Sat C.base C.w0 ⟨fr, rows, nx, n⟩ β act w' := ⟨hs.defers, hs.size, hs.slot, hm.belowNext hb⟩
 have hbs := hb.size
 have hbl := hm.base_le
 have hex : ∃ q, q < w'.heap.size ∧ SlB a (nv k b x) q w'.heap[q]? ∧ ∀ i r, get rows i = some (true, r) → β i ≠ q := by
  have hsl0 := hsl
  generalize nv k b x = xs at hsl hsl0 hfr
  cases xs with
  | nil => exact ⟨0, by omega, fun _ _ i v hi => by simp at hi, fun i r hi => by have := (hm.row i true r hi).2.2.2 rfl; omega⟩
  | cons y r =>
    obtain ⟨ad, e, h1, _⟩ := hsl 0 y rfl
    refine ⟨ad.block, h1, fun W hW i v hi => ?_, fun i r hi => ?_⟩
    ·obtain ⟨ad', e', h2, h3⟩ := hsl i v hi
     rw [e] at e'
     cases e'
     exact ⟨ad, e, rfl, by rw [World.cell?_of_block (w := w') (by rw [add_block]; exact hW)]; exact h3⟩
    ·rcases hfr with hfr | hfr
     ·have := hfr (by simp) ad e
      have := hm.lt i (hm.row i true r hi).2.2.1
      omega
     ·exact hL β w hm ad (by rw [← e]; exact hfr) i r hi
 obtain ⟨q, h2, h3, h4⟩ := hex
 have hs2 := hs'.learn (o := false) h2 h3 (fun e => by cases e) h4
 have hs3 := hs2.put (d := d) (by simpa [Nat.blt_eq] using hd) (v := .any (.slice a (nd b x) cap)) rfl
 exact ⟨_, _, _, rfl, h a cap hn hcap (fun hx => hsl.some (nv_ne hx)), hs3⟩
theorem Sat.share {base : Nat} {w0 : Base} {β : Nat → Nat} {a : Act} {w : World} {fr : List (Nat × SV)} {rows : List (Nat × Bool × SRow)} {nx n : Nat} (i : Nat) {e : TypeId} {sz g m cap : Nat} {xs ys : List Value} (hs : Sat base w0 ⟨fr, rows, nx, n⟩ β a w) (hi : get rows i = some (true, .blob (OwnS e sz g m cap xs)))
  (hp : ∀ (j : Nat) (v : Value), ys[j]? = some v → xs[j]? = some v) : Sat base w0 ⟨fr, (i, false, .blob (SlF base (some ⟨g, 0, none⟩) ys)) :: rows, nx, n⟩ β a w := by
 obtain ⟨h1, h2, h3, h4⟩ := hs
 obtain ⟨k1, -, k3, k4⟩ := h4.row i _ _ hi
 refine ⟨h1, h2, h3, ⟨h4.below, h4.base_le, fun q o r hq => ?_, h4.lt, fun q p r o r' hq hp' hpq => ?_, h4.n0, h4.ext⟩⟩
 ·rw [get_cons] at hq
  by_cases e0 : i = q
  ·rw [if_pos e0] at hq
   cases hq
   subst e0
   refine ⟨⟨k1.1, fun W hW j v hj => ?_, fun _ => k4 rfl⟩, trivial, k3, fun e => by cases e⟩
   have hg : β i = g := k1.2.1
   have ho : OwnS e sz g m cap xs (β i) W.heap[β i]? := by rw [hW]; exact k1.2
   exact ⟨_, rfl, hg.symm, ho.cell j v (hp j v hj)⟩
  ·rw [if_neg e0] at hq
   exact h4.row q o r hq
 ·have hq' : get rows q = some (true, r) := by
   rw [get_cons] at hq
   by_cases e0 : i = q
   ·rw [if_pos e0] at hq; cases hq
   ·rw [if_neg e0] at hq; exact hq
  have hp2 : ∃ o1 r1, get rows p = some (o1, r1) := by
   rw [get_cons] at hp'
   by_cases e0 : i = p
   ·subst e0; exact ⟨_, _, hi⟩
   ·rw [if_neg e0] at hp'; exact ⟨_, _, hp'⟩
  obtain ⟨o1, r1, hp2⟩ := hp2
  exact h4.inj q p r o1 r1 hq' hp2 hpq
theorem loop_share {C : Ctx} {c : Code} {k : List It} {fr : List (Nat × SV)} {rows : List (Nat × Bool × SRow)} {nx n : Nat} (i : Nat) {e : TypeId} {sz g m cap : Nat} {xs : List Value} (ys : List Value) (hi : get rows i = some (true, .blob (OwnS e sz g m cap xs)))
  (hp : ∀ (j : Nat) (v : Value), ys[j]? = some v → xs[j]? = some v) (h : m ≤ cap → LoopN C c k ⟨fr, (i, false, .blob (SlF C.base (some ⟨g, 0, none⟩) ys)) :: rows, nx, n⟩) : LoopN C c k ⟨fr, rows, nx, n⟩ := by
 unfold LoopN at h ⊢
 intro β a w hs
 have hc : m ≤ cap := by
  obtain ⟨h1, -⟩ := hs.mem.row i _ _ hi
  obtain ⟨-, cur, -, h, -⟩ := h1.2
  exact h
 exact h hc β a w (hs.share i hi hp)
theorem fresh_or {k : IntKind} {b x : Nat} {a : Option Addr} {L : List (Option Addr)} {w : World} (h : 0 < x → a ∈ L) : FreshX a (nv k b x) w ∨ a ∈ L := by
 rcases Nat.eq_zero_or_pos x with rfl | h0
 ·exact .inl fun hne => absurd (List.eq_nil_of_length_eq_zero (by rw [nv_len, ExP.nd_zero])) hne
 ·exact .inr (h h0)
theorem slL_or {k : IntKind} {b x : Nat} {a : Option Addr} {L : List (Option Addr)} {base q : Nat} (h : 0 < x → a ∈ L) : (nv k b x ≠ [] → base ≤ q) ∨ a ∈ L := by
 rcases Nat.eq_zero_or_pos x with rfl | h0
 ·exact .inl fun hne => absurd (List.eq_nil_of_length_eq_zero (by rw [nv_len, ExP.nd_zero])) hne
 ·exact .inr (h h0)
def Lz (x : Nat) (a : Option Addr) (L : List (Option Addr)) : List (Option Addr) := if x = 0 then L else a :: L
theorem Lz_in {x : Nat} {a : Option Addr} {L : List (Option Addr)} (h : 0 < x) : a ∈ Lz x a L := by unfold Lz; rw [if_neg (by omega)]; simp
theorem Lz_mem {x : Nat} {a c : Option Addr} {L : List (Option Addr)} (h : c ∈ L) : c ∈ Lz x a L := by unfold Lz; split <;> simp [h]
theorem apart_nil {C : Ctx} {rows : List (Nat × Bool × SRow)} {nx : Nat} : ApartL C [] rows nx := fun _ _ _ _ h => by cases h
theorem apart_row {C : Ctx} {L : List (Option Addr)} {rows : List (Nat × Bool × SRow)} {nx : Nat} {a : Option Addr} {k : IntKind} {b x bs : Nat} (j : Nat) (hb : 2 ≤ b) (hj : get rows j = some (false, .blob (SlF bs a (nv k b x)))) (h : ApartL C L rows nx) : ApartL C (Lz x a L) rows nx := by
 intro β w hm ad hL i r hi
 unfold Lz at hL
 split at hL
 ·exact h β w hm ad hL i r hi
 rename_i hx
 rcases List.mem_cons.1 hL with e | hL
 ·subst e
  obtain ⟨ad', e1, e2, -⟩ := (hm.row j _ _ hj).1.2.1 w rfl 0 _ (nv_get ((ExP.nd_pos hb).2 (Nat.pos_of_ne_zero hx)))
  cases e1
  rw [e2]
  refine fun e3 => hm.inj i j r _ _ hi hj (fun e => ?_) e3.symm
  subst e
  rw [hi] at hj
  cases hj
 ·exact h β w hm ad hL i r hi
theorem apart_old {C : Ctx} {L : List (Option Addr)} {rows : List (Nat × Bool × SRow)} {nx : Nat} {a : Option Addr} {k : IntKind} {b x : Nat} {w0 : World} (hb : 2 ≤ b) (hs : SlAt a (nv k b x) w0) (e : w0.heap.size = C.base) (h : ApartL C L rows nx) : ApartL C (Lz x a L) rows nx := by
 intro β w hm ad hL i r hi
 unfold Lz at hL
 split at hL
 ·exact h β w hm ad hL i r hi
 rename_i hx
 rcases List.mem_cons.1 hL with e1 | hL
 ·subst e1
  obtain ⟨ad', e1, e2, -⟩ := hs 0 _ (nv_get ((ExP.nd_pos hb).2 (Nat.pos_of_ne_zero hx)))
  cases e1
  have := (hm.row i true r hi).2.2.2 rfl
  omega
 ·exact h β w hm ad hL i r hi
end Sym
end Go.Proofs.YtdkhkfdenlabaaaGreatDoor
namespace Go.Proofs.YtdkhkfdenlabaaaGreatDoor
open Go.RowKit
namespace Sym
def env : Env := [(1, ⟨.other, 1, false, [.any (Go.Value.nilFunc)]⟩),
 (2, ⟨.int .i64, 1, false, [.int .i64 0]⟩),
 (3, ⟨.int .i64, 1, false, [.int .i64 0]⟩),
 (4, ⟨.bool, 1, false, [.lit false]⟩),
 (5, ⟨.int .u8, 1, false, [.int .u8 0]⟩),
 (6, ⟨.int .u8, 1, false, [.int .u8 0]⟩),
 (7, ⟨.struct [(0, 2), (1, 3), (2, 4), (3, 6)], 4, true, [.int .i64 0, .int .i64 0, .lit false, .int .u8 0]⟩),
 (8, ⟨.struct [(0, 2), (1, 3), (2, 4), (3, 6)], 4, true, [.int .i64 0, .int .i64 0, .lit false, .int .u8 0]⟩),
 (9, ⟨.str, 1, false, [.str []]⟩),
 (10, ⟨.str, 1, false, [.str []]⟩),
 (11, ⟨.str, 1, false, [.str []]⟩),
 (12, ⟨.int .u64, 1, false, [.int .u64 0]⟩),
 (13, ⟨.struct [(0, 9), (1, 12)], 2, true, [.str [], .int .u64 0]⟩),
 (14, ⟨.struct [(0, 9), (1, 12)], 2, true, [.str [], .int .u64 0]⟩),
 (15, ⟨.other, 1, false, [.any (Go.Value.pointer none)]⟩),
 (16, ⟨.other, 1, false, [.any (Go.Value.pointer none)]⟩),
 (17, ⟨.other, 1, false, [.any (Go.Value.pointer none)]⟩),
 (18, ⟨.struct [(0, 17)], 1, true, [.any (Go.Value.pointer none)]⟩),
 (19, ⟨.struct [(0, 17)], 1, true, [.any (Go.Value.pointer none)]⟩),
 (20, ⟨.other, 1, false, [.any (Go.Value.nilIface)]⟩),
 (21, ⟨.int .i32, 1, false, [.int .i32 0]⟩),
 (22, ⟨.other, 1, false, [.any (Go.Value.nilFunc)]⟩),
 (23, ⟨.other, 1, false, [.any (Go.Value.nilFunc)]⟩),
 (24, ⟨.struct [(0, 9), (1, 9)], 2, true, [.str [], .str []]⟩),
 (25, ⟨.struct [(0, 9), (1, 9)], 2, true, [.str [], .str []]⟩),
 (26, ⟨.slice 28, 1, false, [.any (Go.Value.slice none 0 0)]⟩),
 (27, ⟨.struct [(0, 3), (1, 25), (3, 9), (4, 4), (5, 3), (6, 3), (7, 3), (8, 26)], 9, true, [.int .i64 0, .str [], .str [], .str [], .lit false, .int .i64 0, .int .i64 0, .int .i64 0, .any (Go.Value.slice none 0 0)]⟩),
 (28, ⟨.struct [(0, 3), (1, 25), (3, 9), (4, 4), (5, 3), (6, 3), (7, 3), (8, 26)], 9, true, [.int .i64 0, .str [], .str [], .str [], .lit false, .int .i64 0, .int .i64 0, .int .i64 0, .any (Go.Value.slice none 0 0)]⟩),
 (29, ⟨.other, 1, false, [.any (Go.Value.nilFunc)]⟩),
 (30, ⟨.other, 1, false, [.any (Go.Value.nilFunc)]⟩),
 (31, ⟨.int .i64, 1, false, [.int .i64 0]⟩),
 (32, ⟨.other, 1, false, [.any (Go.Value.nilFunc)]⟩),
 (34, ⟨.other, 1, false, [.any (Go.Value.nilFunc)]⟩),
 (35, ⟨.other, 1, false, [.any (Go.Value.nilFunc)]⟩),
 (36, ⟨.other, 1, false, [.any (Go.Value.nilFunc)]⟩),
 (37, ⟨.other, 1, false, [.any (Go.Value.nilFunc)]⟩),
 (38, ⟨.other, 1, false, [.any (Go.Value.nilFunc)]⟩),
 (39, ⟨.other, 1, false, [.any (Go.Value.nilFunc)]⟩),
 (40, ⟨.other, 1, false, [.any (Go.Value.nilFunc)]⟩),
 (42, ⟨.other, 1, false, [.any (Go.Value.nilFunc)]⟩),
 (43, ⟨.other, 1, false, [.any (Go.Value.nilFunc)]⟩),
 (45, ⟨.other, 1, false, [.any (Go.Value.nilFunc)]⟩),
 (47, ⟨.other, 1, false, [.any (Go.Value.nilFunc)]⟩),
 (48, ⟨.other, 1, false, [.any (Go.Value.nilFunc)]⟩),
 (50, ⟨.other, 1, false, [.any (Go.Value.nilFunc)]⟩),
 (51, ⟨.other, 1, false, [.any (Go.Value.nilFunc)]⟩),
 (52, ⟨.other, 1, false, [.any (Go.Value.nilFunc)]⟩),
 (53, ⟨.other, 1, false, [.any (Go.Value.nilFunc)]⟩),
 (54, ⟨.other, 1, false, [.any (Go.Value.nilFunc)]⟩),
 (55, ⟨.other, 1, false, [.any (Go.Value.nilFunc)]⟩),
 (56, ⟨.other, 1, false, [.any (Go.Value.nilFunc)]⟩),
 (57, ⟨.other, 1, false, [.any (Go.Value.nilFunc)]⟩),
 (58, ⟨.other, 1, false, [.any (Go.Value.nilFunc)]⟩),
 (60, ⟨.other, 1, false, [.any (Go.Value.nilFunc)]⟩),
 (61, ⟨.other, 1, false, [.any (Go.Value.nilFunc)]⟩),
 (63, ⟨.other, 1, false, [.any (Go.Value.nilFunc)]⟩),
 (64, ⟨.other, 1, false, [.any (Go.Value.nilFunc)]⟩),
 (66, ⟨.other, 1, false, [.any (Go.Value.nilFunc)]⟩),
 (68, ⟨.other, 1, false, [.any (Go.Value.nilFunc)]⟩),
 (69, ⟨.slice 3, 1, false, [.any (Go.Value.slice none 0 0)]⟩),
 (70, ⟨.slice 3, 1, false, [.any (Go.Value.slice none 0 0)]⟩),
 (71, ⟨.struct [(0, 4), (1, 70), (2, 70)], 3, true, [.lit false, .any (Go.Value.slice none 0 0), .any (Go.Value.slice none 0 0)]⟩),
 (72, ⟨.struct [(0, 4), (1, 70), (2, 70)], 3, true, [.lit false, .any (Go.Value.slice none 0 0), .any (Go.Value.slice none 0 0)]⟩),
 (74, ⟨.other, 1, false, [.any (Go.Value.nilFunc)]⟩),
 (75, ⟨.other, 1, false, [.any (Go.Value.nilFunc)]⟩),
 (76, ⟨.other, 1, false, [.any (Go.Value.nilFunc)]⟩),
 (77, ⟨.other, 1, false, [.any (Go.Value.nilFunc)]⟩),
 (79, ⟨.other, 1, false, [.any (Go.Value.nilFunc)]⟩),
 (80, ⟨.other, 1, false, [.any (Go.Value.nilFunc)]⟩),
 (81, ⟨.other, 9, true, [.str [], .str [], .str [], .str [], .str [], .str [], .str [], .str [], .str []]⟩),
 (82, ⟨.other, 1, false, [.any (Go.Value.nilFunc)]⟩),
 (83, ⟨.other, 5, true, [.any (Go.Value.nilFunc), .any (Go.Value.nilFunc), .any (Go.Value.nilFunc), .any (Go.Value.nilFunc), .any (Go.Value.nilFunc)]⟩),
 (85, ⟨.other, 1, false, [.any (Go.Value.nilFunc)]⟩),
 (86, ⟨.other, 5, true, [.any (Go.Value.nilFunc), .any (Go.Value.nilFunc), .any (Go.Value.nilFunc), .any (Go.Value.nilFunc), .any (Go.Value.nilFunc)]⟩),
 (88, ⟨.other, 1, false, [.any (Go.Value.nilFunc)]⟩),
 (89, ⟨.other, 1, false, [.any (Go.Value.nilFunc)]⟩),
 (90, ⟨.other, 1, false, [.any (Go.Value.nilFunc)]⟩),
 (91, ⟨.other, 1, false, [.any (Go.Value.nilFunc)]⟩),
 (92, ⟨.other, 1, false, [.any (Go.Value.nilFunc)]⟩),
 (93, ⟨.other, 1, false, [.any (Go.Value.nilFunc)]⟩),
 (94, ⟨.other, 1, false, [.any (Go.Value.nilFunc)]⟩),
 (95, ⟨.other, 12, true, [.int .i64 0, .int .i64 0, .int .i64 0, .int .i64 0, .int .i64 0, .int .i64 0, .int .i64 0, .int .i64 0, .int .i64 0, .int .i64 0, .int .i64 0, .int .i64 0]⟩),
 (96, ⟨.other, 1, false, [.any (Go.Value.nilFunc)]⟩),
 (97, ⟨.other, 1, false, [.any (Go.Value.nilFunc)]⟩),
 (98, ⟨.other, 1, false, [.any (Go.Value.nilFunc)]⟩),
 (99, ⟨.other, 1, false, [.any (Go.Value.nilFunc)]⟩),
 (100, ⟨.other, 1, false, [.any (Go.Value.nilFunc)]⟩),
 (101, ⟨.other, 1, false, [.any (Go.Value.nilFunc)]⟩),
 (102, ⟨.other, 1, false, [.any (Go.Value.nilFunc)]⟩),
 (103, ⟨.other, 1, false, [.any (Go.Value.nilFunc)]⟩),
 (104, ⟨.other, 1, false, [.any (Go.Value.nilFunc)]⟩),
 (105, ⟨.other, 1, false, [.any (Go.Value.nilFunc)]⟩),
 (106, ⟨.other, 1, false, [.any (Go.Value.nilFunc)]⟩),
 (107, ⟨.other, 1, false, [.any (Go.Value.nilFunc)]⟩),
 (108, ⟨.other, 1, false, [.any (Go.Value.nilFunc)]⟩),
 (110, ⟨.other, 1, false, [.any (Go.Value.nilFunc)]⟩),
 (112, ⟨.other, 1, false, [.any (Go.Value.nilFunc)]⟩),
 (113, ⟨.slice 5, 1, false, [.any (Go.Value.slice none 0 0)]⟩),
 (115, ⟨.other, 1, false, [.any (Go.Value.nilFunc)]⟩),
 (116, ⟨.other, 1, false, [.any (Go.Value.nilFunc)]⟩),
 (117, ⟨.other, 1, false, [.any (Go.Value.nilFunc)]⟩),
 (119, ⟨.other, 1, false, [.any (Go.Value.nilFunc)]⟩),
 (120, ⟨.other, 1, false, [.any (Go.Value.nilFunc)]⟩),
 (121, ⟨.slice 9, 1, false, [.any (Go.Value.slice none 0 0)]⟩),
 (122, ⟨.other, 1, false, [.any (Go.Value.nilFunc)]⟩),
 (123, ⟨.other, 1, false, [.any (Go.Value.nilFunc)]⟩),
 (125, ⟨.other, 1, false, [.any (Go.Value.nilFunc)]⟩),
 (126, ⟨.other, 1, false, [.any (Go.Value.nilFunc)]⟩),
 (127, ⟨.other, 1, false, [.any (Go.Value.nilFunc)]⟩),
 (128, ⟨.other, 1, false, [.any (Go.Value.nilFunc)]⟩),
 (130, ⟨.other, 1, false, [.any (Go.Value.nilFunc)]⟩),
 (131, ⟨.other, 3, true, [.str [], .str [], .str []]⟩),
 (132, ⟨.other, 1, false, [.any (Go.Value.nilFunc)]⟩),
 (133, ⟨.other, 1, false, [.any (Go.Value.nilFunc)]⟩),
 (134, ⟨.other, 1, false, [.any (Go.Value.nilFunc)]⟩),
 (135, ⟨.other, 1, false, [.any (Go.Value.nilFunc)]⟩),
 (136, ⟨.slice 161, 1, false, [.any (Go.Value.slice none 0 0)]⟩),
 (137, ⟨.slice 161, 1, false, [.any (Go.Value.slice none 0 0)]⟩),
 (138, ⟨.struct [(0, 4), (1, 137), (2, 137)], 3, true, [.lit false, .any (Go.Value.slice none 0 0), .any (Go.Value.slice none 0 0)]⟩),
 (139, ⟨.struct [(0, 4), (1, 137), (2, 137)], 3, true, [.lit false, .any (Go.Value.slice none 0 0), .any (Go.Value.slice none 0 0)]⟩),
 (141, ⟨.other, 1, false, [.any (Go.Value.nilFunc)]⟩),
 (142, ⟨.other, 1, false, [.any (Go.Value.nilFunc)]⟩),
 (143, ⟨.other, 1, false, [.any (Go.Value.nilFunc)]⟩),
 (144, ⟨.other, 1, false, [.any (Go.Value.nilFunc)]⟩),
 (148, ⟨.other, 1, false, [.any (Go.Value.nilFunc)]⟩),
 (149, ⟨.other, 1, false, [.any (Go.Value.nilFunc)]⟩),
 (150, ⟨.other, 1, false, [.any (Go.Value.pointer none)]⟩),
 (152, ⟨.other, 1, false, [.any (Go.Value.nilFunc)]⟩),
 (153, ⟨.other, 1, false, [.any (Go.Value.nilFunc)]⟩),
 (154, ⟨.other, 1, false, [.any (Go.Value.nilFunc)]⟩),
 (155, ⟨.other, 1, false, [.any (Go.Value.nilFunc)]⟩),
 (156, ⟨.other, 1, false, [.any (Go.Value.nilFunc)]⟩),
 (158, ⟨.other, 1, false, [.any (Go.Value.nilFunc)]⟩),
 (159, ⟨.other, 1, false, [.any (Go.Value.nilFunc)]⟩),
 (160, ⟨.other, 1, false, [.any (Go.Value.nilFunc)]⟩),
 (161, ⟨.int .u32, 1, false, [.int .u32 0]⟩),
 (162, ⟨.other, 1, false, [.any (Go.Value.nilFunc)]⟩),
 (163, ⟨.other, 1, false, [.any (Go.Value.nilFunc)]⟩),
 (164, ⟨.other, 1, false, [.any (Go.Value.nilFunc)]⟩),
 (165, ⟨.other, 1, false, [.any (Go.Value.nilFunc)]⟩),
 (166, ⟨.other, 1, false, [.any (Go.Value.nilFunc)]⟩),
 (167, ⟨.other, 1, false, [.any (Go.Value.nilFunc)]⟩),
 (168, ⟨.other, 1, false, [.any (Go.Value.nilIface)]⟩),
 (169, ⟨.other, 1, false, [.any (Go.Value.nilIface)]⟩),
 (171, ⟨.other, 1, false, [.any (Go.Value.nilFunc)]⟩),
 (172, ⟨.int .u64, 1, false, [.int .u64 0]⟩),
 (173, ⟨.other, 1, false, [.any (Go.Value.nilFunc)]⟩),
 (174, ⟨.other, 1, false, [.any (Go.Value.nilFunc)]⟩),
 (175, ⟨.other, 1, false, [.any (Go.Value.nilFunc)]⟩),
 (176, ⟨.other, 1, false, [.any (Go.Value.nilFunc)]⟩),
 (177, ⟨.other, 1, false, [.any (Go.Value.nilFunc)]⟩),
 (179, ⟨.other, 1, false, [.any (Go.Value.nilFunc)]⟩),
 (181, ⟨.other, 1, false, [.any (Go.Value.nilFunc)]⟩),
 (182, ⟨.other, 1, false, [.any (Go.Value.nilFunc)]⟩),
 (184, ⟨.struct [(0, 5), (1, 5)], 2, true, [.int .u8 0, .int .u8 0]⟩),
 (185, ⟨.struct [(0, 5), (1, 5)], 2, true, [.int .u8 0, .int .u8 0]⟩),
 (187, ⟨.other, 1, false, [.any (Go.Value.nilFunc)]⟩),
 (188, ⟨.other, 1, false, [.any (Go.Value.nilFunc)]⟩),
 (189, ⟨.int .u64, 1, false, [.int .u64 0]⟩),
 (191, ⟨.other, 1, false, [.any (Go.Value.nilFunc)]⟩),
 (192, ⟨.other, 1, false, [.any (Go.Value.nilFunc)]⟩),
 (193, ⟨.other, 1, false, [.any (Go.Value.nilFunc)]⟩),
 (194, ⟨.other, 1, false, [.any (Go.Value.nilFunc)]⟩),
 (195, ⟨.other, 1, false, [.any (Go.Value.nilFunc)]⟩),
 (196, ⟨.other, 1, false, [.any (Go.Value.nilFunc)]⟩),
 (197, ⟨.other, 1, false, [.any (Go.Value.nilFunc)]⟩),
 (198, ⟨.other, 1, false, [.any (Go.Value.nilFunc)]⟩),
 (199, ⟨.other, 1, false, [.any (Go.Value.nilFunc)]⟩),
 (201, ⟨.other, 1, false, [.any (Go.Value.nilFunc)]⟩),
 (202, ⟨.other, 1, false, [.any (Go.Value.pointer none)]⟩),
 (203, ⟨.struct [(0, 202), (1, 113)], 2, true, [.any (Go.Value.pointer none), .any (Go.Value.slice none 0 0)]⟩),
 (204, ⟨.struct [(0, 202), (1, 113)], 2, true, [.any (Go.Value.pointer none), .any (Go.Value.slice none 0 0)]⟩),
 (205, ⟨.other, 1, false, [.any (Go.Value.nilFunc)]⟩),
 (206, ⟨.other, 1, false, [.any (Go.Value.nilFunc)]⟩),
 (207, ⟨.other, 1, false, [.any (Go.Value.nilFunc)]⟩),
 (208, ⟨.other, 1, false, [.any (Go.Value.nilFunc)]⟩),
 (209, ⟨.other, 1, false, [.any (Go.Value.nilFunc)]⟩),
 (210, ⟨.other, 1, false, [.any (Go.Value.nilFunc)]⟩),
 (211, ⟨.int .i64, 1, false, [.int .i64 0]⟩),
 (213, ⟨.other, 1, false, [.any (Go.Value.nilFunc)]⟩),
 (214, ⟨.other, 1, false, [.any (Go.Value.pointer none)]⟩),
 (215, ⟨.other, 1, false, [.any (Go.Value.nilFunc)]⟩),
 (216, ⟨.other, 1, false, [.any (Go.Value.nilFunc)]⟩),
 (218, ⟨.other, 1, false, [.any (Go.Value.nilFunc)]⟩),
 (219, ⟨.other, 1, false, [.any (Go.Value.nilFunc)]⟩),
 (221, ⟨.other, 1, false, [.any (Go.Value.nilFunc)]⟩),
 (222, ⟨.other, 1, false, [.any (Go.Value.nilFunc)]⟩),
 (224, ⟨.other, 1, false, [.any (Go.Value.nilFunc)]⟩),
 (226, ⟨.other, 1, false, [.any (Go.Value.nilFunc)]⟩),
 (227, ⟨.other, 1, false, [.any (Go.Value.pointer none)]⟩),
 (228, ⟨.other, 1, false, [.any (Go.Value.nilFunc)]⟩),
 (229, ⟨.other, 1, false, [.any (Go.Value.nilFunc)]⟩),
 (231, ⟨.other, 1, false, [.any (Go.Value.nilFunc)]⟩),
 (232, ⟨.struct [(0, 9), (1, 9), (2, 169)], 3, true, [.str [], .str [], .any (Go.Value.nilIface)]⟩),
 (233, ⟨.struct [(0, 9), (1, 9), (2, 169)], 3, true, [.str [], .str [], .any (Go.Value.nilIface)]⟩),
 (234, ⟨.other, 1, false, [.any (Go.Value.nilFunc)]⟩),
 (237, ⟨.other, 1, false, [.any (Go.Value.nilFunc)]⟩),
 (238, ⟨.other, 1, false, [.any (Go.Value.pointer none)]⟩),
 (239, ⟨.other, 1, false, [.any (Go.Value.nilFunc)]⟩),
 (240, ⟨.other, 1, false, [.any (Go.Value.nilFunc)]⟩),
 (241, ⟨.other, 1, false, [.any (Go.Value.nilFunc)]⟩),
 (242, ⟨.other, 1, false, [.any (Go.Value.pointer none)]⟩),
 (243, ⟨.struct [(0, 9)], 1, true, [.str []]⟩),
 (244, ⟨.struct [(0, 9)], 1, true, [.str []]⟩),
 (245, ⟨.other, 1, false, [.any (Go.Value.nilFunc)]⟩),
 (248, ⟨.struct [(0, 17), (1, 17), (2, 17), (3, 9)], 4, true, [.any (Go.Value.pointer none), .any (Go.Value.pointer none), .any (Go.Value.pointer none), .str []]⟩),
 (249, ⟨.struct [(0, 17), (1, 17), (2, 17), (3, 9)], 4, true, [.any (Go.Value.pointer none), .any (Go.Value.pointer none), .any (Go.Value.pointer none), .str []]⟩),
 (250, ⟨.other, 0, true, []⟩),
 (251, ⟨.struct [(0, 250)], 0, true, []⟩),
 (252, ⟨.struct [(0, 250)], 0, true, []⟩),
 (253, ⟨.int .u8, 1, false, [.int .u8 0]⟩),
 (254, ⟨.int .u8, 1, false, [.int .u8 0]⟩),
 (255, ⟨.other, 1, false, [.any (Go.Value.nilFunc)]⟩),
 (256, ⟨.int .i32, 1, false, [.int .i32 0]⟩),
 (257, ⟨.int .i32, 1, false, [.int .i32 0]⟩),
 (258, ⟨.struct [(0, 12), (1, 12), (2, 161), (3, 253), (4, 5), (5, 5), (6, 254), (7, 255), (8, 227), (9, 256), (10, 257)], 11, true, [.int .u64 0, .int .u64 0, .int .u32 0, .int .u8 0, .int .u8 0, .int .u8 0, .int .u8 0, .any (Go.Value.nilFunc), .any (Go.Value.pointer none), .int .i32 0, .int .i32 0]⟩),
 (259, ⟨.struct [(0, 12), (1, 12), (2, 161), (3, 253), (4, 5), (5, 5), (6, 254), (7, 255), (8, 227), (9, 256), (10, 257)], 11, true, [.int .u64 0, .int .u64 0, .int .u32 0, .int .u8 0, .int .u8 0, .int .u8 0, .int .u8 0, .any (Go.Value.nilFunc), .any (Go.Value.pointer none), .int .i32 0, .int .i32 0]⟩)]
theorem env_ok : EnvOK Tryz.prog env := ⟨⟨Tryz.sizeOf1, Tryz.isAgg1, fun w => ⟨_, Tryz.zeroValue1 w, fun _ => rfl, ⟨rfl, trivial⟩⟩, trivial⟩,
 ⟨Tryz.sizeOf2, Tryz.isAgg2, fun w => ⟨_, Tryz.zeroValue2 w, fun _ => rfl, ⟨trivial, trivial⟩⟩, Tryz.underlying2⟩,
 ⟨Tryz.sizeOf3, Tryz.isAgg3, fun w => ⟨_, Tryz.zeroValue3 w, fun _ => rfl, ⟨trivial, trivial⟩⟩, Tryz.underlying3⟩,
 ⟨Tryz.sizeOf4, Tryz.isAgg4, fun w => ⟨_, Tryz.zeroValue4 w, fun _ => rfl, ⟨trivial, trivial⟩⟩, Tryz.underlying4⟩,
 ⟨Tryz.sizeOf5, Tryz.isAgg5, fun w => ⟨_, Tryz.zeroValue5 w, fun _ => rfl, ⟨trivial, trivial⟩⟩, Tryz.underlying5⟩,
 ⟨Tryz.sizeOf6, Tryz.isAgg6, fun w => ⟨_, Tryz.zeroValue6 w, fun _ => rfl, ⟨trivial, trivial⟩⟩, Tryz.underlying6⟩,
 ⟨Tryz.sizeOf7, Tryz.isAgg7, fun w => ⟨_, Tryz.zeroValue7 w, fun _ => rfl, ⟨trivial, trivial, trivial, trivial, trivial⟩⟩, ⟨_, Tryz.underlying7, rfl⟩⟩,
 ⟨Tryz.sizeOf8, Tryz.isAgg8, fun w => ⟨_, Tryz.zeroValue8 w, fun _ => rfl, ⟨trivial, trivial, trivial, trivial, trivial⟩⟩, ⟨_, Tryz.underlying8, rfl⟩⟩,
 ⟨Tryz.sizeOf9, Tryz.isAgg9, fun w => ⟨_, Tryz.zeroValue9 w, fun _ => rfl, ⟨trivial, trivial⟩⟩, Tryz.underlying9⟩,
 ⟨Tryz.sizeOf10, Tryz.isAgg10, fun w => ⟨_, Tryz.zeroValue10 w, fun _ => rfl, ⟨trivial, trivial⟩⟩, Tryz.underlying10⟩,
 ⟨Tryz.sizeOf11, Tryz.isAgg11, fun w => ⟨_, Tryz.zeroValue11 w, fun _ => rfl, ⟨trivial, trivial⟩⟩, Tryz.underlying11⟩,
 ⟨Tryz.sizeOf12, Tryz.isAgg12, fun w => ⟨_, Tryz.zeroValue12 w, fun _ => rfl, ⟨trivial, trivial⟩⟩, Tryz.underlying12⟩,
 ⟨Tryz.sizeOf13, Tryz.isAgg13, fun w => ⟨_, Tryz.zeroValue13 w, fun _ => rfl, ⟨trivial, trivial, trivial⟩⟩, ⟨_, Tryz.underlying13, rfl⟩⟩,
 ⟨Tryz.sizeOf14, Tryz.isAgg14, fun w => ⟨_, Tryz.zeroValue14 w, fun _ => rfl, ⟨trivial, trivial, trivial⟩⟩, ⟨_, Tryz.underlying14, rfl⟩⟩,
 ⟨Tryz.sizeOf15, Tryz.isAgg15, fun w => ⟨_, Tryz.zeroValue15 w, fun _ => rfl, ⟨rfl, trivial⟩⟩, trivial⟩,
 ⟨Tryz.sizeOf16, Tryz.isAgg16, fun w => ⟨_, Tryz.zeroValue16 w, fun _ => rfl, ⟨rfl, trivial⟩⟩, trivial⟩,
 ⟨Tryz.sizeOf17, Tryz.isAgg17, fun w => ⟨_, Tryz.zeroValue17 w, fun _ => rfl, ⟨rfl, trivial⟩⟩, trivial⟩,
 ⟨Tryz.sizeOf18, Tryz.isAgg18, fun w => ⟨_, Tryz.zeroValue18 w, fun _ => rfl, ⟨rfl, trivial⟩⟩, ⟨_, Tryz.underlying18, rfl⟩⟩,
 ⟨Tryz.sizeOf19, Tryz.isAgg19, fun w => ⟨_, Tryz.zeroValue19 w, fun _ => rfl, ⟨rfl, trivial⟩⟩, ⟨_, Tryz.underlying19, rfl⟩⟩,
 ⟨Tryz.sizeOf20, Tryz.isAgg20, fun w => ⟨_, Tryz.zeroValue20 w, fun _ => rfl, ⟨rfl, trivial⟩⟩, trivial⟩,
 ⟨Tryz.sizeOf21, Tryz.isAgg21, fun w => ⟨_, Tryz.zeroValue21 w, fun _ => rfl, ⟨trivial, trivial⟩⟩, Tryz.underlying21⟩,
 ⟨Tryz.sizeOf22, Tryz.isAgg22, fun w => ⟨_, Tryz.zeroValue22 w, fun _ => rfl, ⟨rfl, trivial⟩⟩, trivial⟩,
 ⟨Tryz.sizeOf23, Tryz.isAgg23, fun w => ⟨_, Tryz.zeroValue23 w, fun _ => rfl, ⟨rfl, trivial⟩⟩, trivial⟩,
 ⟨Tryz.sizeOf24, Tryz.isAgg24, fun w => ⟨_, Tryz.zeroValue24 w, fun _ => rfl, ⟨trivial, trivial, trivial⟩⟩, ⟨_, Tryz.underlying24, rfl⟩⟩,
 ⟨Tryz.sizeOf25, Tryz.isAgg25, fun w => ⟨_, Tryz.zeroValue25 w, fun _ => rfl, ⟨trivial, trivial, trivial⟩⟩, ⟨_, Tryz.underlying25, rfl⟩⟩,
 ⟨Tryz.sizeOf26, Tryz.isAgg26, fun w => ⟨_, Tryz.zeroValue26 w, fun _ => rfl, ⟨rfl, trivial⟩⟩, Tryz.underlying26⟩,
 ⟨Tryz.sizeOf27, Tryz.isAgg27, fun w => ⟨_, Tryz.zeroValue27 w, fun _ => rfl, ⟨trivial, trivial, trivial, trivial, trivial, trivial, trivial, trivial, rfl, trivial⟩⟩, ⟨_, Tryz.underlying27, rfl⟩⟩,
 ⟨Tryz.sizeOf28, Tryz.isAgg28, fun w => ⟨_, Tryz.zeroValue28 w, fun _ => rfl, ⟨trivial, trivial, trivial, trivial, trivial, trivial, trivial, trivial, rfl, trivial⟩⟩, ⟨_, Tryz.underlying28, rfl⟩⟩,
 ⟨Tryz.sizeOf29, Tryz.isAgg29, fun w => ⟨_, Tryz.zeroValue29 w, fun _ => rfl, ⟨rfl, trivial⟩⟩, trivial⟩,
 ⟨Tryz.sizeOf30, Tryz.isAgg30, fun w => ⟨_, Tryz.zeroValue30 w, fun _ => rfl, ⟨rfl, trivial⟩⟩, trivial⟩,
 ⟨Tryz.sizeOf31, Tryz.isAgg31, fun w => ⟨_, Tryz.zeroValue31 w, fun _ => rfl, ⟨trivial, trivial⟩⟩, Tryz.underlying31⟩,
 ⟨Tryz.sizeOf32, Tryz.isAgg32, fun w => ⟨_, Tryz.zeroValue32 w, fun _ => rfl, ⟨rfl, trivial⟩⟩, trivial⟩,
 ⟨Tryz.sizeOf34, Tryz.isAgg34, fun w => ⟨_, Tryz.zeroValue34 w, fun _ => rfl, ⟨rfl, trivial⟩⟩, trivial⟩,
 ⟨Tryz.sizeOf35, Tryz.isAgg35, fun w => ⟨_, Tryz.zeroValue35 w, fun _ => rfl, ⟨rfl, trivial⟩⟩, trivial⟩,
 ⟨Tryz.sizeOf36, Tryz.isAgg36, fun w => ⟨_, Tryz.zeroValue36 w, fun _ => rfl, ⟨rfl, trivial⟩⟩, trivial⟩,
 ⟨Tryz.sizeOf37, Tryz.isAgg37, fun w => ⟨_, Tryz.zeroValue37 w, fun _ => rfl, ⟨rfl, trivial⟩⟩, trivial⟩,
 ⟨Tryz.sizeOf38, Tryz.isAgg38, fun w => ⟨_, Tryz.zeroValue38 w, fun _ => rfl, ⟨rfl, trivial⟩⟩, trivial⟩,
 ⟨Tryz.sizeOf39, Tryz.isAgg39, fun w => ⟨_, Tryz.zeroValue39 w, fun _ => rfl, ⟨rfl, trivial⟩⟩, trivial⟩,
 ⟨Tryz.sizeOf40, Tryz.isAgg40, fun w => ⟨_, Tryz.zeroValue40 w, fun _ => rfl, ⟨rfl, trivial⟩⟩, trivial⟩,
 ⟨Tryz.sizeOf42, Tryz.isAgg42, fun w => ⟨_, Tryz.zeroValue42 w, fun _ => rfl, ⟨rfl, trivial⟩⟩, trivial⟩,
 ⟨Tryz.sizeOf43, Tryz.isAgg43, fun w => ⟨_, Tryz.zeroValue43 w, fun _ => rfl, ⟨rfl, trivial⟩⟩, trivial⟩,
 ⟨Tryz.sizeOf45, Tryz.isAgg45, fun w => ⟨_, Tryz.zeroValue45 w, fun _ => rfl, ⟨rfl, trivial⟩⟩, trivial⟩,
 ⟨Tryz.sizeOf47, Tryz.isAgg47, fun w => ⟨_, Tryz.zeroValue47 w, fun _ => rfl, ⟨rfl, trivial⟩⟩, trivial⟩,
 ⟨Tryz.sizeOf48, Tryz.isAgg48, fun w => ⟨_, Tryz.zeroValue48 w, fun _ => rfl, ⟨rfl, trivial⟩⟩, trivial⟩,
 ⟨Tryz.sizeOf50, Tryz.isAgg50, fun w => ⟨_, Tryz.zeroValue50 w, fun _ => rfl, ⟨rfl, trivial⟩⟩, trivial⟩,
 ⟨Tryz.sizeOf51, Tryz.isAgg51, fun w => ⟨_, Tryz.zeroValue51 w, fun _ => rfl, ⟨rfl, trivial⟩⟩, trivial⟩,
 ⟨Tryz.sizeOf52, Tryz.isAgg52, fun w => ⟨_, Tryz.zeroValue52 w, fun _ => rfl, ⟨rfl, trivial⟩⟩, trivial⟩,
 ⟨Tryz.sizeOf53, Tryz.isAgg53, fun w => ⟨_, Tryz.zeroValue53 w, fun _ => rfl, ⟨rfl, trivial⟩⟩, trivial⟩,
 ⟨Tryz.sizeOf54, Tryz.isAgg54, fun w => ⟨_, Tryz.zeroValue54 w, fun _ => rfl, ⟨rfl, trivial⟩⟩, trivial⟩,
 ⟨Tryz.sizeOf55, Tryz.isAgg55, fun w => ⟨_, Tryz.zeroValue55 w, fun _ => rfl, ⟨rfl, trivial⟩⟩, trivial⟩,
 ⟨Tryz.sizeOf56, Tryz.isAgg56, fun w => ⟨_, Tryz.zeroValue56 w, fun _ => rfl, ⟨rfl, trivial⟩⟩, trivial⟩,
 ⟨Tryz.sizeOf57, Tryz.isAgg57, fun w => ⟨_, Tryz.zeroValue57 w, fun _ => rfl, ⟨rfl, trivial⟩⟩, trivial⟩,
 ⟨Tryz.sizeOf58, Tryz.isAgg58, fun w => ⟨_, Tryz.zeroValue58 w, fun _ => rfl, ⟨rfl, trivial⟩⟩, trivial⟩,
 ⟨Tryz.sizeOf60, Tryz.isAgg60, fun w => ⟨_, Tryz.zeroValue60 w, fun _ => rfl, ⟨rfl, trivial⟩⟩, trivial⟩,
 ⟨Tryz.sizeOf61, Tryz.isAgg61, fun w => ⟨_, Tryz.zeroValue61 w, fun _ => rfl, ⟨rfl, trivial⟩⟩, trivial⟩,
 ⟨Tryz.sizeOf63, Tryz.isAgg63, fun w => ⟨_, Tryz.zeroValue63 w, fun _ => rfl, ⟨rfl, trivial⟩⟩, trivial⟩,
 ⟨Tryz.sizeOf64, Tryz.isAgg64, fun w => ⟨_, Tryz.zeroValue64 w, fun _ => rfl, ⟨rfl, trivial⟩⟩, trivial⟩,
 ⟨Tryz.sizeOf66, Tryz.isAgg66, fun w => ⟨_, Tryz.zeroValue66 w, fun _ => rfl, ⟨rfl, trivial⟩⟩, trivial⟩,
 ⟨Tryz.sizeOf68, Tryz.isAgg68, fun w => ⟨_, Tryz.zeroValue68 w, fun _ => rfl, ⟨rfl, trivial⟩⟩, trivial⟩,
 ⟨Tryz.sizeOf69, Tryz.isAgg69, fun w => ⟨_, Tryz.zeroValue69 w, fun _ => rfl, ⟨rfl, trivial⟩⟩, Tryz.underlying69⟩,
 ⟨Tryz.sizeOf70, Tryz.isAgg70, fun w => ⟨_, Tryz.zeroValue70 w, fun _ => rfl, ⟨rfl, trivial⟩⟩, Tryz.underlying70⟩,
 ⟨Tryz.sizeOf71, Tryz.isAgg71, fun w => ⟨_, Tryz.zeroValue71 w, fun _ => rfl, ⟨trivial, rfl, rfl, trivial⟩⟩, ⟨_, Tryz.underlying71, rfl⟩⟩,
 ⟨Tryz.sizeOf72, Tryz.isAgg72, fun w => ⟨_, Tryz.zeroValue72 w, fun _ => rfl, ⟨trivial, rfl, rfl, trivial⟩⟩, ⟨_, Tryz.underlying72, rfl⟩⟩,
 ⟨Tryz.sizeOf74, Tryz.isAgg74, fun w => ⟨_, Tryz.zeroValue74 w, fun _ => rfl, ⟨rfl, trivial⟩⟩, trivial⟩,
 ⟨Tryz.sizeOf75, Tryz.isAgg75, fun w => ⟨_, Tryz.zeroValue75 w, fun _ => rfl, ⟨rfl, trivial⟩⟩, trivial⟩,
 ⟨Tryz.sizeOf76, Tryz.isAgg76, fun w => ⟨_, Tryz.zeroValue76 w, fun _ => rfl, ⟨rfl, trivial⟩⟩, trivial⟩,
 ⟨Tryz.sizeOf77, Tryz.isAgg77, fun w => ⟨_, Tryz.zeroValue77 w, fun _ => rfl, ⟨rfl, trivial⟩⟩, trivial⟩,
 ⟨Tryz.sizeOf79, Tryz.isAgg79, fun w => ⟨_, Tryz.zeroValue79 w, fun _ => rfl, ⟨rfl, trivial⟩⟩, trivial⟩,
 ⟨Tryz.sizeOf80, Tryz.isAgg80, fun w => ⟨_, Tryz.zeroValue80 w, fun _ => rfl, ⟨rfl, trivial⟩⟩, trivial⟩,
 ⟨Tryz.sizeOf81, Tryz.isAgg81, fun w => ⟨_, Tryz.zeroValue81 w, fun _ => rfl, ⟨trivial, trivial, trivial, trivial, trivial, trivial, trivial, trivial, trivial, trivial⟩⟩, trivial⟩,
 ⟨Tryz.sizeOf82, Tryz.isAgg82, fun w => ⟨_, Tryz.zeroValue82 w, fun _ => rfl, ⟨rfl, trivial⟩⟩, trivial⟩,
 ⟨Tryz.sizeOf83, Tryz.isAgg83, fun w => ⟨_, Tryz.zeroValue83 w, fun _ => rfl, ⟨rfl, rfl, rfl, rfl, rfl, trivial⟩⟩, trivial⟩,
 ⟨Tryz.sizeOf85, Tryz.isAgg85, fun w => ⟨_, Tryz.zeroValue85 w, fun _ => rfl, ⟨rfl, trivial⟩⟩, trivial⟩,
 ⟨Tryz.sizeOf86, Tryz.isAgg86, fun w => ⟨_, Tryz.zeroValue86 w, fun _ => rfl, ⟨rfl, rfl, rfl, rfl, rfl, trivial⟩⟩, trivial⟩,
 ⟨Tryz.sizeOf88, Tryz.isAgg88, fun w => ⟨_, Tryz.zeroValue88 w, fun _ => rfl, ⟨rfl, trivial⟩⟩, trivial⟩,
 ⟨Tryz.sizeOf89, Tryz.isAgg89, fun w => ⟨_, Tryz.zeroValue89 w, fun _ => rfl, ⟨rfl, trivial⟩⟩, trivial⟩,
 ⟨Tryz.sizeOf90, Tryz.isAgg90, fun w => ⟨_, Tryz.zeroValue90 w, fun _ => rfl, ⟨rfl, trivial⟩⟩, trivial⟩,
 ⟨Tryz.sizeOf91, Tryz.isAgg91, fun w => ⟨_, Tryz.zeroValue91 w, fun _ => rfl, ⟨rfl, trivial⟩⟩, trivial⟩,
 ⟨Tryz.sizeOf92, Tryz.isAgg92, fun w => ⟨_, Tryz.zeroValue92 w, fun _ => rfl, ⟨rfl, trivial⟩⟩, trivial⟩,
 ⟨Tryz.sizeOf93, Tryz.isAgg93, fun w => ⟨_, Tryz.zeroValue93 w, fun _ => rfl, ⟨rfl, trivial⟩⟩, trivial⟩,
 ⟨Tryz.sizeOf94, Tryz.isAgg94, fun w => ⟨_, Tryz.zeroValue94 w, fun _ => rfl, ⟨rfl, trivial⟩⟩, trivial⟩,
 ⟨Tryz.sizeOf95, Tryz.isAgg95, fun w => ⟨_, Tryz.zeroValue95 w, fun _ => rfl, ⟨trivial, trivial, trivial, trivial, trivial, trivial, trivial, trivial, trivial, trivial, trivial, trivial, trivial⟩⟩, trivial⟩,
 ⟨Tryz.sizeOf96, Tryz.isAgg96, fun w => ⟨_, Tryz.zeroValue96 w, fun _ => rfl, ⟨rfl, trivial⟩⟩, trivial⟩,
 ⟨Tryz.sizeOf97, Tryz.isAgg97, fun w => ⟨_, Tryz.zeroValue97 w, fun _ => rfl, ⟨rfl, trivial⟩⟩, trivial⟩,
 ⟨Tryz.sizeOf98, Tryz.isAgg98, fun w => ⟨_, Tryz.zeroValue98 w, fun _ => rfl, ⟨rfl, trivial⟩⟩, trivial⟩,
 ⟨Tryz.sizeOf99, Tryz.isAgg99, fun w => ⟨_, Tryz.zeroValue99 w, fun _ => rfl, ⟨rfl, trivial⟩⟩, trivial⟩,
 ⟨Tryz.sizeOf100, Tryz.isAgg100, fun w => ⟨_, Tryz.zeroValue100 w, fun _ => rfl, ⟨rfl, trivial⟩⟩, trivial⟩,
 ⟨Tryz.sizeOf101, Tryz.isAgg101, fun w => ⟨_, Tryz.zeroValue101 w, fun _ => rfl, ⟨rfl, trivial⟩⟩, trivial⟩,
 ⟨Tryz.sizeOf102, Tryz.isAgg102, fun w => ⟨_, Tryz.zeroValue102 w, fun _ => rfl, ⟨rfl, trivial⟩⟩, trivial⟩,
 ⟨Tryz.sizeOf103, Tryz.isAgg103, fun w => ⟨_, Tryz.zeroValue103 w, fun _ => rfl, ⟨rfl, trivial⟩⟩, trivial⟩,
 ⟨Tryz.sizeOf104, Tryz.isAgg104, fun w => ⟨_, Tryz.zeroValue104 w, fun _ => rfl, ⟨rfl, trivial⟩⟩, trivial⟩,
 ⟨Tryz.sizeOf105, Tryz.isAgg105, fun w => ⟨_, Tryz.zeroValue105 w, fun _ => rfl, ⟨rfl, trivial⟩⟩, trivial⟩,
 ⟨Tryz.sizeOf106, Tryz.isAgg106, fun w => ⟨_, Tryz.zeroValue106 w, fun _ => rfl, ⟨rfl, trivial⟩⟩, trivial⟩,
 ⟨Tryz.sizeOf107, Tryz.isAgg107, fun w => ⟨_, Tryz.zeroValue107 w, fun _ => rfl, ⟨rfl, trivial⟩⟩, trivial⟩,
 ⟨Tryz.sizeOf108, Tryz.isAgg108, fun w => ⟨_, Tryz.zeroValue108 w, fun _ => rfl, ⟨rfl, trivial⟩⟩, trivial⟩,
 ⟨Tryz.sizeOf110, Tryz.isAgg110, fun w => ⟨_, Tryz.zeroValue110 w, fun _ => rfl, ⟨rfl, trivial⟩⟩, trivial⟩,
 ⟨Tryz.sizeOf112, Tryz.isAgg112, fun w => ⟨_, Tryz.zeroValue112 w, fun _ => rfl, ⟨rfl, trivial⟩⟩, trivial⟩,
 ⟨Tryz.sizeOf113, Tryz.isAgg113, fun w => ⟨_, Tryz.zeroValue113 w, fun _ => rfl, ⟨rfl, trivial⟩⟩, Tryz.underlying113⟩,
 ⟨Tryz.sizeOf115, Tryz.isAgg115, fun w => ⟨_, Tryz.zeroValue115 w, fun _ => rfl, ⟨rfl, trivial⟩⟩, trivial⟩,
 ⟨Tryz.sizeOf116, Tryz.isAgg116, fun w => ⟨_, Tryz.zeroValue116 w, fun _ => rfl, ⟨rfl, trivial⟩⟩, trivial⟩,
 ⟨Tryz.sizeOf117, Tryz.isAgg117, fun w => ⟨_, Tryz.zeroValue117 w, fun _ => rfl, ⟨rfl, trivial⟩⟩, trivial⟩,
 ⟨Tryz.sizeOf119, Tryz.isAgg119, fun w => ⟨_, Tryz.zeroValue119 w, fun _ => rfl, ⟨rfl, trivial⟩⟩, trivial⟩,
 ⟨Tryz.sizeOf120, Tryz.isAgg120, fun w => ⟨_, Tryz.zeroValue120 w, fun _ => rfl, ⟨rfl, trivial⟩⟩, trivial⟩,
 ⟨Tryz.sizeOf121, Tryz.isAgg121, fun w => ⟨_, Tryz.zeroValue121 w, fun _ => rfl, ⟨rfl, trivial⟩⟩, Tryz.underlying121⟩,
 ⟨Tryz.sizeOf122, Tryz.isAgg122, fun w => ⟨_, Tryz.zeroValue122 w, fun _ => rfl, ⟨rfl, trivial⟩⟩, trivial⟩,
 ⟨Tryz.sizeOf123, Tryz.isAgg123, fun w => ⟨_, Tryz.zeroValue123 w, fun _ => rfl, ⟨rfl, trivial⟩⟩, trivial⟩,
 ⟨Tryz.sizeOf125, Tryz.isAgg125, fun w => ⟨_, Tryz.zeroValue125 w, fun _ => rfl, ⟨rfl, trivial⟩⟩, trivial⟩,
 ⟨Tryz.sizeOf126, Tryz.isAgg126, fun w => ⟨_, Tryz.zeroValue126 w, fun _ => rfl, ⟨rfl, trivial⟩⟩, trivial⟩,
 ⟨Tryz.sizeOf127, Tryz.isAgg127, fun w => ⟨_, Tryz.zeroValue127 w, fun _ => rfl, ⟨rfl, trivial⟩⟩, trivial⟩,
 ⟨Tryz.sizeOf128, Tryz.isAgg128, fun w => ⟨_, Tryz.zeroValue128 w, fun _ => rfl, ⟨rfl, trivial⟩⟩, trivial⟩,
 ⟨Tryz.sizeOf130, Tryz.isAgg130, fun w => ⟨_, Tryz.zeroValue130 w, fun _ => rfl, ⟨rfl, trivial⟩⟩, trivial⟩,
 ⟨Tryz.sizeOf131, Tryz.isAgg131, fun w => ⟨_, Tryz.zeroValue131 w, fun _ => rfl, ⟨trivial, trivial, trivial, trivial⟩⟩, trivial⟩,
 ⟨Tryz.sizeOf132, Tryz.isAgg132, fun w => ⟨_, Tryz.zeroValue132 w, fun _ => rfl, ⟨rfl, trivial⟩⟩, trivial⟩,
 ⟨Tryz.sizeOf133, Tryz.isAgg133, fun w => ⟨_, Tryz.zeroValue133 w, fun _ => rfl, ⟨rfl, trivial⟩⟩, trivial⟩,
 ⟨Tryz.sizeOf134, Tryz.isAgg134, fun w => ⟨_, Tryz.zeroValue134 w, fun _ => rfl, ⟨rfl, trivial⟩⟩, trivial⟩,
 ⟨Tryz.sizeOf135, Tryz.isAgg135, fun w => ⟨_, Tryz.zeroValue135 w, fun _ => rfl, ⟨rfl, trivial⟩⟩, trivial⟩,
 ⟨Tryz.sizeOf136, Tryz.isAgg136, fun w => ⟨_, Tryz.zeroValue136 w, fun _ => rfl, ⟨rfl, trivial⟩⟩, Tryz.underlying136⟩,
 ⟨Tryz.sizeOf137, Tryz.isAgg137, fun w => ⟨_, Tryz.zeroValue137 w, fun _ => rfl, ⟨rfl, trivial⟩⟩, Tryz.underlying137⟩,
 ⟨Tryz.sizeOf138, Tryz.isAgg138, fun w => ⟨_, Tryz.zeroValue138 w, fun _ => rfl, ⟨trivial, rfl, rfl, trivial⟩⟩, ⟨_, Tryz.underlying138, rfl⟩⟩,
 ⟨Tryz.sizeOf139, Tryz.isAgg139, fun w => ⟨_, Tryz.zeroValue139 w, fun _ => rfl, ⟨trivial, rfl, rfl, trivial⟩⟩, ⟨_, Tryz.underlying139, rfl⟩⟩,
 ⟨Tryz.sizeOf141, Tryz.isAgg141, fun w => ⟨_, Tryz.zeroValue141 w, fun _ => rfl, ⟨rfl, trivial⟩⟩, trivial⟩,
 ⟨Tryz.sizeOf142, Tryz.isAgg142, fun w => ⟨_, Tryz.zeroValue142 w, fun _ => rfl, ⟨rfl, trivial⟩⟩, trivial⟩,
 ⟨Tryz.sizeOf143, Tryz.isAgg143, fun w => ⟨_, Tryz.zeroValue143 w, fun _ => rfl, ⟨rfl, trivial⟩⟩, trivial⟩,
 ⟨Tryz.sizeOf144, Tryz.isAgg144, fun w => ⟨_, Tryz.zeroValue144 w, fun _ => rfl, ⟨rfl, trivial⟩⟩, trivial⟩,
 ⟨Tryz.sizeOf148, Tryz.isAgg148, fun w => ⟨_, Tryz.zeroValue148 w, fun _ => rfl, ⟨rfl, trivial⟩⟩, trivial⟩,
 ⟨Tryz.sizeOf149, Tryz.isAgg149, fun w => ⟨_, Tryz.zeroValue149 w, fun _ => rfl, ⟨rfl, trivial⟩⟩, trivial⟩,
 ⟨Tryz.sizeOf150, Tryz.isAgg150, fun w => ⟨_, Tryz.zeroValue150 w, fun _ => rfl, ⟨rfl, trivial⟩⟩, trivial⟩,
 ⟨Tryz.sizeOf152, Tryz.isAgg152, fun w => ⟨_, Tryz.zeroValue152 w, fun _ => rfl, ⟨rfl, trivial⟩⟩, trivial⟩,
 ⟨Tryz.sizeOf153, Tryz.isAgg153, fun w => ⟨_, Tryz.zeroValue153 w, fun _ => rfl, ⟨rfl, trivial⟩⟩, trivial⟩,
 ⟨Tryz.sizeOf154, Tryz.isAgg154, fun w => ⟨_, Tryz.zeroValue154 w, fun _ => rfl, ⟨rfl, trivial⟩⟩, trivial⟩,
 ⟨Tryz.sizeOf155, Tryz.isAgg155, fun w => ⟨_, Tryz.zeroValue155 w, fun _ => rfl, ⟨rfl, trivial⟩⟩, trivial⟩,
 ⟨Tryz.sizeOf156, Tryz.isAgg156, fun w => ⟨_, Tryz.zeroValue156 w, fun _ => rfl, ⟨rfl, trivial⟩⟩, trivial⟩,
 ⟨Tryz.sizeOf158, Tryz.isAgg158, fun w => ⟨_, Tryz.zeroValue158 w, fun _ => rfl, ⟨rfl, trivial⟩⟩, trivial⟩,
 ⟨Tryz.sizeOf159, Tryz.isAgg159, fun w => ⟨_, Tryz.zeroValue159 w, fun _ => rfl, ⟨rfl, trivial⟩⟩, trivial⟩,
 ⟨Tryz.sizeOf160, Tryz.isAgg160, fun w => ⟨_, Tryz.zeroValue160 w, fun _ => rfl, ⟨rfl, trivial⟩⟩, trivial⟩,
 ⟨Tryz.sizeOf161, Tryz.isAgg161, fun w => ⟨_, Tryz.zeroValue161 w, fun _ => rfl, ⟨trivial, trivial⟩⟩, Tryz.underlying161⟩,
 ⟨Tryz.sizeOf162, Tryz.isAgg162, fun w => ⟨_, Tryz.zeroValue162 w, fun _ => rfl, ⟨rfl, trivial⟩⟩, trivial⟩,
 ⟨Tryz.sizeOf163, Tryz.isAgg163, fun w => ⟨_, Tryz.zeroValue163 w, fun _ => rfl, ⟨rfl, trivial⟩⟩, trivial⟩,
 ⟨Tryz.sizeOf164, Tryz.isAgg164, fun w => ⟨_, Tryz.zeroValue164 w, fun _ => rfl, ⟨rfl, trivial⟩⟩, trivial⟩,
 ⟨Tryz.sizeOf165, Tryz.isAgg165, fun w => ⟨_, Tryz.zeroValue165 w, fun _ => rfl, ⟨rfl, trivial⟩⟩, trivial⟩,
 ⟨Tryz.sizeOf166, Tryz.isAgg166, fun w => ⟨_, Tryz.zeroValue166 w, fun _ => rfl, ⟨rfl, trivial⟩⟩, trivial⟩,
 ⟨Tryz.sizeOf167, Tryz.isAgg167, fun w => ⟨_, Tryz.zeroValue167 w, fun _ => rfl, ⟨rfl, trivial⟩⟩, trivial⟩,
 ⟨Tryz.sizeOf168, Tryz.isAgg168, fun w => ⟨_, Tryz.zeroValue168 w, fun _ => rfl, ⟨rfl, trivial⟩⟩, trivial⟩,
 ⟨Tryz.sizeOf169, Tryz.isAgg169, fun w => ⟨_, Tryz.zeroValue169 w, fun _ => rfl, ⟨rfl, trivial⟩⟩, trivial⟩,
 ⟨Tryz.sizeOf171, Tryz.isAgg171, fun w => ⟨_, Tryz.zeroValue171 w, fun _ => rfl, ⟨rfl, trivial⟩⟩, trivial⟩,
 ⟨Tryz.sizeOf172, Tryz.isAgg172, fun w => ⟨_, Tryz.zeroValue172 w, fun _ => rfl, ⟨trivial, trivial⟩⟩, Tryz.underlying172⟩,
 ⟨Tryz.sizeOf173, Tryz.isAgg173, fun w => ⟨_, Tryz.zeroValue173 w, fun _ => rfl, ⟨rfl, trivial⟩⟩, trivial⟩,
 ⟨Tryz.sizeOf174, Tryz.isAgg174, fun w => ⟨_, Tryz.zeroValue174 w, fun _ => rfl, ⟨rfl, trivial⟩⟩, trivial⟩,
 ⟨Tryz.sizeOf175, Tryz.isAgg175, fun w => ⟨_, Tryz.zeroValue175 w, fun _ => rfl, ⟨rfl, trivial⟩⟩, trivial⟩,
 ⟨Tryz.sizeOf176, Tryz.isAgg176, fun w => ⟨_, Tryz.zeroValue176 w, fun _ => rfl, ⟨rfl, trivial⟩⟩, trivial⟩,
 ⟨Tryz.sizeOf177, Tryz.isAgg177, fun w => ⟨_, Tryz.zeroValue177 w, fun _ => rfl, ⟨rfl, trivial⟩⟩, trivial⟩,
 ⟨Tryz.sizeOf179, Tryz.isAgg179, fun w => ⟨_, Tryz.zeroValue179 w, fun _ => rfl, ⟨rfl, trivial⟩⟩, trivial⟩,
 ⟨Tryz.sizeOf181, Tryz.isAgg181, fun w => ⟨_, Tryz.zeroValue181 w, fun _ => rfl, ⟨rfl, trivial⟩⟩, trivial⟩,
 ⟨Tryz.sizeOf182, Tryz.isAgg182, fun w => ⟨_, Tryz.zeroValue182 w, fun _ => rfl, ⟨rfl, trivial⟩⟩, trivial⟩,
 ⟨Tryz.sizeOf184, Tryz.isAgg184, fun w => ⟨_, Tryz.zeroValue184 w, fun _ => rfl, ⟨trivial, trivial, trivial⟩⟩, ⟨_, Tryz.underlying184, rfl⟩⟩,
 ⟨Tryz.sizeOf185, Tryz.isAgg185, fun w => ⟨_, Tryz.zeroValue185 w, fun _ => rfl, ⟨trivial, trivial, trivial⟩⟩, ⟨_, Tryz.underlying185, rfl⟩⟩,
 ⟨Tryz.sizeOf187, Tryz.isAgg187, fun w => ⟨_, Tryz.zeroValue187 w, fun _ => rfl, ⟨rfl, trivial⟩⟩, trivial⟩,
 ⟨Tryz.sizeOf188, Tryz.isAgg188, fun w => ⟨_, Tryz.zeroValue188 w, fun _ => rfl, ⟨rfl, trivial⟩⟩, trivial⟩,
 ⟨Tryz.sizeOf189, Tryz.isAgg189, fun w => ⟨_, Tryz.zeroValue189 w, fun _ => rfl, ⟨trivial, trivial⟩⟩, Tryz.underlying189⟩,
 ⟨Tryz.sizeOf191, Tryz.isAgg191, fun w => ⟨_, Tryz.zeroValue191 w, fun _ => rfl, ⟨rfl, trivial⟩⟩, trivial⟩,
 ⟨Tryz.sizeOf192, Tryz.isAgg192, fun w => ⟨_, Tryz.zeroValue192 w, fun _ => rfl, ⟨rfl, trivial⟩⟩, trivial⟩,
 ⟨Tryz.sizeOf193, Tryz.isAgg193, fun w => ⟨_, Tryz.zeroValue193 w, fun _ => rfl, ⟨rfl, trivial⟩⟩, trivial⟩,
 ⟨Tryz.sizeOf194, Tryz.isAgg194, fun w => ⟨_, Tryz.zeroValue194 w, fun _ => rfl, ⟨rfl, trivial⟩⟩, trivial⟩,
 ⟨Tryz.sizeOf195, Tryz.isAgg195, fun w => ⟨_, Tryz.zeroValue195 w, fun _ => rfl, ⟨rfl, trivial⟩⟩, trivial⟩,
 ⟨Tryz.sizeOf196, Tryz.isAgg196, fun w => ⟨_, Tryz.zeroValue196 w, fun _ => rfl, ⟨rfl, trivial⟩⟩, trivial⟩,
 ⟨Tryz.sizeOf197, Tryz.isAgg197, fun w => ⟨_, Tryz.zeroValue197 w, fun _ => rfl, ⟨rfl, trivial⟩⟩, trivial⟩,
 ⟨Tryz.sizeOf198, Tryz.isAgg198, fun w => ⟨_, Tryz.zeroValue198 w, fun _ => rfl, ⟨rfl, trivial⟩⟩, trivial⟩,
 ⟨Tryz.sizeOf199, Tryz.isAgg199, fun w => ⟨_, Tryz.zeroValue199 w, fun _ => rfl, ⟨rfl, trivial⟩⟩, trivial⟩,
 ⟨Tryz.sizeOf201, Tryz.isAgg201, fun w => ⟨_, Tryz.zeroValue201 w, fun _ => rfl, ⟨rfl, trivial⟩⟩, trivial⟩,
 ⟨Tryz.sizeOf202, Tryz.isAgg202, fun w => ⟨_, Tryz.zeroValue202 w, fun _ => rfl, ⟨rfl, trivial⟩⟩, trivial⟩,
 ⟨Tryz.sizeOf203, Tryz.isAgg203, fun w => ⟨_, Tryz.zeroValue203 w, fun _ => rfl, ⟨rfl, rfl, trivial⟩⟩, ⟨_, Tryz.underlying203, rfl⟩⟩,
 ⟨Tryz.sizeOf204, Tryz.isAgg204, fun w => ⟨_, Tryz.zeroValue204 w, fun _ => rfl, ⟨rfl, rfl, trivial⟩⟩, ⟨_, Tryz.underlying204, rfl⟩⟩,
 ⟨Tryz.sizeOf205, Tryz.isAgg205, fun w => ⟨_, Tryz.zeroValue205 w, fun _ => rfl, ⟨rfl, trivial⟩⟩, trivial⟩,
 ⟨Tryz.sizeOf206, Tryz.isAgg206, fun w => ⟨_, Tryz.zeroValue206 w, fun _ => rfl, ⟨rfl, trivial⟩⟩, trivial⟩,
 ⟨Tryz.sizeOf207, Tryz.isAgg207, fun w => ⟨_, Tryz.zeroValue207 w, fun _ => rfl, ⟨rfl, trivial⟩⟩, trivial⟩,
 ⟨Tryz.sizeOf208, Tryz.isAgg208, fun w => ⟨_, Tryz.zeroValue208 w, fun _ => rfl, ⟨rfl, trivial⟩⟩, trivial⟩,
 ⟨Tryz.sizeOf209, Tryz.isAgg209, fun w => ⟨_, Tryz.zeroValue209 w, fun _ => rfl, ⟨rfl, trivial⟩⟩, trivial⟩,
 ⟨Tryz.sizeOf210, Tryz.isAgg210, fun w => ⟨_, Tryz.zeroValue210 w, fun _ => rfl, ⟨rfl, trivial⟩⟩, trivial⟩,
 ⟨Tryz.sizeOf211, Tryz.isAgg211, fun w => ⟨_, Tryz.zeroValue211 w, fun _ => rfl, ⟨trivial, trivial⟩⟩, Tryz.underlying211⟩,
 ⟨Tryz.sizeOf213, Tryz.isAgg213, fun w => ⟨_, Tryz.zeroValue213 w, fun _ => rfl, ⟨rfl, trivial⟩⟩, trivial⟩,
 ⟨Tryz.sizeOf214, Tryz.isAgg214, fun w => ⟨_, Tryz.zeroValue214 w, fun _ => rfl, ⟨rfl, trivial⟩⟩, trivial⟩,
 ⟨Tryz.sizeOf215, Tryz.isAgg215, fun w => ⟨_, Tryz.zeroValue215 w, fun _ => rfl, ⟨rfl, trivial⟩⟩, trivial⟩,
 ⟨Tryz.sizeOf216, Tryz.isAgg216, fun w => ⟨_, Tryz.zeroValue216 w, fun _ => rfl, ⟨rfl, trivial⟩⟩, trivial⟩,
 ⟨Tryz.sizeOf218, Tryz.isAgg218, fun w => ⟨_, Tryz.zeroValue218 w, fun _ => rfl, ⟨rfl, trivial⟩⟩, trivial⟩,
 ⟨Tryz.sizeOf219, Tryz.isAgg219, fun w => ⟨_, Tryz.zeroValue219 w, fun _ => rfl, ⟨rfl, trivial⟩⟩, trivial⟩,
 ⟨Tryz.sizeOf221, Tryz.isAgg221, fun w => ⟨_, Tryz.zeroValue221 w, fun _ => rfl, ⟨rfl, trivial⟩⟩, trivial⟩,
 ⟨Tryz.sizeOf222, Tryz.isAgg222, fun w => ⟨_, Tryz.zeroValue222 w, fun _ => rfl, ⟨rfl, trivial⟩⟩, trivial⟩,
 ⟨Tryz.sizeOf224, Tryz.isAgg224, fun w => ⟨_, Tryz.zeroValue224 w, fun _ => rfl, ⟨rfl, trivial⟩⟩, trivial⟩,
 ⟨Tryz.sizeOf226, Tryz.isAgg226, fun w => ⟨_, Tryz.zeroValue226 w, fun _ => rfl, ⟨rfl, trivial⟩⟩, trivial⟩,
 ⟨Tryz.sizeOf227, Tryz.isAgg227, fun w => ⟨_, Tryz.zeroValue227 w, fun _ => rfl, ⟨rfl, trivial⟩⟩, trivial⟩,
 ⟨Tryz.sizeOf228, Tryz.isAgg228, fun w => ⟨_, Tryz.zeroValue228 w, fun _ => rfl, ⟨rfl, trivial⟩⟩, trivial⟩,
 ⟨Tryz.sizeOf229, Tryz.isAgg229, fun w => ⟨_, Tryz.zeroValue229 w, fun _ => rfl, ⟨rfl, trivial⟩⟩, trivial⟩,
 ⟨Tryz.sizeOf231, Tryz.isAgg231, fun w => ⟨_, Tryz.zeroValue231 w, fun _ => rfl, ⟨rfl, trivial⟩⟩, trivial⟩,
 ⟨Tryz.sizeOf232, Tryz.isAgg232, fun w => ⟨_, Tryz.zeroValue232 w, fun _ => rfl, ⟨trivial, trivial, rfl, trivial⟩⟩, ⟨_, Tryz.underlying232, rfl⟩⟩,
 ⟨Tryz.sizeOf233, Tryz.isAgg233, fun w => ⟨_, Tryz.zeroValue233 w, fun _ => rfl, ⟨trivial, trivial, rfl, trivial⟩⟩, ⟨_, Tryz.underlying233, rfl⟩⟩,
 ⟨Tryz.sizeOf234, Tryz.isAgg234, fun w => ⟨_, Tryz.zeroValue234 w, fun _ => rfl, ⟨rfl, trivial⟩⟩, trivial⟩,
 ⟨Tryz.sizeOf237, Tryz.isAgg237, fun w => ⟨_, Tryz.zeroValue237 w, fun _ => rfl, ⟨rfl, trivial⟩⟩, trivial⟩,
 ⟨Tryz.sizeOf238, Tryz.isAgg238, fun w => ⟨_, Tryz.zeroValue238 w, fun _ => rfl, ⟨rfl, trivial⟩⟩, trivial⟩,
 ⟨Tryz.sizeOf239, Tryz.isAgg239, fun w => ⟨_, Tryz.zeroValue239 w, fun _ => rfl, ⟨rfl, trivial⟩⟩, trivial⟩,
 ⟨Tryz.sizeOf240, Tryz.isAgg240, fun w => ⟨_, Tryz.zeroValue240 w, fun _ => rfl, ⟨rfl, trivial⟩⟩, trivial⟩,
 ⟨Tryz.sizeOf241, Tryz.isAgg241, fun w => ⟨_, Tryz.zeroValue241 w, fun _ => rfl, ⟨rfl, trivial⟩⟩, trivial⟩,
 ⟨Tryz.sizeOf242, Tryz.isAgg242, fun w => ⟨_, Tryz.zeroValue242 w, fun _ => rfl, ⟨rfl, trivial⟩⟩, trivial⟩,
 ⟨Tryz.sizeOf243, Tryz.isAgg243, fun w => ⟨_, Tryz.zeroValue243 w, fun _ => rfl, ⟨trivial, trivial⟩⟩, ⟨_, Tryz.underlying243, rfl⟩⟩,
 ⟨Tryz.sizeOf244, Tryz.isAgg244, fun w => ⟨_, Tryz.zeroValue244 w, fun _ => rfl, ⟨trivial, trivial⟩⟩, ⟨_, Tryz.underlying244, rfl⟩⟩,
 ⟨Tryz.sizeOf245, Tryz.isAgg245, fun w => ⟨_, Tryz.zeroValue245 w, fun _ => rfl, ⟨rfl, trivial⟩⟩, trivial⟩,
 ⟨Tryz.sizeOf248, Tryz.isAgg248, fun w => ⟨_, Tryz.zeroValue248 w, fun _ => rfl, ⟨rfl, rfl, rfl, trivial, trivial⟩⟩, ⟨_, Tryz.underlying248, rfl⟩⟩,
 ⟨Tryz.sizeOf249, Tryz.isAgg249, fun w => ⟨_, Tryz.zeroValue249 w, fun _ => rfl, ⟨rfl, rfl, rfl, trivial, trivial⟩⟩, ⟨_, Tryz.underlying249, rfl⟩⟩,
 ⟨Tryz.sizeOf250, Tryz.isAgg250, fun w => ⟨_, Tryz.zeroValue250 w, fun _ => rfl, trivial⟩, trivial⟩,
 ⟨Tryz.sizeOf251, Tryz.isAgg251, fun w => ⟨_, Tryz.zeroValue251 w, fun _ => rfl, trivial⟩, ⟨_, Tryz.underlying251, rfl⟩⟩,
 ⟨Tryz.sizeOf252, Tryz.isAgg252, fun w => ⟨_, Tryz.zeroValue252 w, fun _ => rfl, trivial⟩, ⟨_, Tryz.underlying252, rfl⟩⟩,
 ⟨Tryz.sizeOf253, Tryz.isAgg253, fun w => ⟨_, Tryz.zeroValue253 w, fun _ => rfl, ⟨trivial, trivial⟩⟩, Tryz.underlying253⟩,
 ⟨Tryz.sizeOf254, Tryz.isAgg254, fun w => ⟨_, Tryz.zeroValue254 w, fun _ => rfl, ⟨trivial, trivial⟩⟩, Tryz.underlying254⟩,
 ⟨Tryz.sizeOf255, Tryz.isAgg255, fun w => ⟨_, Tryz.zeroValue255 w, fun _ => rfl, ⟨rfl, trivial⟩⟩, trivial⟩,
 ⟨Tryz.sizeOf256, Tryz.isAgg256, fun w => ⟨_, Tryz.zeroValue256 w, fun _ => rfl, ⟨trivial, trivial⟩⟩, Tryz.underlying256⟩,
 ⟨Tryz.sizeOf257, Tryz.isAgg257, fun w => ⟨_, Tryz.zeroValue257 w, fun _ => rfl, ⟨trivial, trivial⟩⟩, Tryz.underlying257⟩,
 ⟨Tryz.sizeOf258, Tryz.isAgg258, fun w => ⟨_, Tryz.zeroValue258 w, fun _ => rfl, ⟨trivial, trivial, trivial, trivial, trivial, trivial, trivial, rfl, rfl, trivial, trivial, trivial⟩⟩, ⟨_, Tryz.underlying258, rfl⟩⟩,
 ⟨Tryz.sizeOf259, Tryz.isAgg259, fun w => ⟨_, Tryz.zeroValue259 w, fun _ => rfl, ⟨trivial, trivial, trivial, trivial, trivial, trivial, trivial, rfl, rfl, trivial, trivial, trivial⟩⟩, ⟨_, Tryz.underlying259, rfl⟩⟩, (show Tryz.prog.follows .mixedOrders = true by kernel_rfl)⟩
end Sym
end Go.Proofs.YtdkhkfdenlabaaaGreatDoor
