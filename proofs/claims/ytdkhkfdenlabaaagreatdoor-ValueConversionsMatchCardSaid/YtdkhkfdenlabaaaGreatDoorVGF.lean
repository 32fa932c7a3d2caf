/- A walk that reckons: what is known of on -/
import Derived.Test.YtdkhkfdenlabaaaGreatDoorVGE
import Derived.Test.YtdkhkfdenlabaaaGreatDoorVGA
set_option linter.unusedSimpArgs false
set_option linter.unusedVariables false
set_option maxRecDepth 100000
set_option maxHeartbeats 64000000
namespace Go.Proofs.YtdkhkfdenlabaaaGreatDoor
open Go.Proofs.Tryz
section
open Go.RowKit
namespace Sym
open ae (nd)
theorem Sat.copy {base : Nat} {w0 : Base} {β : Nat -> Nat} {a : Act} {w : World} {fr : List (Nat × SV)} {rows : List (Nat × Bool × aV)} {nx n : Nat} (i j : Nat) {Φ : Nat -> Option Obj -> Prop} (hs : Sat base w0 ⟨fr, rows, nx, n⟩ β a w) (hj : get rows j = some (false, .aK Φ)) (hi : i < nx) (hij : i ≠ j) (hn0 : w0.n0 <= i)
  (hno : (wG i fr || rP i rows) = false) : Sat base w0 ⟨fr, (i, false, .aK Φ) :: rows, nx, n⟩ (fun q => if q = i then β j else β q) a w := by
 obtain ⟨h1, h2, h3, h4⟩ := hs
 simp only [Bool.or_eq_false_iff] at hno
 have hβ : ∀ q, q ≠ i -> (fun q => if q = i then β j else β q) q = β q := fun q hq => by dsimp only; rw [if_neg hq]
 obtain ⟨k1, -, k3, -⟩ := h4.row j _ _ hj
 refine ⟨h1, h2, fun s v hv => ?_, ?_⟩
 ·obtain ⟨e1, e2⟩ := h3 s v hv
  exact ⟨by rw [e1, rQ hβ v (pI fr hno.1 hv)], e2⟩
 refine ⟨h4.below, h4.aU, fun q o r hq => ?_, fun q hq => ?_, fun q p r o r' hq hp hpq => ?_, h4.n0, fun q hq => ?_⟩
 ·rw [aQ] at hq
  by_cases e : i = q
  ·rw [if_pos e] at hq
   cases hq
   subst e
   try dsimp only
   rw [if_pos rfl]
   exact ⟨k1, trivial, hi, fun e => by cases e⟩
  ·rw [if_neg e] at hq
   obtain ⟨m1, m2, m3, m4⟩ := h4.row q o r hq
   try dsimp only
   rw [if_neg (fun e' => e e'.symm)]
   refine ⟨?_, m2, m3, m4⟩
   cases r with
   | cells t cs => simp only [gU] at m1 ⊢; rw [jd hβ cs (kz rows hno.2 hq)]; exact m1
   | aK Φ => exact m1
 ·have hq : q < nx := hq
  try dsimp only
  split
  ·exact h4.lt j k3
  ·exact h4.lt q hq
 ·rw [aQ] at hq hp
  by_cases e : i = q
  ·rw [if_pos e] at hq; cases hq
  ·rw [if_neg e] at hq
   have e' : ¬ q = i := fun e' => e e'.symm
   try dsimp only
   rw [if_neg e']
   by_cases e2 : i = p
   ·rw [if_pos e2.symm]
    refine h4.inj q j r false _ hq hj (fun e3 => ?_)
    subst e3
    rw [hj] at hq; cases hq
   ·rw [if_neg e2] at hp
    have e4 : ¬ p = i := fun e' => e2 e'.symm
    rw [if_neg e4]
    exact h4.inj q p r o r' hq hp hpq
 ·have hq : q < w0.n0 := hq
  try dsimp only
  rw [if_neg (by omega)]; exact h4.ext q hq
theorem ai {C : Ctx} {I : Act -> World -> Prop} {fr : List (Nat × SV)} {rows : List (Nat × Bool × aV)} {nx n : Nat} (i j : Nat) {Φ : Nat -> Option Obj -> Prop} (hj : get rows j = some (false, .aK Φ)) (hi : Nat.blt i nx = true) (hij : Nat.beq i j = false) (hn0 : C.w0.n0 <= i)
  (hno : (wG i fr || rP i rows) = false) (h : nV C I ⟨fr, (i, false, .aK Φ) :: rows, nx, n⟩) : nV C I ⟨fr, rows, nx, n⟩ := by
 unfold nV at h ⊢
 intro β a w hs
 exact h _ a w (hs.copy i j hj (by simpa [Nat.blt_eq] using hi) (Nat.ne_of_beq_eq_false hij) hn0 hno)
theorem ou {C : Ctx} {c : Code} {k : List It} {fr : List (Nat × SV)} {rows : List (Nat × Bool × aV)} {nx n : Nat} (a : Option Addr) (xs : List Value) (h0 : 0 < C.base) (hb : C.base = C.w0.w.heap.size) (hA : aS a xs C.w0.w)
  (h : LoopN C c k ⟨fr, (nx, false, .aK (G7 a xs)) :: rows, nx + 1, n⟩) : LoopN C c k ⟨fr, rows, nx, n⟩ := by
 unfold LoopN at h ⊢
 intro β act w hs
 have hm := hs.mem
 have hbl : Below C.w0.w.heap.size C.w0.w w := by rw [<- hb]; exact hm.below
 have hex : ∃ b, b < C.base /\ G7 a xs b w.heap[b]? := by
  cases xs with
  | nil => exact ⟨0, h0, fun _ _ i v hi => by simp at hi⟩
  | cons x r =>
    obtain ⟨ad, e, h1, _⟩ := hA 0 x rfl
    refine ⟨ad.block, by omega, fun W hW i v hi => ?_⟩
    obtain ⟨ad', e', h2, h3⟩ := (hA.below hbl) i v hi
    rw [e] at e'
    cases e'
    exact ⟨ad, e, rfl, by rw [World.cell?_of_block (w := w) (by rw [add_block]; exact hW)]; exact h3⟩
 obtain ⟨b, hb1, hb2⟩ := hex
 have Xf := hm.aU
 exact h _ _ _ (hs.learn (o := false) (b := b) (Φ := G7 a xs) (by omega) hb2 (fun e => by cases e) (fun i r hi => by
  have := (hm.row i true r hi).2.2.2 rfl
  omega))
theorem Mem.Tz {base : Nat} {w0 : Base} {rows : List (Nat × Bool × aV)} {nx : Nat} {β : Nat -> Nat} {w : World} (hm : Mem base w0 rows nx β w) (j : Nat) {o : Bool} {a : Option Addr} {xs : List Value} (hj : get rows j = some (o, .aK (G7 a xs))) : aS a xs w :=
 (hm.row j _ _ hj).1.2.at (hm.row j _ _ hj).1.1
def Kq (L : List (Option Addr)) (k : IntKind) (b x : Nat) (w : World) (e : Ending) (w' : World) : Prop :=
 ∃ a cap, e = .returned (.slice a (nd b x) cap) /\ aS a (nv k b x) w' /\ (bz a (nv k b x) w \/ a ∈ L) /\ (a = none -> cap = 0) /\ nd b x <= cap /\ Below w.heap.size w w'
def ApartL (C : Ctx) (L : List (Option Addr)) (rows : List (Nat × Bool × aV)) (nx : Nat) : Prop := ∀ β w, Mem C.base C.w0 rows nx β w -> ∀ ad, some ad ∈ L -> ∀ i r, get rows i = some (true, r) -> β i ≠ ad.block
theorem mQ {C : Ctx} {d : Nat} {f : FuncId} {args : List SV} {fr : List (Nat × SV)} {rows : List (Nat × Bool × aV)} {nx n : Nat} {K : St -> Prop} (L : List (Option Addr)) (k : IntKind) (b x : Nat) (h0 : 0 < C.base)
  (he : dK C.P f = true) (hd : Nat.blt d n = true) (hL : ApartL C L rows nx) (hc : ∀ β w, Mem C.base C.w0 rows nx β w -> Calls C.P f (SV.aF β args).toArray w (Kq L k b x w))
  (h : ∀ a cap, (a = none -> cap = 0) -> nd b x <= cap -> (0 < nd b x -> ∃ ad, a = some ad) -> K ⟨(d, .any (.slice a (nd b x) cap)) :: fr, (nx, false, .aK (G7 a (nv k b x))) :: rows, nx + 1, n⟩) : fE C (some d) f args ⟨fr, rows, nx, n⟩ K := by
 unfold fE
 refine ⟨he, fun β act w hs => (hc β w hs.mem).mono ?_⟩
 rintro e w' ⟨a, cap, rfl, hsl, hfr, hn, hcap, hb⟩
 have hm := hs.mem
 have hs' : Sat C.base C.w0 ⟨fr, rows, nx, n⟩ β act w' := ⟨hs.defers, hs.size, hs.slot, hm.fG hb⟩
 have hbs := hb.size
 have hbl := hm.aU
 have hex : ∃ q, q < w'.heap.size /\ G7 a (nv k b x) q w'.heap[q]? /\ ∀ i r, get rows i = some (true, r) -> β i ≠ q := by
  have hsl0 := hsl
  generalize nv k b x = xs at hsl hsl0 hfr
  cases xs with
  | nil => exact ⟨0, by omega, fun _ _ i v hi => by simp at hi, fun i r hi => by have := (hm.row i true r hi).2.2.2 rfl; omega⟩
  | cons y r =>
    obtain ⟨ad, e, h1, _⟩ := hsl 0 y rfl
    refine ⟨ad.block, h1, fun W hW i v hi => ?_, fun i r hi => ?_⟩
    ·obtain ⟨ad', e', h2, h3⟩ := hsl i v hi
     rw [e] at e'
     cases e'
     exact ⟨ad, e, rfl, by rw [World.cell?_of_block (w := w') (by rw [add_block]; exact hW)]; exact h3⟩
    ·rcases hfr with hfr | hfr
     ·have := hfr (by simp) ad e
      have := hm.lt i (hm.row i true r hi).2.2.1
      omega
     ·exact hL β w hm ad (by rw [<- e]; exact hfr) i r hi
 obtain ⟨q, h2, h3, h4⟩ := hex
 have hs2 := hs'.learn (o := false) h2 h3 (fun e => by cases e) h4
 have hs3 := hs2.put (d := d) (by simpa [Nat.blt_eq] using hd) (v := .any (.slice a (nd b x) cap)) rfl
 exact ⟨_, _, _, rfl, h a cap hn hcap (fun hx => hsl.some (iJ hx)), hs3⟩
theorem Sat.share {base : Nat} {w0 : Base} {β : Nat -> Nat} {a : Act} {w : World} {fr : List (Nat × SV)} {rows : List (Nat × Bool × aV)} {nx n : Nat} (i : Nat) {e : TypeId} {sz g m cap : Nat} {xs ys : List Value} (hs : Sat base w0 ⟨fr, rows, nx, n⟩ β a w) (hi : get rows i = some (true, .aK (dN e sz g m cap xs)))
  (hp : ∀ (j : Nat) (v : Value), ys[j]? = some v -> xs[j]? = some v) : Sat base w0 ⟨fr, (i, false, .aK (bV base (some ⟨g, 0, none⟩) ys)) :: rows, nx, n⟩ β a w := by
 obtain ⟨h1, h2, h3, h4⟩ := hs
 obtain ⟨k1, -, k3, k4⟩ := h4.row i _ _ hi
 refine ⟨h1, h2, h3, ⟨h4.below, h4.aU, fun q o r hq => ?_, h4.lt, fun q p r o r' hq hp' hpq => ?_, h4.n0, h4.ext⟩⟩
 ·rw [aQ] at hq
  by_cases e0 : i = q
  ·rw [if_pos e0] at hq
   cases hq
   subst e0
   refine ⟨⟨k1.1, fun W hW j v hj => ?_, fun _ => k4 rfl⟩, trivial, k3, fun e => by cases e⟩
   have hg : β i = g := k1.2.1
   have ho : dN e sz g m cap xs (β i) W.heap[β i]? := by rw [hW]; exact k1.2
   exact ⟨_, rfl, hg.symm, ho.cell j v (hp j v hj)⟩
  ·rw [if_neg e0] at hq
   exact h4.row q o r hq
 ·have hq' : get rows q = some (true, r) := by
   rw [aQ] at hq
   by_cases e0 : i = q
   ·rw [if_pos e0] at hq; cases hq
   ·rw [if_neg e0] at hq; exact hq
  have hp2 : ∃ o1 r1, get rows p = some (o1, r1) := by
   rw [aQ] at hp'
   by_cases e0 : i = p
   ·subst e0; exact ⟨_, _, hi⟩
   ·rw [if_neg e0] at hp'; exact ⟨_, _, hp'⟩
  obtain ⟨o1, r1, hp2⟩ := hp2
  exact h4.inj q p r o1 r1 hq' hp2 hpq
theorem Le {C : Ctx} {c : Code} {k : List It} {fr : List (Nat × SV)} {rows : List (Nat × Bool × aV)} {nx n : Nat} (i : Nat) {e : TypeId} {sz g m cap : Nat} {xs : List Value} (ys : List Value) (hi : get rows i = some (true, .aK (dN e sz g m cap xs)))
  (hp : ∀ (j : Nat) (v : Value), ys[j]? = some v -> xs[j]? = some v) (h : m <= cap -> LoopN C c k ⟨fr, (i, false, .aK (bV C.base (some ⟨g, 0, none⟩) ys)) :: rows, nx, n⟩) : LoopN C c k ⟨fr, rows, nx, n⟩ := by
 unfold LoopN at h ⊢
 intro β a w hs
 have hc : m <= cap := by
  obtain ⟨h1, -⟩ := hs.mem.row i _ _ hi
  obtain ⟨-, cur, -, h, -⟩ := h1.2
  exact h
 exact h hc β a w (hs.share i hi hp)
theorem Ik {k : IntKind} {b x : Nat} {a : Option Addr} {L : List (Option Addr)} {w : World} (h : 0 < x -> a ∈ L) : bz a (nv k b x) w \/ a ∈ L := by
 rcases Nat.eq_zero_or_pos x with rfl | h0
 ·exact .inl fun hne => absurd (List.eq_nil_of_length_eq_zero (by rw [jT, ae.aT])) hne
 ·exact .inr (h h0)
theorem Gs {k : IntKind} {b x : Nat} {a : Option Addr} {L : List (Option Addr)} {base q : Nat} (h : 0 < x -> a ∈ L) : (nv k b x ≠ [] -> base <= q) \/ a ∈ L := by
 rcases Nat.eq_zero_or_pos x with rfl | h0
 ·exact .inl fun hne => absurd (List.eq_nil_of_length_eq_zero (by rw [jT, ae.aT])) hne
 ·exact .inr (h h0)
def Lz (x : Nat) (a : Option Addr) (L : List (Option Addr)) : List (Option Addr) := if x = 0 then L else a :: L
theorem uz {x : Nat} {a : Option Addr} {L : List (Option Addr)} (h : 0 < x) : a ∈ Lz x a L := by unfold Lz; rw [if_neg (by omega)]; simp
theorem Ar {x : Nat} {a c : Option Addr} {L : List (Option Addr)} (h : c ∈ L) : c ∈ Lz x a L := by unfold Lz; split <;> simp [h]
theorem iD {C : Ctx} {rows : List (Nat × Bool × aV)} {nx : Nat} : ApartL C [] rows nx := fun _ _ _ _ h => by cases h
theorem cu {C : Ctx} {L : List (Option Addr)} {rows : List (Nat × Bool × aV)} {nx : Nat} {a : Option Addr} {k : IntKind} {b x bs : Nat} (j : Nat) (hb : 2 <= b) (hj : get rows j = some (false, .aK (bV bs a (nv k b x)))) (h : ApartL C L rows nx) : ApartL C (Lz x a L) rows nx := by
 intro β w hm ad hL i r hi
 unfold Lz at hL
 split at hL
 ·exact h β w hm ad hL i r hi
 rename_i hx
 rcases List.mem_cons.1 hL with e | hL
 ·subst e
  obtain ⟨ad', e1, e2, -⟩ := (hm.row j _ _ hj).1.2.1 w rfl 0 _ (eQ ((ae.fM hb).2 (Nat.pos_of_ne_zero hx)))
  cases e1
  rw [e2]
  refine fun e3 => hm.inj i j r _ _ hi hj (fun e => ?_) e3.symm
  subst e
  rw [hi] at hj
  cases hj
 ·exact h β w hm ad hL i r hi
theorem jE {C : Ctx} {L : List (Option Addr)} {rows : List (Nat × Bool × aV)} {nx : Nat} {a : Option Addr} {k : IntKind} {b x : Nat} {w0 : World} (hb : 2 <= b) (hs : aS a (nv k b x) w0) (e : w0.heap.size = C.base) (h : ApartL C L rows nx) : ApartL C (Lz x a L) rows nx := by
 intro β w hm ad hL i r hi
 unfold Lz at hL
 split at hL
 ·exact h β w hm ad hL i r hi
 rename_i hx
 rcases List.mem_cons.1 hL with e1 | hL
 ·subst e1
  obtain ⟨ad', e1, e2, -⟩ := hs 0 _ (eQ ((ae.fM hb).2 (Nat.pos_of_ne_zero hx)))
  cases e1
  have := (hm.row i true r hi).2.2.2 rfl
  omega
 ·exact h β w hm ad hL i r hi
end Sym
end
section
open Go.RowKit
namespace Sym
def env : Env := [(2, ⟨.int .i64, 1, false, [.int .i64 0]⟩),
 (3, ⟨.int .i64, 1, false, [.int .i64 0]⟩),
 (4, ⟨.bool, 1, false, [.lit false]⟩),
 (5, ⟨.int .u8, 1, false, [.int .u8 0]⟩),
 (9, ⟨.str, 1, false, [.str []]⟩),
 (20, ⟨.other, 1, false, [.any (Go.Value.nilIface)]⟩),
 (21, ⟨.int .i32, 1, false, [.int .i32 0]⟩),
 (23, ⟨.other, 1, false, [.any (Go.Value.nilFunc)]⟩),
 (25, ⟨.struct [(0, 9), (1, 9)], 2, true, [.str [], .str []]⟩),
 (26, ⟨.slice 28, 1, false, [.any (Go.Value.slice none 0 0)]⟩),
 (28, ⟨.struct [(0, 3), (1, 25), (3, 9), (4, 4), (5, 3), (6, 3), (7, 3), (8, 26)], 9, true, [.int .i64 0, .str [], .str [], .str [], .lit false, .int .i64 0, .int .i64 0, .int .i64 0, .any (Go.Value.slice none 0 0)]⟩),
 (31, ⟨.int .i64, 1, false, [.int .i64 0]⟩),
 (54, ⟨.other, 1, false, [.any (Go.Value.nilFunc)]⟩),
 (69, ⟨.slice 3, 1, false, [.any (Go.Value.slice none 0 0)]⟩),
 (70, ⟨.slice 3, 1, false, [.any (Go.Value.slice none 0 0)]⟩),
 (72, ⟨.struct [(0, 4), (1, 70), (2, 70)], 3, true, [.lit false, .any (Go.Value.slice none 0 0), .any (Go.Value.slice none 0 0)]⟩),
 (81, ⟨.other, 9, true, [.str [], .str [], .str [], .str [], .str [], .str [], .str [], .str [], .str []]⟩),
 (82, ⟨.other, 1, false, [.any (Go.Value.nilFunc)]⟩),
 (83, ⟨.other, 5, true, [.any (Go.Value.nilFunc), .any (Go.Value.nilFunc), .any (Go.Value.nilFunc), .any (Go.Value.nilFunc), .any (Go.Value.nilFunc)]⟩),
 (85, ⟨.other, 1, false, [.any (Go.Value.nilFunc)]⟩),
 (86, ⟨.other, 5, true, [.any (Go.Value.nilFunc), .any (Go.Value.nilFunc), .any (Go.Value.nilFunc), .any (Go.Value.nilFunc), .any (Go.Value.nilFunc)]⟩),
 (90, ⟨.other, 1, false, [.any (Go.Value.nilFunc)]⟩),
 (95, ⟨.other, 12, true, [.int .i64 0, .int .i64 0, .int .i64 0, .int .i64 0, .int .i64 0, .int .i64 0, .int .i64 0, .int .i64 0, .int .i64 0, .int .i64 0, .int .i64 0, .int .i64 0]⟩),
 (113, ⟨.slice 5, 1, false, [.any (Go.Value.slice none 0 0)]⟩),
 (121, ⟨.slice 9, 1, false, [.any (Go.Value.slice none 0 0)]⟩),
 (131, ⟨.other, 3, true, [.str [], .str [], .str []]⟩),
 (137, ⟨.slice 161, 1, false, [.any (Go.Value.slice none 0 0)]⟩),
 (139, ⟨.struct [(0, 4), (1, 137), (2, 137)], 3, true, [.lit false, .any (Go.Value.slice none 0 0), .any (Go.Value.slice none 0 0)]⟩),
 (150, ⟨.other, 1, false, [.any (Go.Value.pointer none)]⟩),
 (161, ⟨.int .u32, 1, false, [.int .u32 0]⟩),
 (165, ⟨.other, 1, false, [.any (Go.Value.nilFunc)]⟩),
 (169, ⟨.other, 1, false, [.any (Go.Value.nilIface)]⟩),
 (172, ⟨.int .u64, 1, false, [.int .u64 0]⟩),
 (185, ⟨.struct [(0, 5), (1, 5)], 2, true, [.int .u8 0, .int .u8 0]⟩),
 (189, ⟨.int .u64, 1, false, [.int .u64 0]⟩),
 (202, ⟨.other, 1, false, [.any (Go.Value.pointer none)]⟩),
 (204, ⟨.struct [(0, 202), (1, 113)], 2, true, [.any (Go.Value.pointer none), .any (Go.Value.slice none 0 0)]⟩),
 (207, ⟨.other, 1, false, [.any (Go.Value.nilFunc)]⟩),
 (208, ⟨.other, 1, false, [.any (Go.Value.nilFunc)]⟩),
 (211, ⟨.int .i64, 1, false, [.int .i64 0]⟩),
 (214, ⟨.other, 1, false, [.any (Go.Value.pointer none)]⟩),
 (227, ⟨.other, 1, false, [.any (Go.Value.pointer none)]⟩),
 (228, ⟨.other, 1, false, [.any (Go.Value.nilFunc)]⟩),
 (233, ⟨.struct [(0, 9), (1, 9), (2, 169)], 3, true, [.str [], .str [], .any (Go.Value.nilIface)]⟩),
 (238, ⟨.other, 1, false, [.any (Go.Value.pointer none)]⟩),
 (242, ⟨.other, 1, false, [.any (Go.Value.pointer none)]⟩),
 (244, ⟨.struct [(0, 9)], 1, true, [.str []]⟩)]
theorem bF : dL Tryz.prog env := ⟨⟨sizeOf2, isAgg2, fun w => ⟨_, zeroValue2 w, fun _ => rfl, ⟨trivial, trivial⟩⟩, underlying2⟩,
 ⟨sizeOf3, isAgg3, fun w => ⟨_, zeroValue3 w, fun _ => rfl, ⟨trivial, trivial⟩⟩, underlying3⟩,
 ⟨sizeOf4, isAgg4, fun w => ⟨_, zeroValue4 w, fun _ => rfl, ⟨trivial, trivial⟩⟩, underlying4⟩,
 ⟨sizeOf5, isAgg5, fun w => ⟨_, zeroValue5 w, fun _ => rfl, ⟨trivial, trivial⟩⟩, underlying5⟩,
 ⟨sizeOf9, isAgg9, fun w => ⟨_, zeroValue9 w, fun _ => rfl, ⟨trivial, trivial⟩⟩, underlying9⟩,
 ⟨sizeOf20, isAgg20, fun w => ⟨_, zeroValue20 w, fun _ => rfl, ⟨rfl, trivial⟩⟩, trivial⟩,
 ⟨sizeOf21, isAgg21, fun w => ⟨_, zeroValue21 w, fun _ => rfl, ⟨trivial, trivial⟩⟩, underlying21⟩,
 ⟨sizeOf23, isAgg23, fun w => ⟨_, zeroValue23 w, fun _ => rfl, ⟨rfl, trivial⟩⟩, trivial⟩,
 ⟨sizeOf25, isAgg25, fun w => ⟨_, zeroValue25 w, fun _ => rfl, ⟨trivial, trivial, trivial⟩⟩, ⟨_, underlying25, rfl⟩⟩,
 ⟨sizeOf26, isAgg26, fun w => ⟨_, zeroValue26 w, fun _ => rfl, ⟨rfl, trivial⟩⟩, underlying26⟩,
 ⟨sizeOf28, isAgg28, fun w => ⟨_, zeroValue28 w, fun _ => rfl, ⟨trivial, trivial, trivial, trivial, trivial, trivial, trivial, trivial, rfl, trivial⟩⟩, ⟨_, underlying28, rfl⟩⟩,
 ⟨sizeOf31, isAgg31, fun w => ⟨_, zeroValue31 w, fun _ => rfl, ⟨trivial, trivial⟩⟩, underlying31⟩,
 ⟨sizeOf54, isAgg54, fun w => ⟨_, zeroValue54 w, fun _ => rfl, ⟨rfl, trivial⟩⟩, trivial⟩,
 ⟨sizeOf69, isAgg69, fun w => ⟨_, zeroValue69 w, fun _ => rfl, ⟨rfl, trivial⟩⟩, underlying69⟩,
 ⟨sizeOf70, isAgg70, fun w => ⟨_, zeroValue70 w, fun _ => rfl, ⟨rfl, trivial⟩⟩, underlying70⟩,
 ⟨sizeOf72, isAgg72, fun w => ⟨_, zeroValue72 w, fun _ => rfl, ⟨trivial, rfl, rfl, trivial⟩⟩, ⟨_, underlying72, rfl⟩⟩,
 ⟨sizeOf81, isAgg81, fun w => ⟨_, zeroValue81 w, fun _ => rfl, ⟨trivial, trivial, trivial, trivial, trivial, trivial, trivial, trivial, trivial, trivial⟩⟩, trivial⟩,
 ⟨sizeOf82, isAgg82, fun w => ⟨_, zeroValue82 w, fun _ => rfl, ⟨rfl, trivial⟩⟩, trivial⟩,
 ⟨sizeOf83, isAgg83, fun w => ⟨_, zeroValue83 w, fun _ => rfl, ⟨rfl, rfl, rfl, rfl, rfl, trivial⟩⟩, trivial⟩,
 ⟨sizeOf85, isAgg85, fun w => ⟨_, zeroValue85 w, fun _ => rfl, ⟨rfl, trivial⟩⟩, trivial⟩,
 ⟨sizeOf86, isAgg86, fun w => ⟨_, zeroValue86 w, fun _ => rfl, ⟨rfl, rfl, rfl, rfl, rfl, trivial⟩⟩, trivial⟩,
 ⟨sizeOf90, isAgg90, fun w => ⟨_, zeroValue90 w, fun _ => rfl, ⟨rfl, trivial⟩⟩, trivial⟩,
 ⟨sizeOf95, isAgg95, fun w => ⟨_, zeroValue95 w, fun _ => rfl, ⟨trivial, trivial, trivial, trivial, trivial, trivial, trivial, trivial, trivial, trivial, trivial, trivial, trivial⟩⟩, trivial⟩,
 ⟨sizeOf113, isAgg113, fun w => ⟨_, zeroValue113 w, fun _ => rfl, ⟨rfl, trivial⟩⟩, underlying113⟩,
 ⟨sizeOf121, isAgg121, fun w => ⟨_, zeroValue121 w, fun _ => rfl, ⟨rfl, trivial⟩⟩, underlying121⟩,
 ⟨sizeOf131, isAgg131, fun w => ⟨_, zeroValue131 w, fun _ => rfl, ⟨trivial, trivial, trivial, trivial⟩⟩, trivial⟩,
 ⟨sizeOf137, isAgg137, fun w => ⟨_, zeroValue137 w, fun _ => rfl, ⟨rfl, trivial⟩⟩, underlying137⟩,
 ⟨sizeOf139, isAgg139, fun w => ⟨_, zeroValue139 w, fun _ => rfl, ⟨trivial, rfl, rfl, trivial⟩⟩, ⟨_, underlying139, rfl⟩⟩,
 ⟨sizeOf150, isAgg150, fun w => ⟨_, zeroValue150 w, fun _ => rfl, ⟨rfl, trivial⟩⟩, trivial⟩,
 ⟨sizeOf161, isAgg161, fun w => ⟨_, zeroValue161 w, fun _ => rfl, ⟨trivial, trivial⟩⟩, underlying161⟩,
 ⟨sizeOf165, isAgg165, fun w => ⟨_, zeroValue165 w, fun _ => rfl, ⟨rfl, trivial⟩⟩, trivial⟩,
 ⟨sizeOf169, isAgg169, fun w => ⟨_, zeroValue169 w, fun _ => rfl, ⟨rfl, trivial⟩⟩, trivial⟩,
 ⟨sizeOf172, isAgg172, fun w => ⟨_, zeroValue172 w, fun _ => rfl, ⟨trivial, trivial⟩⟩, underlying172⟩,
 ⟨sizeOf185, isAgg185, fun w => ⟨_, zeroValue185 w, fun _ => rfl, ⟨trivial, trivial, trivial⟩⟩, ⟨_, underlying185, rfl⟩⟩,
 ⟨sizeOf189, isAgg189, fun w => ⟨_, zeroValue189 w, fun _ => rfl, ⟨trivial, trivial⟩⟩, underlying189⟩,
 ⟨sizeOf202, isAgg202, fun w => ⟨_, zeroValue202 w, fun _ => rfl, ⟨rfl, trivial⟩⟩, trivial⟩,
 ⟨sizeOf204, isAgg204, fun w => ⟨_, zeroValue204 w, fun _ => rfl, ⟨rfl, rfl, trivial⟩⟩, ⟨_, underlying204, rfl⟩⟩,
 ⟨sizeOf207, isAgg207, fun w => ⟨_, zeroValue207 w, fun _ => rfl, ⟨rfl, trivial⟩⟩, trivial⟩,
 ⟨sizeOf208, isAgg208, fun w => ⟨_, zeroValue208 w, fun _ => rfl, ⟨rfl, trivial⟩⟩, trivial⟩,
 ⟨sizeOf211, isAgg211, fun w => ⟨_, zeroValue211 w, fun _ => rfl, ⟨trivial, trivial⟩⟩, underlying211⟩,
 ⟨sizeOf214, isAgg214, fun w => ⟨_, zeroValue214 w, fun _ => rfl, ⟨rfl, trivial⟩⟩, trivial⟩,
 ⟨sizeOf227, isAgg227, fun w => ⟨_, zeroValue227 w, fun _ => rfl, ⟨rfl, trivial⟩⟩, trivial⟩,
 ⟨sizeOf228, isAgg228, fun w => ⟨_, zeroValue228 w, fun _ => rfl, ⟨rfl, trivial⟩⟩, trivial⟩,
 ⟨sizeOf233, isAgg233, fun w => ⟨_, zeroValue233 w, fun _ => rfl, ⟨trivial, trivial, rfl, trivial⟩⟩, ⟨_, underlying233, rfl⟩⟩,
 ⟨sizeOf238, isAgg238, fun w => ⟨_, zeroValue238 w, fun _ => rfl, ⟨rfl, trivial⟩⟩, trivial⟩,
 ⟨sizeOf242, isAgg242, fun w => ⟨_, zeroValue242 w, fun _ => rfl, ⟨rfl, trivial⟩⟩, trivial⟩,
 ⟨sizeOf244, isAgg244, fun w => ⟨_, zeroValue244 w, fun _ => rfl, ⟨trivial, trivial⟩⟩, ⟨_, underlying244, rfl⟩⟩, (show Tryz.prog.follows .mixedOrders = true by kernel_rfl)⟩
end Sym
end
end Go.Proofs.YtdkhkfdenlabaaaGreatDoor
