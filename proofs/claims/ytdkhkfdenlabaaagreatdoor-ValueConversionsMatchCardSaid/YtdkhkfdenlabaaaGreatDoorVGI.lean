/- The shelf's contracts, laid by hand (lay -/
import Derived.Test.YtdkhkfdenlabaaaGreatDoorVGH
import Derived.Test.YtdkhkfdenlabaaaGreatDoorVGD
import Derived.Lib.ItoaMem
import Derived.Test.YtdkhkfdenlabaaaGreatDoorVGG
import Derived.Test.YtdkhkfdenlabaaaGreatDoorVGE
set_option linter.unusedSimpArgs false
set_option linter.unusedVariables false
set_option maxRecDepth 100000
set_option maxHeartbeats 64000000
namespace Go.Proofs
open Go.Shelf
def Tryz.lays166_ren : Go.Shelf.Ren := ⟨fun | 166 => 224 | 240 => 249 | 276 => 262 | n => n, fun | 0 => 0 | 3 => 3 | 4 => 4 | 5 => 5 | 9 => 9 | 20 => 20 | 37 => 113 | 70 => 202 | 72 => 204 | 75 => 169 | 80 => 143 | 164 => 238 | n => n, fun | n => n⟩
theorem Tryz.lays166 : Go.Proofs.Lays.n166 Tryz.prog Tryz.lays166_ren := {
 mixed := by kernel_rfl
 f166 := func224.trans (congrArg some (by kernel_rfl))
 f240 := func249.trans (congrArg some (by kernel_rfl))
 f276 := func262.trans (congrArg some (by kernel_rfl))
 t0 := underlying0
 a0 := isAgg0
 z0 := sizeOf0
 v0 := zeroValue0
 t3 := underlying3
 a3 := isAgg3
 z3 := sizeOf3
 v3 := zeroValue3
 t4 := underlying4
 a4 := isAgg4
 z4 := sizeOf4
 v4 := zeroValue4
 t9 := underlying9
 a9 := isAgg9
 z9 := sizeOf9
 v9 := zeroValue9
 t20 := underlying20
 a20 := isAgg20
 z20 := sizeOf20
 v20 := zeroValue20
 t37 := underlying113
 a37 := isAgg113
 z37 := sizeOf113
 v37 := zeroValue113
 t70 := underlying202
 a70 := isAgg202
 z70 := sizeOf202
 v70 := zeroValue202
 t72 := underlying204
 a72 := isAgg204
 z72 := sizeOf204
 v72 := zeroValue204
 t75 := underlying169
 a75 := isAgg169
 z75 := sizeOf169
 v75 := zeroValue169
 t164 := underlying238
 a164 := isAgg238
 z164 := sizeOf238
 v164 := zeroValue238 }
theorem Tryz.Builder_Extra_166 : Builder.Extra Tryz.prog Tryz.lays166_ren := {
 sizeBuilder := by kernel_rfl
 liesBuilder := by kernel_rfl
 t5 := underlying5
 a5 := isAgg5
 z5 := sizeOf5
 v5 := zeroValue5
 infoByte := by kernel_rfl
 cellsByte := by kernel_rfl
 sizeByte := by kernel_rfl
 neB5 := by decide }
open Go.RowKit in
theorem Tryz.Builder_WriteString_k (B b : Nat) (bs : List Value) (s : ByteArray) (w : World) (h : Lib.IsBuilderF 204 5 B b bs w) (hlen : bs.length + s.size <= 140737488355328) (hBw : B <= w.heap.size) :
  Calls Tryz.prog 224 #[.pointer (some ⟨b, 0, none⟩), .string s] w fun e w' => e = .returned (.tuple #[.int .i64 s.size, .nilIface]) /\ (Lib.BuilderAtF 204 5 B b (.pointer (some ⟨b, 0, none⟩)) (bs ++ Lib.strCells s) w' /\ Below B w w' /\ Lib.OthersKept 5 (some b) w w') := Any.Builder_WriteString_k Tryz.lays166 Tryz.Builder_Extra_166 B b bs s w h hlen hBw
end Go.Proofs
namespace Go.Proofs.YtdkhkfdenlabaaaGreatDoor
open Go.Proofs.Tryz
section
open Go.RowKit Go.Shelf
open Sym
attribute [local go_sem] Oper.semAt_some
def wC (n : Nat) (p : Nat × Dg) : List UInt8 := (if p.1 + 1 < n then List.replicate (9 - (Lib.decDigits p.2.1).length) 48 else []) ++ Lib.decDigits p.2.1
def JW (n : Nat) (ps : List (Nat × Dg)) : List UInt8 := ps.foldl (fun s p => s ++ wC n p) []
theorem yL (n : Nat) (ps : List (Nat × Dg)) (p : Nat × Dg) : JW n (ps ++ [p]) = JW n ps ++ wC n p := by simp [JW]
theorem iL {d : Nat} (h : d < 1000000000) : 1 <= (Lib.decDigits d).length /\ (Lib.decDigits d).length <= 9 := by
 refine ⟨?_, (ae.F8 9 d (by omega) (by simpa using h)).2⟩
 rw [Lib.decDigits]
 split <;> simp
theorem OM (n : Nat) (p : Nat × Dg) : (wC n p).length <= 9 := by
 obtain ⟨h1, h2⟩ := iL p.2.2
 unfold wC
 split <;> simp <;> omega
theorem TJ (n : Nat) (ps : List (Nat × Dg)) : (JW n ps).length <= 9 * ps.length := by
 unfold JW
 have : ∀ (l : List (Nat × Dg)) (s : List UInt8), (l.foldl (fun s p => s ++ wC n p) s).length <= s.length + 9 * l.length := by
  intro l
  induction l with
  | nil => intro s; simp
  | cons p r ih => intro s; rw [List.foldl_cons]; have := ih (s ++ wC n p); have h2 := OM n p; simp only [List.length_append, List.length_cons] at this ⊢; omega
 simpa using this ps []
def limb (x i : Nat) : Dg := ⟨ae.bu 1000000000 i x, ae.dG (by omega) i x⟩
theorem NY {x n : Nat} (h : 0 < n) (hn : n = ae.nd 1000000000 x) : 0 < x / 1000000000 ^ (n - 1 - 0) := by
 have h1 := (ae.wH (b := 1000000000) (by omega) x x (Nat.le_refl _)).2
 change ae.nd 1000000000 x = 0 \/ 1000000000 ^ (ae.nd 1000000000 x - 1) <= x at h1
 rw [<- hn] at h1
 exact Nat.div_pos (by rcases h1 with h1 | h1; (omega); exact h1) (Nat.pow_pos (by omega))
theorem TL {x : Nat} (n : Nat) (hn : n = ae.nd 1000000000 x) : ∀ k, k <= n -> JW n (lJ (limb x) n k) = ae.rC (x / 1000000000 ^ (n - k)) := by
 intro k
 induction k with
 | zero =>
   intro _
   have : x / 1000000000 ^ (n - 0) = 0 := Nat.div_eq_of_lt (by rw [hn]; exact ae.dP (by omega) x)
   rw [this]; rfl
 | succ k ih =>
   intro hk
   rw [rF, yL, ih (by omega)]
   have e1 : n - (k + 1) = n - 1 - k := by omega
   rw [e1]
   have e2 : n - k = n - 1 - k + 1 := by omega
   rw [e2]
   unfold wC limb
   dsimp only
   rcases Nat.eq_zero_or_pos k with h0 | h0
   ·subst h0
    rw [if_neg (by omega)]
    have e3 : x / 1000000000 ^ (n - 1 - 0 + 1) = 0 := Nat.div_eq_of_lt (by rw [show n - 1 - 0 + 1 = n by omega, hn]; exact ae.dP (by omega) x)
    rw [e3]
    have h1 : 0 < x / 1000000000 ^ (n - 1 - 0) := NY (by omega) hn
    rw [ae.tC h1]
    have e4 : ae.bu 1000000000 (n - 1 - 0) x = x / 1000000000 ^ (n - 1 - 0) := by
     unfold ae.bu
     apply Nat.mod_eq_of_lt
     rw [Nat.pow_succ, <- Nat.div_div_eq_div_mul] at e3
     rcases Nat.lt_or_ge (x / 1000000000 ^ (n - 1 - 0)) 1000000000 with h | h
     ·exact h
     ·have := Nat.div_pos h (by omega : 0 < 1000000000); omega
    rw [e4]; rfl
   ·rw [if_pos (by omega)]
    refine (ae.QU (by omega) ?_).1.symm
    have := NY (x := x) (n := n) (by omega) hn
    exact zl this (Nat.div_le_div_left (Nat.pow_le_pow_right (by omega) (by omega)) (Nat.pow_pos (by omega)))
end
section
open Go.RowKit Go.Shelf
open Sym
attribute [local go_sem] Oper.semAt_some
structure XW (w : World) : Prop where
 tab : Lib.TabIs Tryz.prog w "internal/strconv.uint64pow10" .u64 Lib.pow10Tab
theorem XW.below {w w' : World} (h : XW w) (hb : BW w w') : XW w' := by
 obtain ⟨h1⟩ := h
 refine ⟨?_⟩
 unfold Lib.TabIs at h1 ⊢
 rw [<- h1]
 unfold World.var?
 cases hg : Tryz.prog.globalNamed "internal/strconv.uint64pow10" with
 | none => rfl
 | some g =>
   have hlt : g < w.heap.size := by
    rcases Nat.lt_or_ge g w.heap.size with h0 | h0
    ·exact h0
    ·unfold World.var? at h1
     rw [hg] at h1
     simp [Array.getElem?_eq_none h0] at h1
   simp [hb.block g hlt]
theorem TV (w : World) (n : Nat) (os : Array Obj) : BW w (Go.Sort.grow (w.drewN n) os) := by
 refine ⟨rfl, rfl, rfl, by simp [Go.Sort.grow, World.drewN], fun k hk => ?_⟩
 show (w.heap ++ os)[k]? = _
 rw [Array.getElem?_append_left hk]
theorem Qe (n : Nat) (w : World) (hn : n < 4294967296) (hw : XW w) : QC 139 #[.int .i64 (n : Int)] w (.string ⟨(Lib.decDigits n).toArray⟩) := by
 refine (Tryz.strconv_Itoa (n : Int) (by omega) (by omega) w hw.tab).mono ?_
 rintro e w' ⟨rfl, k, os, rfl⟩
 exact ⟨by rw [Lib.itoa_nonneg], TV w k os⟩
theorem AO {T e : TypeId} {B b : Nat} {p : Value} {bs : List Value} {W W' : World} (h : Lib.BuilderAtF T e B b p bs W) (hk : ∀ (k : Nat) (c : Array Value) (t : TypeId) (fz : Nat × Nat), W.heap[k]? = some (Obj.cells c t fz) -> W'.heap[k]? = some (Obj.cells c t fz)) : Lib.BuilderAtF T e B b p bs W' := by
 obtain ⟨h1, v, h2, ⟨h3, h4⟩, h5⟩ := h
 refine ⟨h1, v, hk _ _ _ _ h2, ⟨h3, ?_⟩, h5⟩
 rcases h4 with h4 | ⟨g, cap, cur, fz, k1, k2, k3, k4⟩
 ·exact .inl h4
 ·exact .inr ⟨g, cap, cur, fz, k1, k2, hk _ _ _ _ k3, k4⟩
theorem y7 {T e : TypeId} {B b : Nat} {bs : List Value} {W W' : World} (h : Lib.IsBuilderF T e B b bs W) (hk : ∀ (k : Nat) (c : Array Value) (t : TypeId) (fz : Nat × Nat), W.heap[k]? = some (Obj.cells c t fz) -> W'.heap[k]? = some (Obj.cells c t fz)) : Lib.IsBuilderF T e B b bs W' :=
 h.imp (fun h => AO h hk) (fun h => AO h hk)
theorem UB (W : World) (v : Value) (t : TypeId) : (W.alloc (.cells #[v] t)).cell? ⟨W.heap.size, 0, none⟩ = some v := by simp
theorem WS {W : World} {a : Addr} {v : Value} (o : Obj) (h : W.cell? a = some v) : (W.alloc o).cell? a = some v := (((Below.refl W.heap.size W).alloc (Nat.le_refl _) o).cell (p := a) (World.block_lt_of_cell? _ _ h)).trans h
abbrev MN : ByteArray := { data := #[48, 48, 48, 48, 48, 48, 48, 48] }
theorem O7 (m : Nat) (h : m <= 8) : Lib.strCells (MN.extract 0 m) = Lib.byteCells (List.replicate m 48) /\ (MN.extract 0 m).size <= 8 := by
 have : m = 0 \/ m = 1 \/ m = 2 \/ m = 3 \/ m = 4 \/ m = 5 \/ m = 6 \/ m = 7 \/ m = 8 := by omega
 rcases this with rfl | rfl | rfl | rfl | rfl | rfl | rfl | rfl | rfl <;> exact ⟨by rfl, by decide⟩
theorem wS (l : List UInt8) : Lib.strCells ⟨l.toArray⟩ = Lib.byteCells l := by simp [Lib.strCells, Lib.byteCells]
attribute [local irreducible] CallsIn ByteArray.extract
theorem wM {e : TypeId} {b : Option Nat} {W W' : World} (h : BW W W') : Lib.OthersKept e b W W' := fun k o hk _ _ => by
 have hlt : k < W.heap.size := by
  rcases Nat.lt_or_ge k W.heap.size with h0 | h0
  ·exact h0
  ·rw [Array.getElem?_eq_none h0] at hk; cases hk
 rw [h.block k hlt]; exact hk
theorem Hg {W W' : World} (h : BW W W') : ∀ (k : Nat) (c : Array Value) (t : TypeId) (fz : Nat × Nat), W.heap[k]? = some (Obj.cells c t fz) -> W'.heap[k]? = some (Obj.cells c t fz) := fun k c t fz hk => by
 have hlt : k < W.heap.size := by
  rcases Nat.lt_or_ge k W.heap.size with h0 | h0
  ·exact h0
  ·rw [Array.getElem?_eq_none h0] at hk; cases hk
 rw [h.block k hlt]; exact hk
theorem Oe {T e : TypeId} {B b : Nat} {bs : List Value} {W : World} (h : Lib.IsBuilderF T e B b bs W) : ∃ c t fz, W.heap[b]? = some (Obj.cells c t fz) := by
 rcases h with ⟨_, v, h, _⟩ | ⟨_, v, h, _⟩ <;> exact ⟨_, _, _, h⟩
theorem G8 {n1 : Nat} {v : Value} {bs : List Value} {W wE : World} (hbl : Lib.IsBuilderF 204 5 n1 n1 bs W) (hbs : W.heap[n1 + 1]? = some (.cells #[v] 137 (0, 0))) (ho : Lib.OthersKept 5 (some n1) W wE) (hB : Below n1 W wE) :
  KeepsOthers W wE /\ Qi n1 (n1 + 1) W wE /\ wE.heap[n1 + 1]? = some (.cells #[v] 137 (0, 0)) := by
 have h1 : wE.heap[n1 + 1]? = some (.cells #[v] 137 (0, 0)) := ho _ _ hbs (by simp) (fun c fz e => by cases e)
 obtain ⟨c, t, fz, h2⟩ := Oe hbl
 refine ⟨⟨hB.size, fun k o hk hc => ho k o hk (fun e => ?_) (fun c fz e => by subst e; cases hc)⟩, fun p u hp hu => ?_, h1⟩
 ·cases e; rw [h2] at hk; cases hk; cases hc
 ·rcases hp with hp | hp
  ·exact (hB.cell hp).trans hu
  ·have e1 : wE.heap[p.block]? = W.heap[p.block]? := by rw [hp, h1, hbs]
   rw [World.cell?_of_block (w := W) e1]; exact hu
theorem TF (ad : Addr) (cap x : Nat) (w : World) (hw : XW w) (hx0 : 0 < x) (hx : ae.nd 1000000000 x <= 1000000) (hs : aS (some ad) (nv .u32 1000000000 x) w) (hb0 : ad.block < w.heap.size) :
  QC 204 #[.slice (some ad) (ae.nd 1000000000 x) cap] w (.string ⟨(Lib.decDigits x).toArray⟩) := by
 refine (callsIn_wide (n := 8)).1 ?_
 refine callsIn_of_wp_marks func204 rfl trivial ?_ rfl
 simp only [ntmps204, List.size_toArray, List.length_cons, List.length_nil, Nat.reduceAdd, Nat.reduceSub, Array.replicate_succ, Array.replicate_zero, List.push_toArray, List.append_toArray, List.nil_append, List.cons_append]
 have hz := fun (w' : World) => lH (some ad) (ae.nd 1000000000 x) cap w'
 rw [show decide ((ae.nd 1000000000 x : Int) = 0) = false from decide_eq_false (by have := (ae.fM (b := 1000000000) (by omega)).2 hx0; omega)] at hz
 generalize hn : ae.nd 1000000000 x = n at *
 gi_wp2_with first | (refine ⟨trivial, ?_⟩; gi_at_call 172; refine (callsIn_wide.2 (hz _)).mono ?_; rintro e w1 ⟨rfl, hb1⟩; have hc1 := (hb1.cell (p := ⟨w.heap.size, 0, none⟩) (by simp)).trans (UB w _ _); have hc2 := fun (o : Obj) => WS o hc1) | (refine ⟨trivial, ?_⟩; gi_at_call 228; refine (Us Fence.wide _ trivial rfl _ _ _ _).mono ?_; rintro e w' ⟨rfl, rfl⟩)
 have hsz1 : w.heap.size + 1 <= w1.heap.size := by simpa using hb1.size
 have hB1 : BW w w1 := ((Below.refl _ w).alloc (Nat.le_refl _) _).trans (hb1.mono (by simp))
 have hBs : ((w1.alloc (.cells #[.pointer none, .slice none 0 0] 204)).alloc (.cells #[.slice (some ad) n cap] 137)).heap[w1.heap.size + 1]? = some (.cells #[.slice (some ad) n cap] 137 (0, 0)) := by
  have := World.alloc_heap_new (w1.alloc (.cells #[.pointer none, .slice none 0 0] 204)) (.cells #[.slice (some ad) n cap] 137)
  simpa using this
 have hbd : ((w1.alloc (.cells #[.pointer none, .slice none 0 0] 204)).alloc (.cells #[.slice (some ad) n cap] 137)).heap[w1.heap.size]? = some (.cells #[.pointer none, .slice none 0 0] 204 (0, 0)) :=
  (Below.heap_alloc _ _ _ (by simp)).trans (World.alloc_heap_new w1 _)
 have hB0 : BW w1 ((w1.alloc (.cells #[.pointer none, .slice none 0 0] 204)).alloc (.cells #[.slice (some ad) n cap] 137)) := ((Below.refl _ w1).alloc (Nat.le_refl _) _).alloc (by simp) _
 have hs0 : ((w1.alloc (.cells #[.pointer none, .slice none 0 0] 204)).alloc (.cells #[.slice (some ad) n cap] 137)).heap.size = w1.heap.size + 2 := by simp
 obtain ⟨W0, hW0⟩ : ∃ W0, ((w1.alloc (.cells #[.pointer none, .slice none 0 0] 204)).alloc (.cells #[.slice (some ad) n cap] 137)) = W0 := ⟨_, rfl⟩
 rw [hW0] at hBs hbd hB0 hs0
 rw [hW0]
 have hcells : ∀ j, j < n -> W0.cell? (ad.add j) = some (.int .u32 ((limb x j).1 : Int)) := fun j hj => by
  obtain ⟨ad', e, h1, h2⟩ := (hs.below (hB1.trans (hB0.mono (by omega)))) j _ (eQ (by rw [hn]; exact hj))
  cases e
  exact h2
 refine wpIn_rangeFunc_ownF rfl (by omega) (gf := 251) (lb := #[.pointer (some ⟨w1.heap.size + 1, 0, none⟩)]) rfl trivial (enters_of func251 (by kernel_rfl) rfl)
  (Kz Fence.wide _ trivial rfl (by omega) (w1.heap.size + 1) w1.heap.size n cap ad (limb x) (by omega) W0 (by omega) (by omega) (by omega) (by simp [World.cell?, hBs]) hcells) (fun h k => h.trans k) (fun W l o o' hl ho hoc _ p v hp hv => ?kb) (Below.refl _ _) (fun _ => rfl)
  (fun pre W => (Lib.IsBuilderF 204 5 w1.heap.size w1.heap.size (Lib.byteCells (JW n pre)) W /\ W.heap[w1.heap.size + 1]? = some (.cells #[.slice (some ad) n cap] 137 (0, 0))) /\ BW w1 W /\ w1.heap.size + 2 <= W.heap.size)
  (fun _ _ _ => False)
  ?own
  (fun _ _ _ _ _ hs _ _ => hs)
  ⟨⟨.inl ⟨Nat.le_refl _, .slice none 0 0, hbd, ⟨rfl, .inl ⟨rfl, rfl⟩⟩, by simp [Value.ownBlock]⟩, hBs⟩, hB0, by omega⟩
  (fun x => { tmps := #[.slice (some ad) n cap, .pointer (some ⟨w.heap.size, 0, none⟩), .string { data := #[] }, .pointer (some ⟨w1.heap.size, 0, none⟩), .int .i64 (x.1 : Int), .int .u32 (x.2.1 : Int), undef, .slice (some ad) n cap, .bool false, .slice (some ad) n cap, .func (.func 251) #[] #[.pointer (some ⟨w1.heap.size + 1, 0, none⟩)], .int .i64 (x.1 : Int), .int .u32 (x.2.1 : Int), undef, undef, undef, undef, undef, undef, undef, undef, undef, undef, undef, undef, undef, undef, undef, undef], defers := [] }) ?assign ?body ?done ?stop
 case kb => exact cell_kept hv (grownBy_putObj' W l o') (fun r e => by cases e; exact ⟨o, ho, hoc⟩)
 case own =>
  rintro s A B row ⟨⟨g1, g2⟩, g3, g4⟩ hg hr
  have hk : ∀ (k : Nat) (c : Array Value) (t : TypeId) (fz : Nat × Nat), A.heap[k]? = some (Obj.cells c t fz) -> B.heap[k]? = some (Obj.cells c t fz) := fun k c t fz h => by
   have hlt : k < A.heap.size := (Array.getElem?_eq_some_iff.1 h).1
   rw [hg.block k hlt (fun e => by obtain ⟨-, o, ho, hc⟩ := hr k e.symm; rw [h] at ho; cases ho; cases hc)]
   exact h
  have hBB : Below w1.heap.size A B := ⟨hg.os, hg.tape, hg.output, hg.size, fun k hk2 => hg.block k (by omega) (fun e => by have := (hr k e.symm).1; omega)⟩
  exact ⟨⟨y7 g1 hk, hk _ _ _ _ g2⟩, g3.trans hBB, by have := hg.size; omega⟩
 case assign =>
  intro l x W K hK
  gi_wp2
  exact hK
 case body =>
  rintro l pre x W ⟨⟨hbl, hbs⟩, hBW, hWs⟩ hlt
  have X8 : XW W := hw.below (hB1.trans (hBW.mono (by omega)))
  have hcs := (hBW.cell (p := ⟨w.heap.size, 0, none⟩) (by simp; omega)).trans hc1
  obtain ⟨hd1, hd2⟩ := iL x.2.2
  have hx2 := x.2.2
  obtain ⟨hp1, hp2⟩ := O7 (9 - (Lib.decDigits x.2.1).length) (by omega)
  have htl := TJ n pre
  have hds : (ByteArray.mk (Lib.decDigits x.2.1).toArray).size = (Lib.decDigits x.2.1).length := by simp [ByteArray.size]
  gi_wp2_with first | (refine ⟨trivial, ?_⟩; gi_at_call 139; refine (CallsIn.inRound l (callsIn_wide.2 (Qe x.2.1 _ (by omega) X8))).mono ?_; rintro e w2 ⟨rfl, hb2⟩; have hcs2 := (hb2.cell (p := ⟨w.heap.size, 0, none⟩) (by dsimp only; omega)).trans hcs; have Xf := y7 hbl (Hg hb2); have hbw2 := hb2.size) | (refine ⟨trivial, ?_⟩; gi_at_call 224; refine (CallsIn.inRound l (callsIn_wide.2 (Tryz.Builder_WriteString_k w1.heap.size w1.heap.size _ (MN.extract 0 (9 - (Lib.decDigits x.2.1).length)) w2 Xf (by rw [Lib.byteCells_length]; omega) (by omega)))).mono ?_; rintro e w3 ⟨rfl, YF, hb3, ho3⟩; rw [hp1, <- Lib.byteCells_append] at YF; have hbw3 := hb3.size) | (refine ⟨trivial, ?_⟩; gi_at_call 224; refine (CallsIn.inRound l (callsIn_wide.2 (Tryz.Builder_WriteString_k w1.heap.size w1.heap.size _ ⟨(Lib.decDigits x.2.1).toArray⟩ w3 (.inr YF) (by rw [Lib.byteCells_length, hds]; (try simp only [List.length_append, List.length_replicate]); omega) (by omega)))).mono ?_; rintro e w4 ⟨rfl, Rt, hb4, ho4⟩; rw [wS, <- Lib.byteCells_append] at Rt; have Z5 := hb4.size) | (refine ⟨trivial, ?_⟩; gi_at_call 224; refine (CallsIn.inRound l (callsIn_wide.2 (Tryz.Builder_WriteString_k w1.heap.size w1.heap.size _ ⟨(Lib.decDigits x.2.1).toArray⟩ w2 Xf (by rw [Lib.byteCells_length, hds]; (try simp only [List.length_append, List.length_replicate]); omega) (by omega)))).mono ?_; rintro e w4 ⟨rfl, Rt, hb4, ho4⟩; rw [wS, <- Lib.byteCells_append] at Rt; have Z5 := hb4.size)
  ·rename_i hlt2
   have hB4 : Below w1.heap.size W w4 := (hb2.mono (by omega)).trans (hb3.trans hb4)
   obtain ⟨k1, k2, k3⟩ := G8 hbl hbs ((wM hb2).trans (ho3.trans ho4)) hB4
   refine ⟨k1, k2, ⟨?_, k3⟩, hBW.trans hB4, by omega⟩
   rw [yL, wC, if_pos (by omega), <- List.append_assoc]
   exact .inr Rt
  ·rename_i hlt2
   have hB4 : Below w1.heap.size W w4 := (hb2.mono (by omega)).trans hb4
   obtain ⟨k1, k2, k3⟩ := G8 hbl hbs ((wM hb2).trans ho4) hB4
   refine ⟨k1, k2, ⟨?_, k3⟩, hBW.trans hB4, by omega⟩
   rw [yL, wC, if_neg (by omega), List.nil_append]
   exact .inr Rt
 case done =>
  rintro D ys W hD rfl ⟨⟨hbl, hbs⟩, hBW, hWs⟩ hK
  gi_wp2_with first | (refine ⟨trivial, ?_⟩; gi_at_call 226; refine (callsIn_wide.2 (Tryz.Builder_String_any_k w1.heap.size w1.heap.size _ W hbl (by omega))).mono ?_; rintro e w5 ⟨rfl, hbl5, hb5, ho5⟩)
  have hK5 := ho5 D _ hK (by simp; omega) (fun c fz e => by cases e)
  have htx : JW n (lJ (limb x) n n) = Lib.decDigits x := by
   rw [TL n hn.symm n (Nat.le_refl _), Nat.sub_self, Nat.pow_zero, Nat.div_one, ae.tC hx0]
  refine ⟨by simp, .inl ⟨_, _, rfl, run_takeDeferred hK5, ?_⟩⟩
  exact ⟨_, results_tmp rfl _ _ _, by rw [htx]; rfl, hB1.trans (((hBW.trans hb5).trans (belowK_b (w := w1) (Nat.le_refl _) w5 D _ _ (by omega) hK5 rfl rfl)).mono (by omega))⟩
 case stop =>
  rintro D c pre W _ _ h _
  exact h.elim
theorem JU (a : Option Addr) (cap x : Nat) (w : World) (hw : XW w) (hx : ae.nd 1000000000 x <= 1000000) (hs : aS a (nv .u32 1000000000 x) w) :
  QC 204 #[.slice a (ae.nd 1000000000 x) cap] w (.string (ah (Lib.decDigits x))) := by
 rcases Nat.eq_zero_or_pos x with rfl | h0
 ·have hz := fun w => lH a (ae.nd 1000000000 0) cap w
  rw [ae.aT, show decide (((0 : Nat) : Int) = 0) = true from rfl] at hz
  rw [ae.aT, Lib.decDigits_one (by omega)]
  refine yE func204 rfl results204 ntmps204 [] [] [.any (.slice a 0 cap)] w ?_
  repeat' (first | exact ⟨⟩ | refine yG ?_ ?_ | refine yA (.lit true) (fun _ => hz) ?_ | intro _)
  all_goals rfl
 ·obtain ⟨ad, rfl⟩ := aS.some hs (iJ ((ae.fM (b := 1000000000) (by omega)).2 h0))
  obtain ⟨ad', e, h1, h2⟩ := hs 0 _ (eQ ((ae.fM (b := 1000000000) (by omega)).2 h0))
  cases e
  exact TF ad cap x w hw h0 hx hs h1
end
section
open Go.RowKit
open Sym
structure XV (w : World) : Prop where
 xw : XW w
 utf : Lib.Utf8Tabs 2 3 w
 len : ∃ m, w.cell? ⟨4, 0, none⟩ = some (.int .i64 m)
 ZB : ∃ te pe, w.cell? ⟨5, 0, none⟩ = some (.iface te pe)
 ran : ∃ te pe, w.cell? ⟨6, 0, none⟩ = some (.iface te pe)
 Yw : ∀ i, i < 9 -> w.cell? ⟨0, i, none⟩ = some (.string (ah (af.bD i)))
theorem cell_below {w w' : World} {a : Addr} {v : Value} (h : w.cell? a = some v) (hb : BW w w') : w'.cell? a = some v := (hb.cell (World.block_lt_of_cell? _ _ h)).trans h
theorem XV.below {w w' : World} (h : XV w) (hb : BW w w') : XV w' where
 xw := h.xw.below hb
 utf := ⟨fun c hc => cell_below (h.utf.1 c hc) hb, fun i hi => ⟨cell_below (h.utf.2 i hi).1 hb, cell_below (h.utf.2 i hi).2 hb⟩⟩
 len := h.len.imp fun _ h => cell_below h hb
 ZB := h.ZB.imp fun _ h => h.imp fun _ h => cell_below h hb
 ran := h.ran.imp fun _ h => h.imp fun _ h => cell_below h hb
 Yw := fun i hi => cell_below (h.Yw i hi) hb
def XR (w : World) : Prop := ∀ i, i < 9 -> w.cell? ⟨1, i, none⟩ = some (.string (ah (af.bD i)))
theorem XR.below {w w' : World} (h : XR w) (hb : BW w w') : XR w' := fun i hi => cell_below (h i hi) hb
namespace Sym
theorem vK {C : Ctx} {G : eU} {x y : Operand} {t e : TypeId} {a : Addr} {len j sz : Nat} {i : Int} (hi : i = (j : Nat)) (ht : C.P.underlying t = some (.array len e)) (hs : ∀ w, (sizeOf e).run C.P w = .ok sz w) (hj : j < len) :
  dH C G (.indexAddr t x y) [.any (.pointer (some a)), .int .i64 i] (.any (.pointer (some (a.add (j * sz))))) := by
 subst hi
 unfold dH
 intro ρ β w dst ty pos after g _ _ h
 have h' : ρ x = .pointer (some a) /\ ρ y = .int .i64 (j : Nat) := by simpa [jg, SV.aF, SV.den] using h
 have q : (underlying t).run C.P w = .ok (.array len e) w := by simp [underlying, ht]
 simp [execOp, Instr.indexAt, Instr.sureAddr, h'.1, h'.2, asIntOf, q, hs, hj, SV.den]
end Sym
end
end Go.Proofs.YtdkhkfdenlabaaaGreatDoor
