/- The text of a number. Values: what the walks ask of the world; single look-ups. -/
import Derived.Test.YtdkhkfdenlabaaaGreatDoorLGG
import Derived.Test.YtdkhkfdenlabaaaGreatDoorLGH
import Derived.Test.YtdkhkfdenlabaaaGreatDoorLGE
set_option linter.unusedSimpArgs false
set_option linter.unusedVariables false
set_option maxRecDepth 100000
set_option maxHeartbeats 64000000
namespace Go.Proofs.YtdkhkfdenlabaaaGreatDoor
open Go.RowKit Go.Shelf
open Sym
attribute [local go_sem] Oper.semAt_some
structure XW (w : World) : Prop where
 tab : Lib.TabIs Tryz.prog w "internal/strconv.uint64pow10" .u64 Lib.pow10Tab
theorem XW.below {w w' : World} (h : XW w) (hb : BW w w') : XW w' := by
 obtain ⟨h1⟩ := h
 refine ⟨?_⟩
 unfold Lib.TabIs at h1 ⊢
 rw [← h1]
 unfold World.var?
 cases hg : Tryz.prog.globalNamed "internal/strconv.uint64pow10" with
 | none => rfl
 | some g =>
   have hlt : g < w.heap.size := by
    rcases Nat.lt_or_ge g w.heap.size with h0 | h0
    ·exact h0
    ·unfold World.var? at h1
     rw [hg] at h1
     simp [Array.getElem?_eq_none h0] at h1
   simp [hb.block g hlt]
theorem xgrown (w : World) (n : Nat) (os : Array Obj) : BW w (Go.Sort.grow (w.drewN n) os) := by
 refine ⟨rfl, rfl, rfl, by simp [Go.Sort.grow, World.drewN], fun k hk => ?_⟩
 show (w.heap ++ os)[k]? = _
 rw [Array.getElem?_append_left hk]
theorem xitoa_any (n : Nat) (w : World) (hn : n < 4294967296) (hw : XW w) : QC 139 #[.int .i64 (n : Int)] w (.string ⟨(Lib.decDigits n).toArray⟩) := by
 refine (Tryz.strconv_Itoa (n : Int) (by omega) (by omega) w hw.tab).mono ?_
 rintro e w' ⟨rfl, k, os, rfl⟩
 exact ⟨by rw [Lib.itoa_nonneg], xgrown w k os⟩
theorem bld_blocks {T e : TypeId} {B b : Nat} {p : Value} {bs : List Value} {W W' : World} (h : Lib.BuilderAtF T e B b p bs W) (hk : ∀ (k : Nat) (c : Array Value) (t : TypeId) (fz : Nat × Nat), W.heap[k]? = some (Obj.cells c t fz) → W'.heap[k]? = some (Obj.cells c t fz)) : Lib.BuilderAtF T e B b p bs W' := by
 obtain ⟨h1, v, h2, ⟨h3, h4⟩, h5⟩ := h
 refine ⟨h1, v, hk _ _ _ _ h2, ⟨h3, ?_⟩, h5⟩
 rcases h4 with h4 | ⟨g, cap, cur, fz, k1, k2, k3, k4⟩
 ·exact .inl h4
 ·exact .inr ⟨g, cap, cur, fz, k1, k2, hk _ _ _ _ k3, k4⟩
theorem bldI_blocks {T e : TypeId} {B b : Nat} {bs : List Value} {W W' : World} (h : Lib.IsBuilderF T e B b bs W) (hk : ∀ (k : Nat) (c : Array Value) (t : TypeId) (fz : Nat × Nat), W.heap[k]? = some (Obj.cells c t fz) → W'.heap[k]? = some (Obj.cells c t fz)) : Lib.IsBuilderF T e B b bs W' :=
 h.imp (fun h => bld_blocks h hk) (fun h => bld_blocks h hk)
theorem cellNew (W : World) (v : Value) (t : TypeId) : (W.alloc (.cells #[v] t)).cell? ⟨W.heap.size, 0, none⟩ = some v := by simp
theorem cellAl {W : World} {a : Addr} {v : Value} (o : Obj) (h : W.cell? a = some v) : (W.alloc o).cell? a = some v := (((Below.refl W.heap.size W).alloc (Nat.le_refl _) o).cell (p := a) (World.block_lt_of_cell? _ _ h)).trans h
abbrev zeros8 : ByteArray := { data := #[48, 48, 48, 48, 48, 48, 48, 48] }
theorem pad_cells (m : Nat) (h : m ≤ 8) : Lib.strCells (zeros8.extract 0 m) = Lib.byteCells (List.replicate m 48) ∧ (zeros8.extract 0 m).size ≤ 8 := by
 have : m = 0 ∨ m = 1 ∨ m = 2 ∨ m = 3 ∨ m = 4 ∨ m = 5 ∨ m = 6 ∨ m = 7 ∨ m = 8 := by omega
 rcases this with rfl | rfl | rfl | rfl | rfl | rfl | rfl | rfl | rfl <;> exact ⟨by rfl, by decide⟩
theorem strCells_arr (l : List UInt8) : Lib.strCells ⟨l.toArray⟩ = Lib.byteCells l := by simp [Lib.strCells, Lib.byteCells]
attribute [local irreducible] CallsIn ByteArray.extract
theorem others_below {e : TypeId} {b : Option Nat} {W W' : World} (h : BW W W') : Lib.OthersKept e b W W' := fun k o hk _ _ => by
 have hlt : k < W.heap.size := by
  rcases Nat.lt_or_ge k W.heap.size with h0 | h0
  ·exact h0
  ·rw [Array.getElem?_eq_none h0] at hk; cases hk
 rw [h.block k hlt]; exact hk
theorem cells_below {W W' : World} (h : BW W W') : ∀ (k : Nat) (c : Array Value) (t : TypeId) (fz : Nat × Nat), W.heap[k]? = some (Obj.cells c t fz) → W'.heap[k]? = some (Obj.cells c t fz) := fun k c t fz hk => by
 have hlt : k < W.heap.size := by
  rcases Nat.lt_or_ge k W.heap.size with h0 | h0
  ·exact h0
  ·rw [Array.getElem?_eq_none h0] at hk; cases hk
 rw [h.block k hlt]; exact hk
theorem bld_cells {T e : TypeId} {B b : Nat} {bs : List Value} {W : World} (h : Lib.IsBuilderF T e B b bs W) : ∃ c t fz, W.heap[b]? = some (Obj.cells c t fz) := by
 rcases h with ⟨_, v, h, _⟩ | ⟨_, v, h, _⟩ <;> exact ⟨_, _, _, h⟩
theorem body_end {n1 : Nat} {v : Value} {bs : List Value} {W wE : World} (hbl : Lib.IsBuilderF 204 5 n1 n1 bs W) (hbs : W.heap[n1 + 1]? = some (.cells #[v] 137 (0, 0))) (ho : Lib.OthersKept 5 (some n1) W wE) (hB : Below n1 W wE) :
  KeepsOthers W wE ∧ KpB n1 (n1 + 1) W wE ∧ wE.heap[n1 + 1]? = some (.cells #[v] 137 (0, 0)) := by
 have h1 : wE.heap[n1 + 1]? = some (.cells #[v] 137 (0, 0)) := ho _ _ hbs (by simp) (fun c fz e => by cases e)
 obtain ⟨c, t, fz, h2⟩ := bld_cells hbl
 refine ⟨⟨hB.size, fun k o hk hc => ho k o hk (fun e => ?_) (fun c fz e => by subst e; cases hc)⟩, fun p u hp hu => ?_, h1⟩
 ·cases e; rw [h2] at hk; cases hk; cases hc
 ·rcases hp with hp | hp
  ·exact (hB.cell hp).trans hu
  ·have e1 : wE.heap[p.block]? = W.heap[p.block]? := by rw [hp, h1, hbs]
   rw [World.cell?_of_block (w := W) e1]; exact hu
theorem text_pos (ad : Addr) (cap x : Nat) (w : World) (hw : XW w) (hx0 : 0 < x) (hx : ExP.nd 1000000000 x ≤ 1000000) (hs : SlAt (some ad) (nv .u32 1000000000 x) w) (hb0 : ad.block < w.heap.size) :
  QC 204 #[.slice (some ad) (ExP.nd 1000000000 x) cap] w (.string ⟨(Lib.decDigits x).toArray⟩) := by
 refine (callsIn_wide (n := 8)).1 ?_
 refine callsIn_of_wp_marks Tryz.func204 rfl trivial ?_ rfl
 simp only [Tryz.ntmps204, List.size_toArray, List.length_cons, List.length_nil, Nat.reduceAdd, Nat.reduceSub, Array.replicate_succ, Array.replicate_zero, List.push_toArray, List.append_toArray, List.nil_append, List.cons_append]
 have hz := fun (w' : World) => zero_any (some ad) (ExP.nd 1000000000 x) cap w'
 rw [show decide ((ExP.nd 1000000000 x : Int) = 0) = false from decide_eq_false (by have := (ExP.nd_pos (b := 1000000000) (by omega)).2 hx0; omega)] at hz
 generalize hn : ExP.nd 1000000000 x = n at *
 gi_wp2_with first | (refine ⟨trivial, ?_⟩; gi_at_call 172; refine (callsIn_wide.2 (hz _)).mono ?_; rintro e w1 ⟨rfl, hb1⟩; have hc1 := (hb1.cell (p := ⟨w.heap.size, 0, none⟩) (by simp)).trans (cellNew w _ _); have hc2 := fun (o : Obj) => cellAl o hc1) | (refine ⟨trivial, ?_⟩; gi_at_call 228; refine (back_in Fence.wide _ trivial rfl _ _ _ _).mono ?_; rintro e w' ⟨rfl, rfl⟩)
 have hsz1 : w.heap.size + 1 ≤ w1.heap.size := by simpa using hb1.size
 have hB1 : BW w w1 := ((Below.refl _ w).alloc (Nat.le_refl _) _).trans (hb1.mono (by simp))
 have hBs : ((w1.alloc (.cells #[.pointer none, .slice none 0 0] 204)).alloc (.cells #[.slice (some ad) n cap] 137)).heap[w1.heap.size + 1]? = some (.cells #[.slice (some ad) n cap] 137 (0, 0)) := by
  have := World.alloc_heap_new (w1.alloc (.cells #[.pointer none, .slice none 0 0] 204)) (.cells #[.slice (some ad) n cap] 137)
  simpa using this
 have hbd : ((w1.alloc (.cells #[.pointer none, .slice none 0 0] 204)).alloc (.cells #[.slice (some ad) n cap] 137)).heap[w1.heap.size]? = some (.cells #[.pointer none, .slice none 0 0] 204 (0, 0)) :=
  (Below.heap_alloc _ _ _ (by simp)).trans (World.alloc_heap_new w1 _)
 have hB0 : BW w1 ((w1.alloc (.cells #[.pointer none, .slice none 0 0] 204)).alloc (.cells #[.slice (some ad) n cap] 137)) := ((Below.refl _ w1).alloc (Nat.le_refl _) _).alloc (by simp) _
 have hs0 : ((w1.alloc (.cells #[.pointer none, .slice none 0 0] 204)).alloc (.cells #[.slice (some ad) n cap] 137)).heap.size = w1.heap.size + 2 := by simp
 obtain ⟨W0, hW0⟩ : ∃ W0, ((w1.alloc (.cells #[.pointer none, .slice none 0 0] 204)).alloc (.cells #[.slice (some ad) n cap] 137)) = W0 := ⟨_, rfl⟩
 rw [hW0] at hBs hbd hB0 hs0
 rw [hW0]
 have hcells : ∀ j, j < n → W0.cell? (ad.add j) = some (.int .u32 ((limb x j).1 : Int)) := fun j hj => by
  obtain ⟨ad', e, h1, h2⟩ := (hs.below (hB1.trans (hB0.mono (by omega)))) j _ (nv_get (by rw [hn]; exact hj))
  cases e
  exact h2
 refine wpIn_rangeFunc_ownF rfl (by omega) (gf := 251) (lb := #[.pointer (some ⟨w1.heap.size + 1, 0, none⟩)]) rfl trivial (enters_of Tryz.func251 (by kernel_rfl) rfl)
  (back_stops Fence.wide _ trivial rfl (by omega) (w1.heap.size + 1) w1.heap.size n cap ad (limb x) (by omega) W0 (by omega) (by omega) (by omega) (by simp [World.cell?, hBs]) hcells) (fun h k => h.trans k) (fun W l o o' hl ho hoc _ p v hp hv => ?kb) (Below.refl _ _) (fun _ => rfl)
  (fun pre W => (Lib.IsBuilderF 204 5 w1.heap.size w1.heap.size (Lib.byteCells (txtB n pre)) W ∧ W.heap[w1.heap.size + 1]? = some (.cells #[.slice (some ad) n cap] 137 (0, 0))) ∧ BW w1 W ∧ w1.heap.size + 2 ≤ W.heap.size)
  (fun _ _ _ => False)
  ?own
  (fun _ _ _ _ _ hs _ _ => hs)
  ⟨⟨.inl ⟨Nat.le_refl _, .slice none 0 0, hbd, ⟨rfl, .inl ⟨rfl, rfl⟩⟩, by simp [Value.ownBlock]⟩, hBs⟩, hB0, by omega⟩
  (fun x => { tmps := #[.slice (some ad) n cap, .pointer (some ⟨w.heap.size, 0, none⟩), .string { data := #[] }, .pointer (some ⟨w1.heap.size, 0, none⟩), .int .i64 (x.1 : Int), .int .u32 (x.2.1 : Int), undef, .slice (some ad) n cap, .bool false, .slice (some ad) n cap, .func (.func 251) #[] #[.pointer (some ⟨w1.heap.size + 1, 0, none⟩)], .int .i64 (x.1 : Int), .int .u32 (x.2.1 : Int), undef, undef, undef, undef, undef, undef, undef, undef, undef, undef, undef, undef, undef, undef, undef, undef], defers := [] }) ?assign ?body ?done ?stop
 case kb => exact cell_kept hv (grownBy_putObj' W l o') (fun r e => by cases e; exact ⟨o, ho, hoc⟩)
 case own =>
  rintro s A B row ⟨⟨g1, g2⟩, g3, g4⟩ hg hr
  have hk : ∀ (k : Nat) (c : Array Value) (t : TypeId) (fz : Nat × Nat), A.heap[k]? = some (Obj.cells c t fz) → B.heap[k]? = some (Obj.cells c t fz) := fun k c t fz h => by
   have hlt : k < A.heap.size := (Array.getElem?_eq_some_iff.1 h).1
   rw [hg.block k hlt (fun e => by obtain ⟨-, o, ho, hc⟩ := hr k e.symm; rw [h] at ho; cases ho; cases hc)]
   exact h
  have hBB : Below w1.heap.size A B := ⟨hg.os, hg.tape, hg.output, hg.size, fun k hk2 => hg.block k (by omega) (fun e => by have := (hr k e.symm).1; omega)⟩
  exact ⟨⟨bldI_blocks g1 hk, hk _ _ _ _ g2⟩, g3.trans hBB, by have := hg.size; omega⟩
 case assign =>
  intro l x W K hK
  gi_wp2
  exact hK
 case body =>
  rintro l pre x W ⟨⟨hbl, hbs⟩, hBW, hWs⟩ hlt
  have hXW : XW W := hw.below (hB1.trans (hBW.mono (by omega)))
  have hcs := (hBW.cell (p := ⟨w.heap.size, 0, none⟩) (by simp; omega)).trans hc1
  obtain ⟨hd1, hd2⟩ := dec_len x.2.2
  have hx2 := x.2.2
  obtain ⟨hp1, hp2⟩ := pad_cells (9 - (Lib.decDigits x.2.1).length) (by omega)
  have htl := txtB_len n pre
  have hds : (ByteArray.mk (Lib.decDigits x.2.1).toArray).size = (Lib.decDigits x.2.1).length := by simp [ByteArray.size]
  gi_wp2_with first | (refine ⟨trivial, ?_⟩; gi_at_call 139; refine (CallsIn.inRound l (callsIn_wide.2 (xitoa_any x.2.1 _ (by omega) hXW))).mono ?_; rintro e w2 ⟨rfl, hb2⟩; have hcs2 := (hb2.cell (p := ⟨w.heap.size, 0, none⟩) (by dsimp only; omega)).trans hcs; have hbl2 := bldI_blocks hbl (cells_below hb2); have hbw2 := hb2.size) | (refine ⟨trivial, ?_⟩; gi_at_call 224; refine (CallsIn.inRound l (callsIn_wide.2 (Tryz.Builder_WriteString_k w1.heap.size w1.heap.size _ (zeros8.extract 0 (9 - (Lib.decDigits x.2.1).length)) w2 hbl2 (by rw [Lib.byteCells_length]; omega) (by omega)))).mono ?_; rintro e w3 ⟨rfl, hbl3, hb3, ho3⟩; rw [hp1, ← Lib.byteCells_append] at hbl3; have hbw3 := hb3.size) | (refine ⟨trivial, ?_⟩; gi_at_call 224; refine (CallsIn.inRound l (callsIn_wide.2 (Tryz.Builder_WriteString_k w1.heap.size w1.heap.size _ ⟨(Lib.decDigits x.2.1).toArray⟩ w3 (.inr hbl3) (by rw [Lib.byteCells_length, hds]; (try simp only [List.length_append, List.length_replicate]); omega) (by omega)))).mono ?_; rintro e w4 ⟨rfl, hbl4, hb4, ho4⟩; rw [strCells_arr, ← Lib.byteCells_append] at hbl4; have hbw4 := hb4.size) | (refine ⟨trivial, ?_⟩; gi_at_call 224; refine (CallsIn.inRound l (callsIn_wide.2 (Tryz.Builder_WriteString_k w1.heap.size w1.heap.size _ ⟨(Lib.decDigits x.2.1).toArray⟩ w2 hbl2 (by rw [Lib.byteCells_length, hds]; (try simp only [List.length_append, List.length_replicate]); omega) (by omega)))).mono ?_; rintro e w4 ⟨rfl, hbl4, hb4, ho4⟩; rw [strCells_arr, ← Lib.byteCells_append] at hbl4; have hbw4 := hb4.size)
  ·rename_i hlt2
   have hB4 : Below w1.heap.size W w4 := (hb2.mono (by omega)).trans (hb3.trans hb4)
   obtain ⟨k1, k2, k3⟩ := body_end hbl hbs ((others_below hb2).trans (ho3.trans ho4)) hB4
   refine ⟨k1, k2, ⟨?_, k3⟩, hBW.trans hB4, by omega⟩
   rw [txtB_snoc, limbT, if_pos (by omega), ← List.append_assoc]
   exact .inr hbl4
  ·rename_i hlt2
   have hB4 : Below w1.heap.size W w4 := (hb2.mono (by omega)).trans hb4
   obtain ⟨k1, k2, k3⟩ := body_end hbl hbs ((others_below hb2).trans ho4) hB4
   refine ⟨k1, k2, ⟨?_, k3⟩, hBW.trans hB4, by omega⟩
   rw [txtB_snoc, limbT, if_neg (by omega), List.nil_append]
   exact .inr hbl4
 case done =>
  rintro D ys W hD rfl ⟨⟨hbl, hbs⟩, hBW, hWs⟩ hK
  gi_wp2_with first | (refine ⟨trivial, ?_⟩; gi_at_call 226; refine (callsIn_wide.2 (Tryz.Builder_String_any_k w1.heap.size w1.heap.size _ W hbl (by omega))).mono ?_; rintro e w5 ⟨rfl, hbl5, hb5, ho5⟩)
  have hK5 := ho5 D _ hK (by simp; omega) (fun c fz e => by cases e)
  have htx : txtB n (downto (limb x) n n) = Lib.decDigits x := by
   rw [txt_down n hn.symm n (Nat.le_refl _), Nat.sub_self, Nat.pow_zero, Nat.div_one, ExP.dec_pos hx0]
  refine ⟨by simp, .inl ⟨_, _, rfl, run_takeDeferred hK5, ?_⟩⟩
  exact ⟨_, results_tmp rfl _ _ _, by rw [htx]; rfl, hB1.trans (((hBW.trans hb5).trans (belowK_b (w := w1) (Nat.le_refl _) w5 D _ _ (by omega) hK5 rfl rfl)).mono (by omega))⟩
 case stop =>
  rintro D c pre W _ _ h _
  exact h.elim
theorem text_any (a : Option Addr) (cap x : Nat) (w : World) (hw : XW w) (hx : ExP.nd 1000000000 x ≤ 1000000) (hs : SlAt a (nv .u32 1000000000 x) w) :
  QC 204 #[.slice a (ExP.nd 1000000000 x) cap] w (.string (bstr (Lib.decDigits x))) := by
 rcases Nat.eq_zero_or_pos x with rfl | h0
 ·have hz := fun w => zero_any a (ExP.nd 1000000000 0) cap w
  rw [ExP.nd_zero, show decide (((0 : Nat) : Int) = 0) = true from rfl] at hz
  rw [ExP.nd_zero, Lib.decDigits_one (by omega)]
  refine yE Tryz.func204 rfl Tryz.results204 Tryz.ntmps204 [] [] [.any (.slice a 0 cap)] w ?_
  repeat' (first | refine yX ?_ | (apply And.intro <;> intro _) | apply bothI | refine retB fun β => ?_ | intro βe | refine yK (.lit true) (fun β w hm => hz w) ?_ | exact trivial)
  all_goals rfl
 ·obtain ⟨ad, rfl⟩ := SlAt.some hs (nv_ne ((ExP.nd_pos (b := 1000000000) (by omega)).2 h0))
  obtain ⟨ad', e, h1, h2⟩ := hs 0 _ (nv_get ((ExP.nd_pos (b := 1000000000) (by omega)).2 h0))
  cases e
  exact text_pos ad cap x w hw h0 hx hs h1
end Go.Proofs.YtdkhkfdenlabaaaGreatDoor
namespace Go.Proofs.YtdkhkfdenlabaaaGreatDoor
open Go.RowKit
open Sym
structure XV (w : World) : Prop where
 xw : XW w
 utf : Lib.Utf8Tabs 2 3 w
 len : ∃ m, w.cell? ⟨4, 0, none⟩ = some (.int .i64 m)
 syn : ∃ te pe, w.cell? ⟨5, 0, none⟩ = some (.iface te pe)
 ran : ∃ te pe, w.cell? ⟨6, 0, none⟩ = some (.iface te pe)
 flt : ∀ i, i < 9 → w.cell? ⟨0, i, none⟩ = some (.string (bstr (VaP.ftext i)))
theorem cell_below {w w' : World} {a : Addr} {v : Value} (h : w.cell? a = some v) (hb : BW w w') : w'.cell? a = some v := (hb.cell (World.block_lt_of_cell? _ _ h)).trans h
theorem XV.below {w w' : World} (h : XV w) (hb : BW w w') : XV w' where
 xw := h.xw.below hb
 utf := ⟨fun c hc => cell_below (h.utf.1 c hc) hb, fun i hi => ⟨cell_below (h.utf.2 i hi).1 hb, cell_below (h.utf.2 i hi).2 hb⟩⟩
 len := h.len.imp fun _ h => cell_below h hb
 syn := h.syn.imp fun _ h => h.imp fun _ h => cell_below h hb
 ran := h.ran.imp fun _ h => h.imp fun _ h => cell_below h hb
 flt := fun i hi => cell_below (h.flt i hi) hb
def XR (w : World) : Prop := ∀ i, i < 9 → w.cell? ⟨1, i, none⟩ = some (.string (bstr (VaP.ftext i)))
theorem XR.below {w w' : World} (h : XR w) (hb : BW w w') : XR w' := fun i hi => cell_below (h i hi) hb
namespace Sym
theorem x_indexAny {C : Ctx} {G : Blobs} {x y : Operand} {t e : TypeId} {a : Addr} {len j sz : Nat} {i : Int} (hi : i = (j : Nat)) (ht : C.P.underlying t = some (.array len e)) (hs : ∀ w, (sizeOf e).run C.P w = .ok sz w) (hj : j < len) :
  ExtN C G (.indexAddr t x y) [.any (.pointer (some a)), .int .i64 i] (.any (.pointer (some (a.add (j * sz))))) := by
 subst hi
 unfold ExtN
 intro ρ β w dst ty pos after g _ _ h
 have h' : ρ x = .pointer (some a) ∧ ρ y = .int .i64 (j : Nat) := by simpa [opsX, SV.dens, SV.den] using h
 have q : (underlying t).run C.P w = .ok (.array len e) w := by simp [underlying, ht]
 simp [execOp, Instr.indexAt, Instr.sureAddr, h'.1, h'.2, asIntOf, q, hs, hj, SV.den]
end Sym
end Go.Proofs.YtdkhkfdenlabaaaGreatDoor
