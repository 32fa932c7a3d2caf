/- Texts of numbers, limb by limb. The text of a number. -/
import Derived.Test.YtfodbfbljeeojaaGreatDoorFGE
import Derived.Test.YtfodbfbljeeojaaGreatDoorFGF
import Derived.Test.YtfodbfbljeeojaaGreatDoorFGG
import Derived.Lib.ItoaMem
set_option linter.unusedSimpArgs false
set_option linter.unusedVariables false
namespace Go.Proofs.YtfodbfbljeeojaaGreatDoor
open Go.RowKit Go.Shelf
open Sym
attribute [local go_sem] Oper.semAt_some
/-- the text behind a limb -/
def limbT (n : Nat) (p : Nat × Dg) : List UInt8 := (if p.1 + 1 < n then List.replicate (9 - (Lib.decDigits p.2.1).length) 48 else []) ++ Lib.decDigits p.2.1
def txtB (n : Nat) (ps : List (Nat × Dg)) : List UInt8 := ps.foldl (fun s p => s ++ limbT n p) []
theorem txtB_snoc (n : Nat) (ps : List (Nat × Dg)) (p : Nat × Dg) : txtB n (ps ++ [p]) = txtB n ps ++ limbT n p := by simp [txtB]
theorem dec_len {d : Nat} (h : d < 1000000000) : 1 ≤ (Lib.decDigits d).length ∧ (Lib.decDigits d).length ≤ 9 := by
  refine ⟨?_, (ExP.padk_eq 9 d (by omega) (by simpa using h)).2⟩
  rw [Lib.decDigits]
  split <;> simp
theorem limbT_len (n : Nat) (p : Nat × Dg) : (limbT n p).length ≤ 9 := by
  obtain ⟨h1, h2⟩ := dec_len p.2.2
  unfold limbT
  split <;> simp <;> omega
theorem txtB_len (n : Nat) (ps : List (Nat × Dg)) : (txtB n ps).length ≤ 9 * ps.length := by
  unfold txtB
  have : ∀ (l : List (Nat × Dg)) (s : List UInt8), (l.foldl (fun s p => s ++ limbT n p) s).length ≤ s.length + 9 * l.length := by
    intro l
    induction l with
    | nil => intro s; simp
    | cons p r ih => intro s; rw [List.foldl_cons]; have := ih (s ++ limbT n p); have h2 := limbT_len n p; simp only [List.length_append, List.length_cons] at this ⊢; omega
  simpa using this ps []
/-- the limbs of a number -/
def limb (x i : Nat) : Dg := ⟨ExP.dig 1000000000 i x, ExP.dig_lt (by omega) i x⟩
theorem top_pos {x n : Nat} (h : 0 < n) (hn : n = ExP.nd 1000000000 x) : 0 < x / 1000000000 ^ (n - 1 - 0) := by
  have h1 := (ExP.ndF_spec (b := 1000000000) (by omega) x x (Nat.le_refl _)).2
  change ExP.nd 1000000000 x = 0 ∨ 1000000000 ^ (ExP.nd 1000000000 x - 1) ≤ x at h1
  rw [← hn] at h1
  exact Nat.div_pos (by rcases h1 with h1 | h1; (omega); exact h1) (Nat.pow_pos (by omega))
theorem txt_down {x : Nat} (n : Nat) (hn : n = ExP.nd 1000000000 x) : ∀ k, k ≤ n → txtB n (downto (limb x) n k) = ExP.decE (x / 1000000000 ^ (n - k)) := by
  intro k
  induction k with
  | zero =>
    intro _
    have : x / 1000000000 ^ (n - 0) = 0 := Nat.div_eq_of_lt (by rw [hn]; exact ExP.nd_lt (by omega) x)
    rw [this]; rfl
  | succ k ih =>
    intro hk
    rw [downto_succ, txtB_snoc, ih (by omega)]
    have e1 : n - (k + 1) = n - 1 - k := by omega
    rw [e1]
    have e2 : n - k = n - 1 - k + 1 := by omega
    rw [e2]
    unfold limbT limb
    dsimp only
    rcases Nat.eq_zero_or_pos k with h0 | h0
    · subst h0
      rw [if_neg (by omega)]
      have e3 : x / 1000000000 ^ (n - 1 - 0 + 1) = 0 := Nat.div_eq_of_lt (by rw [show n - 1 - 0 + 1 = n by omega, hn]; exact ExP.nd_lt (by omega) x)
      rw [e3]
      have h1 : 0 < x / 1000000000 ^ (n - 1 - 0) := top_pos (by omega) hn
      rw [ExP.dec_pos h1]
      have e4 : ExP.dig 1000000000 (n - 1 - 0) x = x / 1000000000 ^ (n - 1 - 0) := by
        unfold ExP.dig
        apply Nat.mod_eq_of_lt
        rw [Nat.pow_succ, ← Nat.div_div_eq_div_mul] at e3
        rcases Nat.lt_or_ge (x / 1000000000 ^ (n - 1 - 0)) 1000000000 with h | h
        · exact h
        · have := Nat.div_pos h (by omega : 0 < 1000000000); omega
      rw [e4]; rfl
    · rw [if_pos (by omega)]
      refine (ExP.dec_limb (by omega) ?_).1.symm
      have := top_pos (x := x) (n := n) (by omega) hn
      exact Nat.lt_of_lt_of_le this (Nat.div_le_div_left (Nat.pow_le_pow_right (by omega) (by omega)) (Nat.pow_pos (by omega)))
end Go.Proofs.YtfodbfbljeeojaaGreatDoor
namespace Go.Proofs.YtfodbfbljeeojaaGreatDoor
open Go.RowKit Go.Shelf
open Sym
attribute [local go_sem] Oper.semAt_some
/-- what the library's functions ask of the world -/
structure XW (w : World) : Prop where
  tab : Lib.TabIs Tryz.prog w "internal/strconv.uint64pow10" .u64 Lib.pow10Tab
theorem XW.below {w w' : World} (h : XW w) (hb : Below w.heap.size w w') : XW w' := by
  obtain ⟨h1⟩ := h
  refine ⟨?_⟩
  unfold Lib.TabIs at h1 ⊢
  rw [← h1]
  unfold World.var?
  cases hg : Tryz.prog.globalNamed "internal/strconv.uint64pow10" with
  | none => rfl
  | some g =>
    have hlt : g < w.heap.size := by
      rcases Nat.lt_or_ge g w.heap.size with h0 | h0
      · exact h0
      · unfold World.var? at h1
        rw [hg] at h1
        simp [Array.getElem?_eq_none h0] at h1
    simp [hb.block g hlt]
theorem xgrown (w : World) (n : Nat) (os : Array Obj) : Below w.heap.size w (Go.Sort.grow (w.drewN n) os) := by
  refine ⟨rfl, rfl, rfl, by simp [Go.Sort.grow, World.drewN], fun k hk => ?_⟩
  show (w.heap ++ os)[k]? = _
  rw [Array.getElem?_append_left hk]
theorem xitoa_any (n : Nat) (w : World) (hn : n < 4294967296) (hw : XW w) : Calls Tryz.prog 68 #[.int .i64 (n : Int)] w fun e w' => e = .returned (.string ⟨(Lib.decDigits n).toArray⟩) ∧ Below w.heap.size w w' := by
  refine (Tryz.strconv_Itoa (n : Int) (by omega) (by omega) w hw.tab).mono ?_
  rintro e w' ⟨rfl, k, os, rfl⟩
  exact ⟨by rw [Lib.itoa_nonneg], xgrown w k os⟩
theorem bld_blocks {T e : TypeId} {B b : Nat} {p : Value} {bs : List Value} {W W' : World} (h : Lib.BuilderAtF T e B b p bs W) (hk : ∀ (k : Nat) (c : Array Value) (t : TypeId) (fz : Nat × Nat), W.heap[k]? = some (Obj.cells c t fz) → W'.heap[k]? = some (Obj.cells c t fz)) : Lib.BuilderAtF T e B b p bs W' := by
  obtain ⟨h1, v, h2, ⟨h3, h4⟩, h5⟩ := h
  refine ⟨h1, v, hk _ _ _ _ h2, ⟨h3, ?_⟩, h5⟩
  rcases h4 with h4 | ⟨g, cap, cur, fz, k1, k2, k3, k4⟩
  · exact .inl h4
  · exact .inr ⟨g, cap, cur, fz, k1, k2, hk _ _ _ _ k3, k4⟩
theorem bldI_blocks {T e : TypeId} {B b : Nat} {bs : List Value} {W W' : World} (h : Lib.IsBuilderF T e B b bs W) (hk : ∀ (k : Nat) (c : Array Value) (t : TypeId) (fz : Nat × Nat), W.heap[k]? = some (Obj.cells c t fz) → W'.heap[k]? = some (Obj.cells c t fz)) : Lib.IsBuilderF T e B b bs W' :=
  h.imp (fun h => bld_blocks h hk) (fun h => bld_blocks h hk)
theorem cellNew (W : World) (v : Value) (t : TypeId) : (W.alloc (.cells #[v] t)).cell? ⟨W.heap.size, 0, none⟩ = some v := by simp
theorem cellAl {W : World} {a : Addr} {v : Value} (o : Obj) (h : W.cell? a = some v) : (W.alloc o).cell? a = some v := (((Below.refl W.heap.size W).alloc (Nat.le_refl _) o).cell (p := a) (World.block_lt_of_cell? _ _ h)).trans h
abbrev zeros8 : ByteArray := { data := #[48, 48, 48, 48, 48, 48, 48, 48] }
theorem pad_cells (m : Nat) (h : m ≤ 8) : Lib.strCells (zeros8.extract 0 m) = Lib.byteCells (List.replicate m 48) ∧ (zeros8.extract 0 m).size ≤ 8 := by
  have : m = 0 ∨ m = 1 ∨ m = 2 ∨ m = 3 ∨ m = 4 ∨ m = 5 ∨ m = 6 ∨ m = 7 ∨ m = 8 := by omega
  rcases this with rfl | rfl | rfl | rfl | rfl | rfl | rfl | rfl | rfl <;> exact ⟨by rfl, by decide⟩
theorem strCells_arr (l : List UInt8) : Lib.strCells ⟨l.toArray⟩ = Lib.byteCells l := by simp [Lib.strCells, Lib.byteCells]
attribute [local irreducible] CallsIn ByteArray.extract
theorem others_below {e : TypeId} {b : Option Nat} {W W' : World} (h : Below W.heap.size W W') : Lib.OthersKept e b W W' := fun k o hk _ _ => by
  have hlt : k < W.heap.size := by
    rcases Nat.lt_or_ge k W.heap.size with h0 | h0
    · exact h0
    · rw [Array.getElem?_eq_none h0] at hk; cases hk
  rw [h.block k hlt]; exact hk
theorem cells_below {W W' : World} (h : Below W.heap.size W W') : ∀ (k : Nat) (c : Array Value) (t : TypeId) (fz : Nat × Nat), W.heap[k]? = some (Obj.cells c t fz) → W'.heap[k]? = some (Obj.cells c t fz) := fun k c t fz hk => by
  have hlt : k < W.heap.size := by
    rcases Nat.lt_or_ge k W.heap.size with h0 | h0
    · exact h0
    · rw [Array.getElem?_eq_none h0] at hk; cases hk
  rw [h.block k hlt]; exact hk
theorem bld_cells {T e : TypeId} {B b : Nat} {bs : List Value} {W : World} (h : Lib.IsBuilderF T e B b bs W) : ∃ c t fz, W.heap[b]? = some (Obj.cells c t fz) := by
  rcases h with ⟨_, v, h, _⟩ | ⟨_, v, h, _⟩ <;> exact ⟨_, _, _, h⟩
theorem body_end {n1 : Nat} {v : Value} {bs : List Value} {W wE : World} (hbl : Lib.IsBuilderF 122 5 n1 n1 bs W) (hbs : W.heap[n1 + 1]? = some (.cells #[v] 67 (0, 0))) (ho : Lib.OthersKept 5 (some n1) W wE) (hB : Below n1 W wE) :
    KeepsOthers W wE ∧ KpB n1 (n1 + 1) W wE ∧ wE.heap[n1 + 1]? = some (.cells #[v] 67 (0, 0)) := by
  have h1 : wE.heap[n1 + 1]? = some (.cells #[v] 67 (0, 0)) := ho _ _ hbs (by simp) (fun c fz e => by cases e)
  obtain ⟨c, t, fz, h2⟩ := bld_cells hbl
  refine ⟨⟨hB.size, fun k o hk hc => ho k o hk (fun e => ?_) (fun c fz e => by subst e; cases hc)⟩, fun p u hp hu => ?_, h1⟩
  · cases e; rw [h2] at hk; cases hk; cases hc
  · rcases hp with hp | hp
    · exact (hB.cell hp).trans hu
    · have e1 : wE.heap[p.block]? = W.heap[p.block]? := by rw [hp, h1, hbs]
      rw [World.cell?_of_block (w := W) e1]; exact hu
set_option maxRecDepth 100000 in
set_option maxHeartbeats 4000000 in
theorem text_pos (ad : Addr) (cap x : Nat) (w : World) (hw : XW w) (hx0 : 0 < x) (hx : ExP.nd 1000000000 x ≤ 1000000) (hs : SlAt (some ad) (nv .u32 1000000000 x) w) (hb0 : ad.block < w.heap.size) :
    Calls Tryz.prog 98 #[.slice (some ad) (ExP.nd 1000000000 x) cap] w fun e w' => e = .returned (.string ⟨(Lib.decDigits x).toArray⟩) ∧ Below w.heap.size w w' := by
  refine (callsIn_wide (n := 8)).1 ?_
  refine callsIn_of_wp_marks Tryz.func98 rfl trivial ?_ rfl
  simp only [Tryz.ntmps98, List.size_toArray, List.length_cons, List.length_nil, Nat.reduceAdd, Nat.reduceSub, Array.replicate_succ, Array.replicate_zero, List.push_toArray, List.append_toArray, List.nil_append, List.cons_append]
  have hz := fun (w' : World) => zero_any (some ad) (ExP.nd 1000000000 x) cap w'
  rw [show decide ((ExP.nd 1000000000 x : Int) = 0) = false from decide_eq_false (by have := (ExP.nd_pos (b := 1000000000) (by omega)).2 hx0; omega)] at hz
  generalize hn : ExP.nd 1000000000 x = n at *
  gi_wp2_with first | (refine ⟨trivial, ?_⟩; gi_at_call 54; refine (callsIn_wide.2 (hz _)).mono ?_; rintro e w1 ⟨rfl, hb1⟩; have hc1 := (hb1.cell (p := ⟨w.heap.size, 0, none⟩) (by simp)).trans (cellNew w _ _); have hc2 := fun (o : Obj) => cellAl o hc1) | (refine ⟨trivial, ?_⟩; gi_at_call 113; refine (back_in Fence.wide _ trivial rfl _ _ _ _).mono ?_; rintro e w' ⟨rfl, rfl⟩)
  have hsz1 : w.heap.size + 1 ≤ w1.heap.size := by simpa using hb1.size
  have hB1 : Below w.heap.size w w1 := ((Below.refl _ w).alloc (Nat.le_refl _) _).trans (hb1.mono (by simp))
  have hBs : ((w1.alloc (.cells #[.pointer none, .slice none 0 0] 122)).alloc (.cells #[.slice (some ad) n cap] 67)).heap[w1.heap.size + 1]? = some (.cells #[.slice (some ad) n cap] 67 (0, 0)) := by
    have := World.alloc_heap_new (w1.alloc (.cells #[.pointer none, .slice none 0 0] 122)) (.cells #[.slice (some ad) n cap] 67)
    simpa using this
  have hbd : ((w1.alloc (.cells #[.pointer none, .slice none 0 0] 122)).alloc (.cells #[.slice (some ad) n cap] 67)).heap[w1.heap.size]? = some (.cells #[.pointer none, .slice none 0 0] 122 (0, 0)) :=
    (Below.heap_alloc _ _ _ (by simp)).trans (World.alloc_heap_new w1 _)
  have hB0 : Below w1.heap.size w1 ((w1.alloc (.cells #[.pointer none, .slice none 0 0] 122)).alloc (.cells #[.slice (some ad) n cap] 67)) := ((Below.refl _ w1).alloc (Nat.le_refl _) _).alloc (by simp) _
  have hs0 : ((w1.alloc (.cells #[.pointer none, .slice none 0 0] 122)).alloc (.cells #[.slice (some ad) n cap] 67)).heap.size = w1.heap.size + 2 := by simp
  obtain ⟨W0, hW0⟩ : ∃ W0, ((w1.alloc (.cells #[.pointer none, .slice none 0 0] 122)).alloc (.cells #[.slice (some ad) n cap] 67)) = W0 := ⟨_, rfl⟩
  rw [hW0] at hBs hbd hB0 hs0
  rw [hW0]
  have hcells : ∀ j, j < n → W0.cell? (ad.add j) = some (.int .u32 ((limb x j).1 : Int)) := fun j hj => by
    obtain ⟨ad', e, h1, h2⟩ := (hs.below (hB1.trans (hB0.mono (by omega)))) j _ (nv_get (by rw [hn]; exact hj))
    cases e
    exact h2
  refine wpIn_rangeFunc_ownF rfl (by omega) (gf := 133) (lb := #[.pointer (some ⟨w1.heap.size + 1, 0, none⟩)]) rfl trivial (enters_of Tryz.func133 (by kernel_rfl) rfl)
    (back_stops Fence.wide _ trivial rfl (by omega) (w1.heap.size + 1) w1.heap.size n cap ad (limb x) (by omega) W0 (by omega) (by omega) (by omega) (by simp [World.cell?, hBs]) hcells) (fun h k => h.trans k) (fun W l o o' hl ho hoc _ p v hp hv => ?kb) (Below.refl _ _) (fun _ => rfl)
    (fun pre W => (Lib.IsBuilderF 122 5 w1.heap.size w1.heap.size (Lib.byteCells (txtB n pre)) W ∧ W.heap[w1.heap.size + 1]? = some (.cells #[.slice (some ad) n cap] 67 (0, 0))) ∧ Below w1.heap.size w1 W ∧ w1.heap.size + 2 ≤ W.heap.size)
    (fun _ _ _ => False)
    ?own
    (fun _ _ _ _ _ hs _ _ => hs)
    ⟨⟨.inl ⟨Nat.le_refl _, .slice none 0 0, hbd, ⟨rfl, .inl ⟨rfl, rfl⟩⟩, by simp [Value.ownBlock]⟩, hBs⟩, hB0, by omega⟩
    (fun x => { tmps := #[.slice (some ad) n cap, .pointer (some ⟨w.heap.size, 0, none⟩), .string { data := #[] }, .pointer (some ⟨w1.heap.size, 0, none⟩), .int .i64 (x.1 : Int), .int .u32 (x.2.1 : Int), undef, .slice (some ad) n cap, .bool false, .slice (some ad) n cap, .func (.func 133) #[] #[.pointer (some ⟨w1.heap.size + 1, 0, none⟩)], .int .i64 (x.1 : Int), .int .u32 (x.2.1 : Int), undef, undef, undef, undef, undef, undef, undef, undef, undef, undef, undef, undef, undef, undef, undef, undef], defers := [] }) ?assign ?body ?done ?stop
  case kb => exact cell_kept hv (grownBy_putObj' W l o') (fun r e => by cases e; exact ⟨o, ho, hoc⟩)
  case own =>
    rintro s A B row ⟨⟨g1, g2⟩, g3, g4⟩ hg hr
    have hk : ∀ (k : Nat) (c : Array Value) (t : TypeId) (fz : Nat × Nat), A.heap[k]? = some (Obj.cells c t fz) → B.heap[k]? = some (Obj.cells c t fz) := fun k c t fz h => by
      have hlt : k < A.heap.size := (Array.getElem?_eq_some_iff.1 h).1
      rw [hg.block k hlt (fun e => by obtain ⟨-, o, ho, hc⟩ := hr k e.symm; rw [h] at ho; cases ho; cases hc)]
      exact h
    have hBB : Below w1.heap.size A B := ⟨hg.os, hg.tape, hg.output, hg.size, fun k hk2 => hg.block k (by omega) (fun e => by have := (hr k e.symm).1; omega)⟩
    exact ⟨⟨bldI_blocks g1 hk, hk _ _ _ _ g2⟩, g3.trans hBB, by have := hg.size; omega⟩
  case assign =>
    intro l x W K hK
    gi_wp2
    exact hK
  case body =>
    rintro l pre x W ⟨⟨hbl, hbs⟩, hBW, hWs⟩ hlt
    have hXW : XW W := hw.below (hB1.trans (hBW.mono (by omega)))
    have hcs := (hBW.cell (p := ⟨w.heap.size, 0, none⟩) (by simp; omega)).trans hc1
    obtain ⟨hd1, hd2⟩ := dec_len x.2.2
    have hx2 := x.2.2
    obtain ⟨hp1, hp2⟩ := pad_cells (9 - (Lib.decDigits x.2.1).length) (by omega)
    have htl := txtB_len n pre
    have hds : (ByteArray.mk (Lib.decDigits x.2.1).toArray).size = (Lib.decDigits x.2.1).length := by simp [ByteArray.size]
    gi_wp2_with first | (refine ⟨trivial, ?_⟩; gi_at_call 68; refine (CallsIn.inRound l (callsIn_wide.2 (xitoa_any x.2.1 _ (by omega) hXW))).mono ?_; rintro e w2 ⟨rfl, hb2⟩; have hcs2 := (hb2.cell (p := ⟨w.heap.size, 0, none⟩) (by dsimp only; omega)).trans hcs; have hbl2 := bldI_blocks hbl (cells_below hb2); have hbw2 := hb2.size) | (refine ⟨trivial, ?_⟩; gi_at_call 114; refine (CallsIn.inRound l (callsIn_wide.2 (Tryz.Builder_WriteString_k w1.heap.size w1.heap.size _ (zeros8.extract 0 (9 - (Lib.decDigits x.2.1).length)) w2 hbl2 (by rw [Lib.byteCells_length]; omega) (by omega)))).mono ?_; rintro e w3 ⟨rfl, hbl3, hb3, ho3⟩; rw [hp1, ← Lib.byteCells_append] at hbl3; have hbw3 := hb3.size) | (refine ⟨trivial, ?_⟩; gi_at_call 114; refine (CallsIn.inRound l (callsIn_wide.2 (Tryz.Builder_WriteString_k w1.heap.size w1.heap.size _ ⟨(Lib.decDigits x.2.1).toArray⟩ w3 (.inr hbl3) (by rw [Lib.byteCells_length, hds]; (try simp only [List.length_append, List.length_replicate]); omega) (by omega)))).mono ?_; rintro e w4 ⟨rfl, hbl4, hb4, ho4⟩; rw [strCells_arr, ← Lib.byteCells_append] at hbl4; have hbw4 := hb4.size) | (refine ⟨trivial, ?_⟩; gi_at_call 114; refine (CallsIn.inRound l (callsIn_wide.2 (Tryz.Builder_WriteString_k w1.heap.size w1.heap.size _ ⟨(Lib.decDigits x.2.1).toArray⟩ w2 hbl2 (by rw [Lib.byteCells_length, hds]; (try simp only [List.length_append, List.length_replicate]); omega) (by omega)))).mono ?_; rintro e w4 ⟨rfl, hbl4, hb4, ho4⟩; rw [strCells_arr, ← Lib.byteCells_append] at hbl4; have hbw4 := hb4.size)
    · rename_i hlt2
      have hB4 : Below w1.heap.size W w4 := (hb2.mono (by omega)).trans (hb3.trans hb4)
      obtain ⟨k1, k2, k3⟩ := body_end hbl hbs ((others_below hb2).trans (ho3.trans ho4)) hB4
      refine ⟨k1, k2, ⟨?_, k3⟩, hBW.trans hB4, by omega⟩
      rw [txtB_snoc, limbT, if_pos (by omega), ← List.append_assoc]
      exact .inr hbl4
    · rename_i hlt2
      have hB4 : Below w1.heap.size W w4 := (hb2.mono (by omega)).trans hb4
      obtain ⟨k1, k2, k3⟩ := body_end hbl hbs ((others_below hb2).trans ho4) hB4
      refine ⟨k1, k2, ⟨?_, k3⟩, hBW.trans hB4, by omega⟩
      rw [txtB_snoc, limbT, if_neg (by omega), List.nil_append]
      exact .inr hbl4
  case done =>
    rintro D ys W hD rfl ⟨⟨hbl, hbs⟩, hBW, hWs⟩ hK
    gi_wp2_with first | (refine ⟨trivial, ?_⟩; gi_at_call 115; refine (callsIn_wide.2 (Tryz.Builder_String_any_k w1.heap.size w1.heap.size _ W hbl (by omega))).mono ?_; rintro e w5 ⟨rfl, hbl5, hb5, ho5⟩)
    have hK5 := ho5 D _ hK (by simp; omega) (fun c fz e => by cases e)
    have htx : txtB n (downto (limb x) n n) = Lib.decDigits x := by
      rw [txt_down n hn.symm n (Nat.le_refl _), Nat.sub_self, Nat.pow_zero, Nat.div_one, ExP.dec_pos hx0]
    refine ⟨by simp, .inl ⟨_, _, rfl, run_takeDeferred hK5, ?_⟩⟩
    exact ⟨_, results_tmp rfl _ _ _, by rw [htx]; rfl, hB1.trans (((hBW.trans hb5).trans (belowK_b (w := w1) (Nat.le_refl _) w5 D _ _ (by omega) hK5 rfl rfl)).mono (by omega))⟩
  case stop =>
    rintro D c pre W _ _ h _
    exact h.elim
set_option maxRecDepth 100000 in
theorem text_any (a : Option Addr) (cap x : Nat) (w : World) (hw : XW w) (hx : ExP.nd 1000000000 x ≤ 1000000) (hs : SlAt a (nv .u32 1000000000 x) w) :
    Calls Tryz.prog 98 #[.slice a (ExP.nd 1000000000 x) cap] w fun e w' => e = .returned (.string (bstr (Lib.decDigits x))) ∧ Below w.heap.size w w' := by
  rcases Nat.eq_zero_or_pos x with rfl | h0
  · have hz := fun w => zero_any a (ExP.nd 1000000000 0) cap w
    rw [ExP.nd_zero, show decide (((0 : Nat) : Int) = 0) = true from rfl] at hz
    rw [ExP.nd_zero, Lib.decDigits_one (by omega)]
    refine enter env_ok Tryz.func98 rfl Tryz.results98 Tryz.ntmps98 [] [] [.any (.slice a 0 cap)] ⟨rfl, trivial⟩ (Nat.le_of_ble_eq_true rfl) w _ 1000 ?_
    repeat' (first | ((with_reducible first | show wpS _ _ _ _ | show putD _ _ _ _ | show putW _ _ _ _ | show splitG _ _ _ | show wpQ _ _ _ _ _ _ | show wpD _ _ _ _ _ _ _ | show wpX _ _ _ _ _ _ _ | show expX _ _ _ _ _ _ | show stepX _ _ _ _ | show keepR _ _ _ | show wpY _ _ _ _); conv => whnf) | ((with_reducible show RetN _ _ _); refine retB fun β => ?_) | ((with_reducible show _ ∧ _); first | (apply And.intro; (· intro h; exfalso; first | omega | (revert h; decide)); intro _) | (apply And.intro; rotate_left; (· intro h; exfalso; first | omega | (revert h; decide)); intro _) | (refine ⟨fun _ => ?_, fun _ => ?_⟩) | (apply And.intro; · kernel_rfl) | (apply And.intro; · (show inK _ _; unfold inK; omega)) | (apply And.intro; · (show (_ : Int) ≤ 9223372036854775807; (try simp only [List.length_append, List.length_drop, List.length_take, List.length_cons, List.length_nil]); omega))) | ((with_reducible show AllBe _); refine allBe fun βe => ?_; conv => whnf) | ((with_reducible show bothX _ _); refine bothI ?_ ?_; conv => whnf) | (with_reducible exact trivial) | ((with_reducible show CallN _ _ _ _ _ _ _ _); refine call_of env_ok rfl 1000 ?_) | ((with_reducible show XopN _ _ _ _ _ _); refine xop_of env_ok rfl 1000 ?_) | ((with_reducible show CallX _ _ _ _ _ _); first | (refine callX (.lit true) (by kernel_rfl) rfl (trivial) (fun β w hm => hz w) ?_)) | ((with_reducible show OpX _ _ _ _); first | fail) | ((with_reducible show ∃ _ : SV, _); first | fail) | ((with_reducible show ∃ _, _); first | fail))
    all_goals rfl
  · obtain ⟨ad, rfl⟩ := SlAt.some hs (nv_ne ((ExP.nd_pos (b := 1000000000) (by omega)).2 h0))
    obtain ⟨ad', e, h1, h2⟩ := hs 0 _ (nv_get ((ExP.nd_pos (b := 1000000000) (by omega)).2 h0))
    cases e
    exact text_pos ad cap x w hw h0 hx hs h1
end Go.Proofs.YtfodbfbljeeojaaGreatDoor
