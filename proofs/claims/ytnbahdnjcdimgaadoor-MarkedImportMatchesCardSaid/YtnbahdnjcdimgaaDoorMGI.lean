/- Marked-down texts, the program: marks that toggle, walked in place. Marked-down texts, the program: a character read, walked in place. Marked-down texts, plain: a line as the program reads it, step by step. Texts divided at a byte, plainly. Texts divided, the reference. Marked-down texts, plain: the lines of a text, and what they hold. -/
import Derived.Test.YtnbahdnjcdimgaaDoorMMkW4
import Derived.Test.YtnbahdnjcdimgaaDoorMGG
import Derived.Lib.CountLaws
import Derived.Lib.SplitLaws
import Derived.Test.YtnbahdnjcdimgaaDoorMGH
set_option linter.unusedSimpArgs false
set_option linter.unusedVariables false
namespace Go.Proofs.YtnbahdnjcdimgaaDoor
open Go.RowKit
open Sym
attribute [local irreducible] Calls Sym.AggEq
namespace MkP
/-- an element of the flow as it lies in memory -/
structure El where
  c : Nat
  a : Option Addr
  cap : Nat
  at_ : List (Str × Str)
def elv (x : El) : List Value := [.int .i64 (x.c : Nat), .int .i64 0, .slice x.a x.at_.length x.cap]
def elvs (l : List El) : List Value := l.flatMap elv
def lov (r : Nat) : List Value := [.int .i64 5, .int .i64 0, .int .i64 (r : Nat), .int .i64 0, .string (bstr [])]
def lovs (l : List Nat) : List Value := l.flatMap lov
/-- a reader: what it has read, and how it stands -/
structure RT where
  ob : Bool
  a : Option Addr
  n : Nat
  cap : Nat
  els : List El
  lb : Bool
  b : Option Addr
  k : Nat
  lcap : Nat
  ls : List Nat
  o0 : Bool
  o1 : Bool
  o2 : Bool
  o3 : Bool
  link : Str
end MkP
abbrev rdR (t : MkP.RT) (Φ : Nat → Option Obj → Prop) : List (Nat × Bool × SRow) := [(0, true, .cells 43 [.any (.slice t.a t.n t.cap), .any (.slice t.b t.k t.lcap), .bool t.o0, .bool t.o1, .bool t.o2, .bool t.o3, .str t.link]), (1, t.ob, .blob (OwnZ t.ob 30 3 t.a t.n t.cap (MkP.elvs t.els))), (2, t.lb, .blob (OwnZ t.lb 38 5 t.b t.k t.lcap (MkP.lovs t.ls))), (3, false, .blob Φ)]
set_option maxRecDepth 100000 in
set_option maxHeartbeats 4000000 in
theorem togX {base : Nat} {w0 : Base} {fn : Func} {res : List ResultVar} {R : Ending → World → Prop} {sc sb : List Nat} {K : St → Prop} {d m : Nat} {fr : List (Nat × SV)} (s : List UInt8) (t : MkP.RT) (Φ : Nat → Option Obj → Prop) (hT : ∀ (i : Nat) s, MkP.togs[i]? = some s → w0.w.cell? ⟨0, i, none⟩ = some (.string (bstr s))) (hg : 0 < base) (hd : Nat.blt d m = true)
    (h : K ⟨(d, .int .i64 ((MkP.tgl s t.o0 t.o1 t.o2 t.o3).1 : Nat)) :: fr, rdR { t with o0 := (MkP.tgl s t.o0 t.o1 t.o2 t.o3).2.1, o1 := (MkP.tgl s t.o0 t.o1 t.o2 t.o3).2.2.1, o2 := (MkP.tgl s t.o0 t.o1 t.o2 t.o3).2.2.2.1, o3 := (MkP.tgl s t.o0 t.o1 t.o2 t.o3).2.2.2.2 } Φ, 4, m⟩) : CallX ⟨Tryd.prog, env, base, w0, fn, res, R, sc, sb⟩ (some d) 26 [.ptr 0 0, .str s] ⟨fr, rdR t Φ, 4, m⟩ K := by
  have ld : ∀ w', Below base w0.w w' → ∀ β j v, (SV.dens β tgS)[j]? = some v → w'.cell? ((⟨0, 0, none⟩ : Addr).add j) = some v := fun w' hb β j v hv => by
    have e : SV.dens β tgS = MkP.togs.map fun s => Value.string (bstr s) := rfl
    rw [e, List.getElem?_map] at hv
    obtain ⟨s, hs, rfl⟩ := Option.map_eq_some_iff.1 hv
    rw [add_at, Nat.zero_add]
    exact (hb.cell hg).trans (hT j s hs)
  have P := fun (p : List UInt8) (w : World) => pre_any s p w
  obtain ⟨q, hq⟩ : ∃ q, MkP.tgl s t.o0 t.o1 t.o2 t.o3 = q := ⟨_, rfl⟩
  rw [hq] at h
  obtain ⟨ob, a, n, cap, els, lb, b, k, lcap, ls, o0, o1, o2, o3, link⟩ := t
  dsimp only [rdR] at *
  refine inlineX env_ok Tryd.func26 rfl Tryd.results26 Tryd.ntmps26 (by kernel_rfl) hd ⟨(by show 0 < 4; decide), trivial, trivial⟩ (Nat.le_of_ble_eq_true rfl) (T := Unit) (fun _ => .int .i64 (q.1 : Nat)) (fun _ => _) [] [] 1000 (fun R' β0 hR => ?_) (fun _ => h)
  repeat' (first | refine yX ?_ | (apply And.intro <;> intro _) | apply bothI | refine retB fun β => ?_ | intro βe | (refine ⟨_, ?ok, x_loadAgg (vs := tgS) (fun w => Tryd.isAgg84 w) (fun w => Tryd.sizeOf84 w) ld, ?_⟩; (case ok => exact fun _ _ => ⟨trivial, trivial, trivial, trivial, trivial, trivial, trivial, trivial, trivial⟩)) | exact trivial)
  refine yZ (T := {i : Nat // i ≤ 4 ∧ (1 ≤ i → Lib.hasPrefix s [42, 42] = false) ∧ (2 ≤ i → Lib.hasPrefix s [42] = false) ∧ (3 ≤ i → Lib.hasPrefix s [126, 126] = false) ∧ (4 ≤ i → Lib.hasPrefix s [96] = false)}) (fun i => ⟨[(0, .ptr 0 0), (1, .str s), (7, .agg tgS), (8, .int .i64 (i.1 : Nat))], rdR ⟨ob, a, n, cap, els, lb, b, k, lcap, ls, o0, o1, o2, o3, link⟩ Φ, 4, 32⟩) (fun i => 4 - i.1) ⟨0, Nat.zero_le _, (fun h => by omega), (fun h => by omega), (fun h => by omega), (fun h => by omega)⟩ [] [] (fun i I hI => ?_) (by dsimp only [rdR]; ((with_reducible show wk _ _); repeat' (first | exact trivial | exact eqSV_refl _ | refine eqI ?_ | refine eqS ?_ | apply And.intro | exact yV | fail)); all_goals first | exact fun b x h => h | exact wkz ⟨rfl, fun b x h => h⟩) (fun _ => Nat.le_refl _)
  obtain ⟨i, i0, i1, i2, i3, i4⟩ := i
  dsimp only [rdR] at *
  rcases (by omega : i = 0 ∨ i = 1 ∨ i = 2 ∨ i = 3 ∨ i = 4) with rfl | rfl | rfl | rfl | rfl
  · repeat' (first | refine yX ?_ | (apply And.intro <;> intro _) | apply bothI | refine retB fun β => ?_ | intro βe | (refine ⟨_, ?ok, x_indexN (j := 0) (ws := [.str [42, 42], .str MkP.nBold]) rfl Tryd.underlying84 (fun w => Tryd.sizeOf83 w) (fun w => Tryd.isAgg83 w) (by omega) rfl, ?_⟩; (case ok => exact fun _ _ => ⟨trivial, trivial, trivial⟩)) | refine yO x_nilP ?_ | (refine ⟨_, ?ok, x_indexPtr (j := 0) Tryd.underlying41 (fun w => Tryd.sizeOf4 w) (by omega), ?_⟩; (case ok => exact fun n h => h.1)) | refine yK (.bool (Lib.hasPrefix s [42, 42])) (fun β w hm => P [42, 42] w) ?_ | exact trivial)
    all_goals first | (exfalso; omega) | skip
    · obtain rfl : q = (2, !o0, o1, o2, o3) := by rw [← hq]; unfold MkP.tgl; simp_all
      exact hR () _ _ (by (unfold wkV; refine ⟨rfl, eqSV_refl _, trivial, ?_⟩; dsimp only [rdR]; (repeat' (first | exact trivial | exact eqSV_refl _ | refine eqI ?_ | refine eqS ?_ | apply And.intro | exact yV | fail)); all_goals first | exact fun b x h => h | exact wkz ⟨rfl, fun b x h => h⟩))
    · refine hI _ ⟨0 + 1, by omega, by first | (intro h; exfalso; omega) | (intro _; assumption), by first | (intro h; exfalso; omega) | (intro _; assumption), by first | (intro h; exfalso; omega) | (intro _; assumption), by first | (intro h; exfalso; omega) | (intro _; assumption)⟩ (by show 4 - (0 + 1) < 4 - 0; omega) (by ((with_reducible show wk _ _); repeat' (first | exact trivial | exact eqSV_refl _ | refine eqI ?_ | refine eqS ?_ | apply And.intro | exact yV | fail)); all_goals first | exact fun b x h => h | exact wkz ⟨rfl, fun b x h => h⟩)
  · have i1 := i1 (by omega)
    repeat' (first | refine yX ?_ | (apply And.intro <;> intro _) | apply bothI | refine retB fun β => ?_ | intro βe | (refine ⟨_, ?ok, x_indexN (j := 1) (ws := [.str [42], .str MkP.nItalic]) rfl Tryd.underlying84 (fun w => Tryd.sizeOf83 w) (fun w => Tryd.isAgg83 w) (by omega) rfl, ?_⟩; (case ok => exact fun _ _ => ⟨trivial, trivial, trivial⟩)) | refine yO x_nilP ?_ | (refine ⟨_, ?ok, x_indexPtr (j := 1) Tryd.underlying41 (fun w => Tryd.sizeOf4 w) (by omega), ?_⟩; (case ok => exact fun n h => h.1)) | refine yK (.bool (Lib.hasPrefix s [42])) (fun β w hm => P [42] w) ?_ | exact trivial)
    all_goals first | (exfalso; omega) | skip
    · obtain rfl : q = (1, o0, !o1, o2, o3) := by rw [← hq]; unfold MkP.tgl; simp_all
      exact hR () _ _ (by (unfold wkV; refine ⟨rfl, eqSV_refl _, trivial, ?_⟩; dsimp only [rdR]; (repeat' (first | exact trivial | exact eqSV_refl _ | refine eqI ?_ | refine eqS ?_ | apply And.intro | exact yV | fail)); all_goals first | exact fun b x h => h | exact wkz ⟨rfl, fun b x h => h⟩))
    · refine hI _ ⟨1 + 1, by omega, by first | (intro h; exfalso; omega) | (intro _; assumption), by first | (intro h; exfalso; omega) | (intro _; assumption), by first | (intro h; exfalso; omega) | (intro _; assumption), by first | (intro h; exfalso; omega) | (intro _; assumption)⟩ (by show 4 - (1 + 1) < 4 - 1; omega) (by ((with_reducible show wk _ _); repeat' (first | exact trivial | exact eqSV_refl _ | refine eqI ?_ | refine eqS ?_ | apply And.intro | exact yV | fail)); all_goals first | exact fun b x h => h | exact wkz ⟨rfl, fun b x h => h⟩)
  · have i1 := i1 (by omega)
    have i2 := i2 (by omega)
    repeat' (first | refine yX ?_ | (apply And.intro <;> intro _) | apply bothI | refine retB fun β => ?_ | intro βe | (refine ⟨_, ?ok, x_indexN (j := 2) (ws := [.str [126, 126], .str MkP.nStrike]) rfl Tryd.underlying84 (fun w => Tryd.sizeOf83 w) (fun w => Tryd.isAgg83 w) (by omega) rfl, ?_⟩; (case ok => exact fun _ _ => ⟨trivial, trivial, trivial⟩)) | refine yO x_nilP ?_ | (refine ⟨_, ?ok, x_indexPtr (j := 2) Tryd.underlying41 (fun w => Tryd.sizeOf4 w) (by omega), ?_⟩; (case ok => exact fun n h => h.1)) | refine yK (.bool (Lib.hasPrefix s [126, 126])) (fun β w hm => P [126, 126] w) ?_ | exact trivial)
    all_goals first | (exfalso; omega) | skip
    · obtain rfl : q = (2, o0, o1, !o2, o3) := by rw [← hq]; unfold MkP.tgl; simp_all
      exact hR () _ _ (by (unfold wkV; refine ⟨rfl, eqSV_refl _, trivial, ?_⟩; dsimp only [rdR]; (repeat' (first | exact trivial | exact eqSV_refl _ | refine eqI ?_ | refine eqS ?_ | apply And.intro | exact yV | fail)); all_goals first | exact fun b x h => h | exact wkz ⟨rfl, fun b x h => h⟩))
    · refine hI _ ⟨2 + 1, by omega, by first | (intro h; exfalso; omega) | (intro _; assumption), by first | (intro h; exfalso; omega) | (intro _; assumption), by first | (intro h; exfalso; omega) | (intro _; assumption), by first | (intro h; exfalso; omega) | (intro _; assumption)⟩ (by show 4 - (2 + 1) < 4 - 2; omega) (by ((with_reducible show wk _ _); repeat' (first | exact trivial | exact eqSV_refl _ | refine eqI ?_ | refine eqS ?_ | apply And.intro | exact yV | fail)); all_goals first | exact fun b x h => h | exact wkz ⟨rfl, fun b x h => h⟩)
  · have i1 := i1 (by omega)
    have i2 := i2 (by omega)
    have i3 := i3 (by omega)
    repeat' (first | refine yX ?_ | (apply And.intro <;> intro _) | apply bothI | refine retB fun β => ?_ | intro βe | (refine ⟨_, ?ok, x_indexN (j := 3) (ws := [.str [96], .str MkP.nFixed]) rfl Tryd.underlying84 (fun w => Tryd.sizeOf83 w) (fun w => Tryd.isAgg83 w) (by omega) rfl, ?_⟩; (case ok => exact fun _ _ => ⟨trivial, trivial, trivial⟩)) | refine yO x_nilP ?_ | (refine ⟨_, ?ok, x_indexPtr (j := 3) Tryd.underlying41 (fun w => Tryd.sizeOf4 w) (by omega), ?_⟩; (case ok => exact fun n h => h.1)) | refine yK (.bool (Lib.hasPrefix s [96])) (fun β w hm => P [96] w) ?_ | exact trivial)
    all_goals first | (exfalso; omega) | skip
    · obtain rfl : q = (1, o0, o1, o2, !o3) := by rw [← hq]; unfold MkP.tgl; simp_all
      exact hR () _ _ (by (unfold wkV; refine ⟨rfl, eqSV_refl _, trivial, ?_⟩; dsimp only [rdR]; (repeat' (first | exact trivial | exact eqSV_refl _ | refine eqI ?_ | refine eqS ?_ | apply And.intro | exact yV | fail)); all_goals first | exact fun b x h => h | exact wkz ⟨rfl, fun b x h => h⟩))
    · refine hI _ ⟨3 + 1, by omega, by first | (intro h; exfalso; omega) | (intro _; assumption), by first | (intro h; exfalso; omega) | (intro _; assumption), by first | (intro h; exfalso; omega) | (intro _; assumption), by first | (intro h; exfalso; omega) | (intro _; assumption)⟩ (by show 4 - (3 + 1) < 4 - 3; omega) (by ((with_reducible show wk _ _); repeat' (first | exact trivial | exact eqSV_refl _ | refine eqI ?_ | refine eqS ?_ | apply And.intro | exact yV | fail)); all_goals first | exact fun b x h => h | exact wkz ⟨rfl, fun b x h => h⟩)
  · have i1 := i1 (by omega)
    have i2 := i2 (by omega)
    have i3 := i3 (by omega)
    have i4 := i4 (by omega)
    repeat' (first | refine yX ?_ | (apply And.intro <;> intro _) | apply bothI | refine retB fun β => ?_ | intro βe | fail | exact trivial)
    all_goals first | (exfalso; omega) | skip
    obtain rfl : q = (0, o0, o1, o2, o3) := by rw [← hq]; unfold MkP.tgl; simp_all
    exact hR () _ _ (by (unfold wkV; refine ⟨rfl, eqSV_refl _, trivial, ?_⟩; dsimp only [rdR]; (repeat' (first | exact trivial | exact eqSV_refl _ | refine eqI ?_ | refine eqS ?_ | apply And.intro | exact yV | fail)); all_goals first | exact fun b x h => h | exact wkz ⟨rfl, fun b x h => h⟩))
end Go.Proofs.YtnbahdnjcdimgaaDoor
namespace Go.Proofs.YtnbahdnjcdimgaaDoor
open Go.RowKit
open Sym
attribute [local irreducible] Calls Sym.AggEq
namespace MkP
theorem elv_len (l : List El) : (elvs l).length = l.length * 3 := flat_len (f := elv) (sz := 3) (fun _ => rfl) l
theorem elvs_add (l m : List El) : elvs (l ++ m) = elvs l ++ elvs m := by simp [elvs]
theorem lovs_add (l m : List Nat) : lovs (l ++ m) = lovs l ++ lovs m := by simp [lovs]
/-- a reader behind a character -/
def chR (t : RT) (c : Nat) (bad : Bool) (g cap gl lcap : Nat) (xa : Option Addr) (xc : Nat) : RT := { t with ob := true, a := some ⟨g, 0, none⟩, n := t.n + 1, cap := cap, els := t.els ++ [⟨c, xa, xc, ats t.o0 t.o1 t.o2 t.o3 t.link⟩], lb := bad || t.lb, b := if bad then some ⟨gl, 0, none⟩ else t.b, k := if bad then t.k + 1 else t.k, lcap := if bad then lcap else t.lcap, ls := if bad then t.ls ++ [t.n] else t.ls }
end MkP
theorem elInfo : (Tryd.prog.info? 30).map (fun i => (i.zero, i.size, i.bytes)) = some (some (.agg #[.int .i64 0, .int .i64 0, .slice none 0 0]), 3, 40) := by kernel_rfl
theorem loInfo : (Tryd.prog.info? 38).map (fun i => (i.zero, i.size, i.bytes)) = some (some (.agg #[.int .i64 0, .int .i64 0, .int .i64 0, .int .i64 0, .string ⟨#[]⟩]), 5, 48) := by kernel_rfl
theorem kept_of {base : Nat} {w1 : Base} {a : Option Addr} {xs : List Value} (h : Kept base w1 a xs) : Kept base ⟨w1.w, fun _ => 0, 0, w1.pr⟩ a xs := ⟨h.at_, h.pr⟩
theorem kept_to {base : Nat} {w1 : Base} {a : Option Addr} {xs : List Value} (h : Kept base ⟨w1.w, fun _ => 0, 0, w1.pr⟩ a xs) : Kept base w1 a xs := ⟨h.at_, h.pr⟩
theorem attrs_row {base : Nat} {w0 : Base} {rows : List (Nat × Bool × SRow)} {nx : Nat} {β : Nat → Nat} {w : World} (hm : Mem base w0 rows nx β w) (hX : XM w) {A B : Value} {o0 o1 o2 o3 : Bool} {link : List UInt8} (hr : get rows 0 = some (true, .cells 43 [.any A, .any B, .bool o0, .bool o1, .bool o2, .bool o3, .str link])) :
    Calls Tryd.prog 43 (SV.dens β [.ptr 0 0]).toArray w fun e w' => Below w.heap.size w w' ∧ ∃ q : Option Addr × Nat, e = .returned ((SV.any (.slice q.1 (MkP.ats o0 o1 o2 o3 link).length q.2)).den β) ∧ SlAt q.1 (MkP.atv (MkP.ats o0 o1 o2 o3 link)) w' ∧ FreshX q.1 (MkP.atv (MkP.ats o0 o1 o2 o3 link)) w := by
  have r : Row w (β 0) _ _ := (hm.row 0 _ _ hr).1
  exact attrs_any (β 0) o0 o1 o2 o3 link w hX (by rw [r.cell]; rfl) (by rw [r.cell]; rfl) (by rw [r.cell]; rfl) (by rw [r.cell]; rfl) (by rw [r.cell]; rfl)
end Go.Proofs.YtnbahdnjcdimgaaDoor
namespace Go.Proofs.YtnbahdnjcdimgaaDoor
namespace MkP
open VaP
theorem tgA_suf : ∀ (n : Nat) (s u : Str), tgA n s = some u → u <:+ s
  | 0, s, u, h => by simp [tgA] at h
  | n + 1, s, u, h => by
    unfold tgA at h
    split at h
    · cases h
    · split at h
      · exact (tgA_suf n _ u h).trans (List.drop_suffix _ _)
      · split at h
        · cases h; exact List.suffix_refl _
        · exact (tgA_suf n _ u h).trans (List.drop_suffix _ _)
theorem tgB_suf : ∀ (n : Nat) (s acc t r : Str), tgB n s acc = some (t, r) → r <:+ s
  | 0, s, acc, t, r, h => by simp [tgB] at h
  | n + 1, s, acc, t, r, h => by
    unfold tgB at h
    split at h
    · cases h
    · split at h
      · split at h
        · cases h
        · cases h; exact List.drop_suffix _ _
      · split at h
        · split at h
          · exact (tgB_suf n _ _ t r h).trans (List.drop_suffix _ _)
          · cases h
        · split at h
          · exact (tgB_suf n _ _ t r h).trans (List.drop_suffix _ _)
          · cases h
theorem target_suf {s t u r : Str} (h : target s = some (t, u, r)) : u <:+ s ∧ r <:+ s := by
  unfold target at h
  split at h
  · cases h
  · rename_i u' hu
    split at h
    · cases h
    · rename_i t' r' hr
      cases h
      exact ⟨tgA_suf _ _ _ hu, ((tgB_suf _ _ _ _ _ hr).trans (List.drop_suffix _ _)).trans (tgA_suf _ _ _ hu)⟩
theorem suf_drop {s r : Str} (h : r <:+ s) : s.drop (s.length - r.length) = r := (List.suffix_iff_eq_drop.1 h).symm
theorem pre_1 {s : Str} {c : UInt8} (hc : c ≠ 0) : Lib.hasPrefix s [c] = decide (bt s 0 = c.toNat) := by
  cases s with
  | nil =>
    have : ¬ (0 : Nat) = c.toNat := fun e => hc (UInt8.toNat_inj.1 e.symm)
    simp [Lib.hasPrefix, bt, this]
  | cons a s =>
    rw [Bool.eq_iff_iff]
    simp only [Lib.hasPrefix, List.isPrefixOf, bt, List.getD_cons_zero, Bool.and_eq_true, beq_iff_eq, decide_eq_true_eq]
    constructor
    · rintro ⟨h1, -⟩; rw [h1]
    · intro h1; exact ⟨(UInt8.toNat_inj.1 h1).symm, trivial⟩
theorem pre_2 {s : Str} {c d : UInt8} (hc : c ≠ 0) (hd : d ≠ 0) : Lib.hasPrefix s [c, d] = decide (bt s 0 = c.toNat ∧ bt s 1 = d.toNat) := by
  cases s with
  | nil =>
    have : ¬ (0 : Nat) = c.toNat := fun e => hc (UInt8.toNat_inj.1 e.symm)
    simp [Lib.hasPrefix, bt, this]
  | cons a s =>
    have h := pre_1 (s := s) hd
    rw [Bool.eq_iff_iff] at h ⊢
    simp only [Lib.hasPrefix, List.isPrefixOf, bt, List.getD_cons_zero, List.getD_cons_succ, Bool.and_eq_true, beq_iff_eq, decide_eq_true_eq] at h ⊢
    rw [h]
    constructor
    · rintro ⟨h1, h2⟩; rw [h1]; exact ⟨rfl, by simpa using h2⟩
    · rintro ⟨h1, h2⟩; exact ⟨(UInt8.toNat_inj.1 h1).symm, by simpa using h2⟩
/-- what stands in memory for the place where a link's text ends -/
def stI : Option Nat → Int
  | none => -1
  | some k => (k : Nat)
theorem stI_eq {o : Option Nat} {n : Nat} : (n : Int) = stI o ↔ o = some n := by
  cases o with
  | none => simp only [stI]; constructor
            · intro h; omega
            · intro h; cases h
  | some k => simp only [stI]; constructor
              · intro h; congr 1; omega
              · intro h; cases h; rfl
def ec (x : El) : Nat × List (Str × Str) := (x.c, x.at_)
structure LT where
  r : RT
  s : Str
  stop : Option Nat
  aft : Str
  its : List Itm
abbrev ps (t : LT) : PS := ⟨t.s, t.r.o0, t.r.o1, t.r.o2, t.r.o3, t.r.link, t.stop, t.aft⟩
structure LI (N : Nat) (Tot : List Itm) (r0 : RT) (t : LT) : Prop where
  tot : t.its ++ pl (N + 1) (ps t) = Tot
  els : t.r.els.map ec = r0.els.map ec ++ t.its.map (·.2)
  n : t.r.n = r0.n + t.its.length
  ls : t.r.ls = r0.ls ++ lossI r0.n t.its
  k : t.r.k ≤ r0.k + t.its.length ∧ t.r.k = t.r.ls.length
  len : t.its.length + t.s.length ≤ N
  aft : ∀ k, t.stop = some k → t.aft.length < k
theorem LI.go {N : Nat} {Tot : List Itm} {r0 : RT} {t t' : LT} (h : LI N Tot r0 t) (x : List Itm) (hi : t'.its = t.its ++ x) (he : pl (N + 1) (ps t) = x ++ pl N (ps t')) (h1 : t'.s.length < t.s.length) (ha : ∀ k, t'.stop = some k → t'.aft.length < k) (h2 : t'.r.els.map ec = t.r.els.map ec ++ x.map (·.2)) (h3 : t'.r.n = t.r.n + x.length) (h4 : t'.r.ls = t.r.ls ++ lossI t.r.n x) (h5 : t'.r.k ≤ t.r.k + x.length ∧ t'.r.k = t'.r.ls.length) (hx : x.length ≤ 1) : LI N Tot r0 t' := by
  have hl := h.len
  refine ⟨?_, ?_, ?_, ?_, ⟨?_, h5.2⟩, ?_, ha⟩
  · rw [hi, List.append_assoc, pl_more N (N + 1) (ps t') ha (show t'.s.length < N by omega) (by omega), ← he]; exact h.tot
  · rw [h2, h.els, hi, List.map_append, List.append_assoc]
  · rw [h3, h.n, hi, List.length_append]; omega
  · rw [h4, h.ls, hi, lossI_app, List.append_assoc, h.n]
  · rw [hi, List.length_append]; have := h.k.1; omega
  · rw [hi, List.length_append]; omega
theorem LI.jump {N : Nat} {Tot : List Itm} {r0 r : RT} {s aft : Str} {stop : Option Nat} {its : List Itm} (h : LI N Tot r0 ⟨r, s, stop, aft, its⟩) (h0 : s ≠ []) (h1 : stop = some s.length) : LI N Tot r0 ⟨{ r with link := [] }, aft, none, aft, its⟩ := by
  refine h.go [] (by simp) ?_ (h.aft _ h1) (fun k hk => by cases hk) (by simp) rfl (by simp [lossI]) ⟨by simp, h.k.2⟩ (by simp)
  show pl (N + 1) _ = pl N _
  conv => lhs; unfold pl
  rw [if_neg h0, if_pos h1]
theorem chr_len {s : Str} (h : s ≠ []) : 1 ≤ (chr s).2.2 ∧ (chr s).2.2 ≤ s.length := by rw [chr_n]; exact dec_len h
theorem lossI_one (k : Nat) (x : Itm) : lossI k [x] = if x.1 then [k] else [] := by unfold lossI; split <;> rfl
theorem LI.esc {N : Nat} {Tot : List Itm} {r0 r : RT} {s aft : Str} {stop : Option Nat} {its : List Itm} (h : LI N Tot r0 ⟨r, s, stop, aft, its⟩) (h1 : stop ≠ some s.length) (h2 : bt s 0 = 92) (h3 : 1 < s.length) (g cap gl lcap : Nat) (xa : Option Addr) (xc : Nat) :
    LI N Tot r0 ⟨chR r (chr (s.drop 1)).2.1 (chr (s.drop 1)).1 g cap gl lcap xa xc, (s.drop 1).drop (chr (s.drop 1)).2.2, stop, aft, its ++ [((chr (s.drop 1)).1, (chr (s.drop 1)).2.1, ats r.o0 r.o1 r.o2 r.o3 r.link)]⟩ := by
  have h0 : s ≠ [] := fun e => by subst e; simp at h3
  have hd : s.drop 1 ≠ [] := fun e => by have := congrArg List.length e; simp at this; omega
  have hc := chr_len hd
  refine h.go _ rfl ?_ (by simp only [List.length_drop] at *; omega) h.aft (by simp [chR, ec]) (by simp [chR]) ?_ ?_ (by simp)
  · conv => lhs; unfold pl
    rw [if_neg h0, if_neg h1, if_pos ⟨h2, h3⟩, List.drop_drop, Nat.add_comm 1]
    rfl
  · rw [lossI_one]; dsimp only [chR]; split <;> simp
  · have := h.k.2; dsimp only [chR] at this ⊢; split <;> simp <;> omega
theorem tgl_eq (s : Str) (o0 o1 o2 o3 : Bool) : tgl s o0 o1 o2 o3 = if bt s 0 = 42 ∧ bt s 1 = 42 then (2, !o0, o1, o2, o3) else if bt s 0 = 42 then (1, o0, !o1, o2, o3) else if bt s 0 = 126 ∧ bt s 1 = 126 then (2, o0, o1, !o2, o3) else if bt s 0 = 96 then (1, o0, o1, o2, !o3) else (0, o0, o1, o2, o3) := by
  unfold tgl
  rw [pre_2 (by decide) (by decide), pre_1 (by decide), pre_2 (by decide) (by decide), pre_1 (by decide)]
  simp only [decide_eq_true_eq]
  rfl
theorem LI.tog {N : Nat} {Tot : List Itm} {r0 r : RT} {s aft : Str} {stop : Option Nat} {its : List Itm} (h : LI N Tot r0 ⟨r, s, stop, aft, its⟩) (h0 : s ≠ []) (h1 : stop ≠ some s.length) (h2 : ¬ (bt s 0 = 92 ∧ 1 < s.length)) (h3 : 0 < (tgl s r.o0 r.o1 r.o2 r.o3).1) :
    (tgl s r.o0 r.o1 r.o2 r.o3).1 ≤ s.length ∧ LI N Tot r0 ⟨{ r with o0 := (tgl s r.o0 r.o1 r.o2 r.o3).2.1, o1 := (tgl s r.o0 r.o1 r.o2 r.o3).2.2.1, o2 := (tgl s r.o0 r.o1 r.o2 r.o3).2.2.2.1, o3 := (tgl s r.o0 r.o1 r.o2 r.o3).2.2.2.2 }, s.drop (tgl s r.o0 r.o1 r.o2 r.o3).1, stop, aft, its⟩ := by
  have hp := List.length_pos_iff.2 h0
  have hl : (tgl s r.o0 r.o1 r.o2 r.o3).1 ≤ s.length := by
    rw [tgl_eq]
    have := fun h => bt_ne (s := s) (i := 1) h
    repeat' split
    all_goals dsimp only
    all_goals first | omega | (have := this (by omega); omega)
  refine ⟨hl, h.go [] (by simp) ?_ (by simp only [List.length_drop]; omega) h.aft (by simp) rfl (by simp [lossI]) ⟨by simp, h.k.2⟩ (by simp)⟩
  show pl (N + 1) _ = pl N _
  rw [tgl_eq] at h3 ⊢
  conv => lhs; unfold pl
  rw [if_neg h0, if_neg h1, if_neg h2]
  dsimp only
  repeat' split
  all_goals first | rfl | (exfalso; simp_all; done) | simp_all
theorem LI.link {N : Nat} {Tot : List Itm} {r0 r : RT} {s aft : Str} {stop : Option Nat} {its : List Itm} (h : LI N Tot r0 ⟨r, s, stop, aft, its⟩) (h0 : s ≠ []) (h1 : stop ≠ some s.length) (h3 : bt s 0 = 91) (h4 : r.link = []) {tx u q : Str} (h5 : target (s.drop 1) = some (tx, u, q)) :
    LI N Tot r0 ⟨{ r with link := tx }, s.drop 1, some u.length, q, its⟩ := by
  have hp := List.length_pos_iff.2 h0
  have hq : q.length < u.length := by
    rcases target_lk (s.drop 1) with ⟨t1, -⟩ | ⟨t, u', r', t1, -, -, -, -, -, t7⟩
    · rw [t1] at h5; cases h5
    · rw [t1] at h5; cases h5; exact t7
  refine h.go [] (by simp) ?_ (by simp only [List.length_drop]; omega) (fun k hk => by cases hk; exact hq) (by simp) rfl (by simp [lossI]) ⟨by simp, h.k.2⟩ (by simp)
  show pl (N + 1) _ = pl N _
  conv => lhs; unfold pl
  rw [if_neg h0, if_neg h1, if_neg (by dsimp only; omega), if_neg (by dsimp only; omega), if_neg (by dsimp only; omega), if_neg (by dsimp only; omega), if_neg (by dsimp only; omega), if_pos ⟨h3, h4⟩]
  dsimp only
  rw [h5]
theorem LI.plain {N : Nat} {Tot : List Itm} {r0 r : RT} {s aft : Str} {stop : Option Nat} {its : List Itm} (h : LI N Tot r0 ⟨r, s, stop, aft, its⟩) (h0 : s ≠ []) (h1 : stop ≠ some s.length) (h2 : ¬ (bt s 0 = 92 ∧ 1 < s.length)) (h3 : ¬ 0 < (tgl s r.o0 r.o1 r.o2 r.o3).1) (h4 : bt s 0 = 91 → r.link = [] → target (s.drop 1) = none) (g cap gl lcap : Nat) (xa : Option Addr) (xc : Nat) :
    LI N Tot r0 ⟨chR r (chr s).2.1 (chr s).1 g cap gl lcap xa xc, s.drop (chr s).2.2, stop, aft, its ++ [((chr s).1, (chr s).2.1, ats r.o0 r.o1 r.o2 r.o3 r.link)]⟩ := by
  have hc := chr_len h0
  refine h.go _ rfl ?_ (by simp only [List.length_drop] at *; omega) h.aft (by simp [chR, ec]) (by simp [chR]) ?_ ?_ (by simp)
  · rw [tgl_eq] at h3
    conv => lhs; unfold pl
    rw [if_neg h0, if_neg h1, if_neg h2]
    dsimp only
    have e : (if bt s 0 = 91 ∧ r.link = [] then target (s.drop 1) else none) = none := by
      split
      · rename_i q; exact h4 q.1 q.2
      · rfl
    rw [e]
    repeat' split
    all_goals first | rfl | (exfalso; simp_all; done)
  · rw [lossI_one]; dsimp only [chR]; split <;> simp
  · have := h.k.2; dsimp only [chR] at this ⊢; split <;> simp <;> omega
theorem LI.done {N : Nat} {Tot : List Itm} {r0 r : RT} {aft : Str} {stop : Option Nat} {its : List Itm} (h : LI N Tot r0 ⟨r, [], stop, aft, its⟩) : its = Tot := by
  have := h.tot
  unfold pl at this
  rw [if_pos rfl, List.append_nil] at this
  exact this
/-- a reader's numbers fit what it holds -/
structure Rd (t : RT) : Prop where
  n : t.n = t.els.length
  k : t.k = t.ls.length
theorem LI.start {r0 : RT} (s : Str) (hk : r0.k = r0.ls.length) : LI s.length (lineP s) r0 ⟨{ r0 with o0 := false, o1 := false, o2 := false, o3 := false, link := [] }, s, none, [], []⟩ := ⟨rfl, by simp, rfl, by simp [lossI], ⟨by simp, hk⟩, by simp, fun k h => by cases h⟩
end MkP
end Go.Proofs.YtnbahdnjcdimgaaDoor
namespace Go.Proofs.YtnbahdnjcdimgaaDoor
namespace VaP
abbrev SStr := List UInt8
/-- a text divided at a byte -/
def splitC (c : UInt8) : SStr → List SStr
  | [] => [[]]
  | x :: s => if x = c then [] :: splitC c s else match splitC c s with
    | [] => [[x]]
    | g :: l => (x :: g) :: l
theorem split_ne (c : UInt8) (s : SStr) : splitC c s ≠ [] := by
  cases s with
  | nil => simp [splitC]
  | cons x s =>
    unfold splitC
    split
    · simp
    · split <;> simp
theorem split_no {c : UInt8} : ∀ {p : SStr}, c ∉ p → splitC c p = [p]
  | [], _ => rfl
  | x :: p, h => by
    simp only [List.mem_cons, not_or] at h
    rw [splitC, if_neg (fun e => h.1 e.symm), split_no h.2]
theorem split_at {c : UInt8} : ∀ {p : SStr} (q : SStr), c ∉ p → splitC c (p ++ c :: q) = p :: splitC c q
  | [], q, _ => by
    show splitC c (c :: q) = _
    rw [splitC, if_pos rfl]
  | x :: p, q, h => by
    simp only [List.mem_cons, not_or] at h
    show splitC c (x :: (p ++ c :: q)) = _
    rw [splitC, if_neg (fun e => h.1 e.symm), split_at q h.2]
/-- what stands ahead of a byte and behind it -/
def cutB (c : UInt8) (s : SStr) : SStr × SStr × Bool := if c ∈ s then (s.takeWhile (· != c), (s.dropWhile (· != c)).tail, true) else (s, [], false)
theorem take_no {c : UInt8} : ∀ s : SStr, c ∉ s.takeWhile (· != c)
  | [] => by simp
  | x :: s => by
    by_cases h : x = c
    · rw [List.takeWhile_cons_of_neg (by simp [h])]; simp
    · rw [List.takeWhile_cons_of_pos (by simp [h])]
      simp only [List.mem_cons, not_or]
      exact ⟨fun e => h e.symm, take_no s⟩
theorem cut_app {c : UInt8} : ∀ {s : SStr}, c ∈ s → s = s.takeWhile (· != c) ++ c :: (s.dropWhile (· != c)).tail
  | x :: s, h => by
    by_cases hx : x = c
    · subst hx
      rw [List.takeWhile_cons_of_neg (by simp), List.dropWhile_cons_of_neg (by simp)]
      rfl
    · rw [List.takeWhile_cons_of_pos (by simp [hx]), List.dropWhile_cons_of_pos (by simp [hx])]
      rw [List.cons_append, ← cut_app ((List.mem_cons.1 h).resolve_left (fun e => hx e.symm))]
theorem split_cut {c : UInt8} {s : SStr} (h : c ∈ s) : splitC c s = (cutB c s).1 :: splitC c (cutB c s).2.1 := by
  have e := cut_app h
  unfold cutB
  rw [if_pos h]
  dsimp only
  conv => lhs; rw [e]
  exact split_at _ (take_no s)
theorem idx_byte (c : UInt8) : ∀ s : SStr, Lib.indexByte s c = if c ∈ s then ((s.takeWhile (· != c)).length : Int) else -1
  | [] => rfl
  | x :: s => by
    unfold Lib.indexByte
    by_cases h : x = c
    · subst h
      rw [if_pos (by simp), if_pos (by simp), List.takeWhile_cons_of_neg (by simp)]; rfl
    · rw [if_neg (by simpa using h), idx_byte c s]
      by_cases hc : c ∈ s
      · rw [if_pos hc, if_neg (by simp), if_pos (List.mem_cons_of_mem _ hc), List.takeWhile_cons_of_pos (by simp [h]), List.length_cons]; rfl
      · rw [if_neg hc, if_pos (by simp), if_neg (by simp only [List.mem_cons, not_or]; exact ⟨fun e => h e.symm, hc⟩)]
theorem idx_one (c : UInt8) (s : SStr) : Lib.index s [c] = if c ∈ s then ((s.takeWhile (· != c)).length : Int) else -1 := by
  rw [Lib.index_one, idx_byte]
theorem cut_parts {c : UInt8} {s : SStr} (h : c ∈ s) : s.take (s.takeWhile (· != c)).length = s.takeWhile (· != c) ∧ s.drop ((s.takeWhile (· != c)).length + 1) = (s.dropWhile (· != c)).tail := by
  have e := cut_app h
  generalize s.takeWhile (· != c) = a at *
  generalize (s.dropWhile (· != c)).tail = b at *
  subst e
  constructor
  · simp
  · rw [show a ++ c :: b = (a ++ [c]) ++ b by simp, List.drop_left' (by simp)]
theorem lib_split (c : UInt8) : ∀ (n : Nat) (s : SStr), s.length ≤ n → Lib.splitK [c] 0 (Lib.count s [c]) s = splitC c s
  | n, s, hn => by
    have hi := idx_one c s
    by_cases h : c ∈ s
    · rw [if_pos h] at hi
      obtain ⟨h1, h2⟩ := cut_parts h
      rw [Lib.count_hit (by simp) hi, split_cut h, Nat.add_comm 1, Lib.splitK, if_neg (by rw [hi]; simp), hi, Int.toNat_natCast, Nat.add_zero, h1]
      show _ :: Lib.splitK [c] 0 (Lib.count (s.drop (_ + 1)) [c]) (s.drop (_ + 1)) = _
      rw [h2]
      have hl : (s.dropWhile (· != c)).tail.length < s.length := by
        rw [← h2, List.length_drop]
        have : 0 < s.length := List.length_pos_of_mem h
        omega
      cases n with
      | zero => omega
      | succ n =>
        rw [lib_split c n _ (by omega)]
        unfold cutB
        rw [if_pos h]
    · rw [if_neg h] at hi
      rw [Lib.count_miss hi, split_no h]; rfl
end VaP
def strV (l : List (List UInt8)) : List Value := l.map fun x => Value.string (bstr x)
end Go.Proofs.YtnbahdnjcdimgaaDoor
namespace Go.Proofs.YtnbahdnjcdimgaaDoor
open Go.RowKit
open Sym
theorem retOwnS {base : Nat} {w0 : Base} {rows : List (Nat × Bool × SRow)} {nx : Nat} {β : Nat → Nat} {w : World} (hm : Mem base w0 rows nx β w) (j : Nat) {e : TypeId} {sz g n cap : Nat} {xs : List Value} (hj : get rows j = some (true, .blob (OwnS e sz g n cap xs))) : base ≤ g ∧ g < w.heap.size ∧ OwnS e sz g n cap xs g w.heap[g]? := by
  obtain ⟨h1, -, -, h4⟩ := hm.row j _ _ hj
  have hg : β j = g := h1.2.1
  have h1' := h1.2
  rw [hg] at h1'
  exact ⟨by rw [← hg]; exact h4 rfl, by rw [← hg]; exact h1.1, h1'⟩
theorem strInfo : (Tryd.prog.info? 9).map (fun i => (i.zero, i.size, i.bytes)) = some (some (.string ByteArray.empty), 1, 16) := by kernel_rfl
structure SpT where
  i : Nat
  f : Nat
  n : Nat
  g : Nat
  cap : Nat
  P : List (List UInt8)
def spJ (s : List UInt8) (c : Int) (t : SpT) : St := match t.n with
  | 0 => ⟨[(0, .str s), (1, .int .u8 c), (5, .any (.slice none 0 0)), (6, .int .i64 (t.f : Nat)), (9, .int .i64 (s.length : Nat)), (10, .int .i64 (t.i : Nat))], [], 0, 34⟩
  | n + 1 => ⟨[(0, .str s), (1, .int .u8 c), (5, .any (.slice (some ⟨t.g, 0, none⟩) (n + 1) t.cap)), (6, .int .i64 (t.f : Nat)), (9, .int .i64 (s.length : Nat)), (10, .int .i64 (t.i : Nat))], [(1, true, .blob (OwnS 9 1 t.g (n + 1) t.cap (strV t.P)))], 2, 34⟩
/-- a text is being divided -/
structure SpA (s : List UInt8) (c : UInt8) (t : SpT) : Prop where
  hi : t.i ≤ s.length
  hf : t.f ≤ t.i
  hn : t.P.length = t.n
  hni : t.n ≤ t.i
  no : c ∉ (s.take t.i).drop t.f
  eq : VaP.splitC c s = t.P ++ VaP.splitC c (s.drop t.f)
theorem SpA.piece {s : List UInt8} {c : UInt8} {t : SpT} (h : SpA s c t) (hlt : t.i < s.length) : s.drop t.f = (s.take t.i).drop t.f ++ s.getD t.i 0 :: s.drop (t.i + 1) := by
  have h1 : s = s.take t.i ++ s.drop t.i := (List.take_append_drop _ _).symm
  have h2 : s.drop t.i = s.getD t.i 0 :: s.drop (t.i + 1) := by rw [List.drop_eq_getElem_cons hlt]; simp [List.getD, hlt]
  rw [h2] at h1
  conv => lhs; rw [h1]
  rw [List.drop_append_of_le_length (by have := h.hf; rw [List.length_take]; omega)]
theorem SpA.hit {s : List UInt8} {c : UInt8} {t : SpT} (h : SpA s c t) (hlt : t.i < s.length) (hc : s.getD t.i 0 = c) (g cap : Nat) : SpA s c ⟨t.i + 1, t.i + 1, t.n + 1, g, cap, t.P ++ [(s.take t.i).drop t.f]⟩ where
  hi := hlt
  hf := Nat.le_refl _
  hn := by have := h.hn; simp; omega
  hni := by have := h.hni; dsimp only; omega
  no := by
    dsimp only
    rw [List.drop_eq_nil_of_le (by rw [List.length_take]; omega)]
    simp
  eq := by
    have h1 := h.eq
    rw [h.piece hlt, hc, VaP.split_at _ h.no] at h1
    rw [h1]
    simp
theorem SpA.miss {s : List UInt8} {c : UInt8} {t : SpT} (h : SpA s c t) (hlt : t.i < s.length) (hc : s.getD t.i 0 ≠ c) : SpA s c ⟨t.i + 1, t.f, t.n, t.g, t.cap, t.P⟩ where
  hi := hlt
  hf := by have := h.hf; dsimp only; omega
  hn := h.hn
  hni := by have := h.hni; dsimp only; omega
  no := by
    dsimp only
    have e : (s.take (t.i + 1)).drop t.f = (s.take t.i).drop t.f ++ [s.getD t.i 0] := by
      rw [take_next0 s t.i hlt, List.drop_append_of_le_length (by have := h.hf; rw [List.length_take]; omega)]
    rw [e]
    simp only [List.mem_append, List.mem_singleton, not_or]
    exact ⟨h.no, fun e => hc e.symm⟩
  eq := h.eq
theorem SpA.last {s : List UInt8} {c : UInt8} {t : SpT} (h : SpA s c t) (hi : t.i = s.length) : VaP.splitC c s = t.P ++ [s.drop t.f] := by
  have h1 := h.no
  rw [hi, List.take_of_length_le (Nat.le_refl _)] at h1
  rw [h.eq, VaP.split_no h1]
theorem strV_snoc (P : List (List UInt8)) (x : List UInt8) : strV P ++ [Value.string (bstr x)] = strV (P ++ [x]) := by simp [strV]
section
attribute [local irreducible] Calls Sym.AggEq
set_option maxRecDepth 100000 in
set_option maxHeartbeats 4000000 in
theorem rsplit_any (c : UInt8) (s : List UInt8) (w : World) (hs : s.length ≤ 1000000) : Calls Tryd.prog 13 #[.string (bstr s), .int .u8 (c.toNat : Int)] w fun e w' => Below w.heap.size w w' ∧ ∃ t : Nat × Nat, e = .returned (.slice (some ⟨t.1, 0, none⟩) (VaP.splitC c s).length t.2) ∧ ∀ q ∈ [((some ⟨t.1, 0, none⟩ : Option Addr), strV (VaP.splitC c s))], SlAt q.1 q.2 w' ∧ FreshX q.1 q.2 w := by
  obtain ⟨i0, hi, hz0, hz1, hz2⟩ := info_parts strInfo
  have hu := Tryd.underlying44
  have hsz := fun w => Tryd.sizeOf9 w
  have hzv := fun w => Tryd.zeroValue9 w
  have hcb := c.toNat_lt
  refine enter env_ok Tryd.func13 rfl Tryd.results13 Tryd.ntmps13 [] [] [.str s, .int .u8 (c.toNat : Int)] (by simp [SV.oks, SV.ok]) (Nat.le_of_ble_eq_true rfl) w _ 1000 ?_
  repeat' (first | ((with_reducible first | show wpS _ _ _ _ | show putD _ _ _ _ | show putW _ _ _ _ | show splitG _ _ _ | show wpQ _ _ _ _ _ _ | show wpD _ _ _ _ _ _ _ | show wpX _ _ _ _ _ _ _ | show expX _ _ _ _ _ _ | show stepX _ _ _ _ | show keepR _ _ _ | show wpY _ _ _ _); conv => whnf) | ((with_reducible show RetN _ _ _); refine retB fun β => ?_) | ((with_reducible show _ ∧ _); first | (apply And.intro; (· intro h; exfalso; first | omega | (revert h; decide)); intro _) | (apply And.intro; rotate_left; (· intro h; exfalso; first | omega | (revert h; decide)); intro _) | (refine ⟨fun _ => ?_, fun _ => ?_⟩) | (apply And.intro; · kernel_rfl) | (apply And.intro; · (show inK _ _; unfold inK; omega)) | (apply And.intro; · (show (_ : Int) ≤ 9223372036854775807; (try simp only [List.length_append, List.length_drop, List.length_take, List.length_cons, List.length_nil]); omega))) | ((with_reducible show AllBe _); refine allBe fun βe => ?_; conv => whnf) | ((with_reducible show bothX _ _); refine bothI ?_ ?_; conv => whnf) | (with_reducible exact trivial) | ((with_reducible show CallN _ _ _ _ _ _ _ _); refine call_of env_ok rfl 1000 ?_) | ((with_reducible show XopN _ _ _ _ _ _); refine xop_of env_ok rfl 1000 ?_) | ((with_reducible show CallX _ _ _ _ _ _); first | fail) | ((with_reducible show OpX _ _ _ _); first | fail) | ((with_reducible show ∃ _ : SV, _); first | fail) | ((with_reducible show ∃ _, _); first | fail))
  refine loop env_ok rfl (T := {t : SpT // SpA s c t}) (fun t => spJ s (c.toNat : Int) t.1) (fun t => s.length - t.1.i) ⟨⟨0, 0, 0, 0, 0, []⟩, ⟨Nat.zero_le _, Nat.le_refl _, rfl, Nat.le_refl _, by simp, by simp⟩⟩ 1000 [] [] (fun t => by exact Nat.zero_le _) (by dsimp only [spJ]; ((with_reducible show wk _ _); repeat' (first | exact trivial | exact eqSV_refl _ | (refine eqI ?_) | (refine eqS ?_) | (with_reducible exact rfl) | apply And.intro | exact Nat.zero_lt_one | exact Nat.le_of_ble_eq_true rfl | (with_reducible assumption) | ((show (_ : Int) = _); (try dsimp only); omega) | ((show eqSV _ _); simp [eqSV, isB, bval, *]; done) | rfl))) (fun t I hI => ?_)
  obtain ⟨⟨i, f, n, g, cap, P⟩, hA⟩ := t
  have b1 : i ≤ s.length := hA.hi
  have b2 : f ≤ i := hA.hf
  have b3 : P.length = n := hA.hn
  have b4 : n ≤ i := hA.hni
  dsimp only at hI ⊢
  have one1 : ∀ x : List UInt8, ∀ u ∈ [Value.string (bstr x)], u.oneCell' = true := fun x u hu => by rw [List.mem_singleton.1 hu]; rfl
  by_cases hlt : i < s.length
  · have hH := hA.hit hlt
    have hM := hA.miss hlt
    dsimp only at hH hM
    have hq := (s.getD i 0).toNat_lt
    have hceq : ((s.getD i 0).toNat : Int) = (c.toNat : Int) → s.getD i 0 = c := fun h => UInt8.toNat_inj.1 (by omega)
    have hcne : ¬ ((s.getD i 0).toNat : Int) = (c.toNat : Int) → s.getD i 0 ≠ c := fun h e => h (by rw [e])
    clear hA
    cases n with
    | zero =>
      obtain rfl : P = [] := List.length_eq_zero_iff.1 b3
      dsimp only [spJ]
      repeat' (first | ((with_reducible first | show wpS _ _ _ _ | show putD _ _ _ _ | show putW _ _ _ _ | show splitG _ _ _ | show wpQ _ _ _ _ _ _ | show wpD _ _ _ _ _ _ _ | show wpX _ _ _ _ _ _ _ | show expX _ _ _ _ _ _ | show stepX _ _ _ _ | show keepR _ _ _ | show wpY _ _ _ _); conv => whnf) | ((with_reducible show RetN _ _ _); refine retB fun β => ?_) | ((with_reducible show _ ∧ _); first | (apply And.intro; (· intro h; exfalso; first | omega | (revert h; decide)); intro _) | (apply And.intro; rotate_left; (· intro h; exfalso; first | omega | (revert h; decide)); intro _) | (refine ⟨fun _ => ?_, fun _ => ?_⟩) | (apply And.intro; · kernel_rfl) | (apply And.intro; · (show inK _ _; unfold inK; omega)) | (apply And.intro; · (show (_ : Int) ≤ 9223372036854775807; (try simp only [List.length_append, List.length_drop, List.length_take, List.length_cons, List.length_nil]); omega))) | ((with_reducible show AllBe _); refine allBe fun βe => ?_; conv => whnf) | ((with_reducible show bothX _ _); refine bothI ?_ ?_; conv => whnf) | (with_reducible exact trivial) | ((with_reducible show CallN _ _ _ _ _ _ _ _); refine call_of env_ok rfl 1000 ?_) | ((with_reducible show XopN _ _ _ _ _ _); refine xop_of env_ok rfl 1000 ?_) | ((with_reducible show CallX _ _ _ _ _ _); first | fail) | ((with_reducible show OpX _ _ _ _); first | (refine opx_build1 (sz := 1) rfl rfl rfl (xs := [Value.string (bstr ((s.take i).drop f))]) (fun β => rfl) rfl (by omega) (by omega) hu hsz hzv (fun g1 => ?_)) | (refine opx_append0 (sz := 1) 0 rfl hu hi hz0 hz1 rfl (by omega) rfl rfl rfl (by unfold maxLen; omega) (by rw [hz2]; omega) (one1 _) (by omega) (fun g2 cap2 => ?_))) | ((with_reducible show ∃ _ : SV, _); first | fail) | ((with_reducible show ∃ _, _); first | (refine ⟨i, rfl, by omega, ?_⟩) | (refine ⟨f, i, rfl, rfl, by omega, by omega, ?_⟩)))
      all_goals first | (exfalso; omega) | (refine hI _ ⟨⟨i + 1, i + 1, 0 + 1, g2, cap2, [] ++ [(s.take i).drop f]⟩, hH (hceq (by assumption)) g2 cap2⟩ (by dsimp only; omega) (by dsimp only [spJ]; ((with_reducible show wk _ _); repeat' (first | exact trivial | exact eqSV_refl _ | (refine eqI ?_) | (refine eqS ?_) | (with_reducible exact rfl) | apply And.intro | exact Nat.zero_lt_one | exact Nat.le_of_ble_eq_true rfl | (with_reducible assumption) | ((show (_ : Int) = _); (try dsimp only); omega) | ((show eqSV _ _); simp [eqSV, isB, bval, *]; done) | rfl)); all_goals (exact fun b x h => h)); done) | (refine hI _ ⟨⟨i + 1, f, 0, g, cap, []⟩, hM (hcne (by assumption))⟩ (by dsimp only; omega) (by dsimp only [spJ]; ((with_reducible show wk _ _); repeat' (first | exact trivial | exact eqSV_refl _ | (refine eqI ?_) | (refine eqS ?_) | (with_reducible exact rfl) | apply And.intro | exact Nat.zero_lt_one | exact Nat.le_of_ble_eq_true rfl | (with_reducible assumption) | ((show (_ : Int) = _); (try dsimp only); omega) | ((show eqSV _ _); simp [eqSV, isB, bval, *]; done) | rfl)); all_goals (exact fun b x h => h)); done)
    | succ n =>
      dsimp only [spJ]
      repeat' (first | ((with_reducible first | show wpS _ _ _ _ | show putD _ _ _ _ | show putW _ _ _ _ | show splitG _ _ _ | show wpQ _ _ _ _ _ _ | show wpD _ _ _ _ _ _ _ | show wpX _ _ _ _ _ _ _ | show expX _ _ _ _ _ _ | show stepX _ _ _ _ | show keepR _ _ _ | show wpY _ _ _ _); conv => whnf) | ((with_reducible show RetN _ _ _); refine retB fun β => ?_) | ((with_reducible show _ ∧ _); first | (apply And.intro; (· intro h; exfalso; first | omega | (revert h; decide)); intro _) | (apply And.intro; rotate_left; (· intro h; exfalso; first | omega | (revert h; decide)); intro _) | (refine ⟨fun _ => ?_, fun _ => ?_⟩) | (apply And.intro; · kernel_rfl) | (apply And.intro; · (show inK _ _; unfold inK; omega)) | (apply And.intro; · (show (_ : Int) ≤ 9223372036854775807; (try simp only [List.length_append, List.length_drop, List.length_take, List.length_cons, List.length_nil]); omega))) | ((with_reducible show AllBe _); refine allBe fun βe => ?_; conv => whnf) | ((with_reducible show bothX _ _); refine bothI ?_ ?_; conv => whnf) | (with_reducible exact trivial) | ((with_reducible show CallN _ _ _ _ _ _ _ _); refine call_of env_ok rfl 1000 ?_) | ((with_reducible show XopN _ _ _ _ _ _); refine xop_of env_ok rfl 1000 ?_) | ((with_reducible show CallX _ _ _ _ _ _); first | fail) | ((with_reducible show OpX _ _ _ _); first | (refine opx_build1 (sz := 1) rfl rfl rfl (xs := [Value.string (bstr ((s.take i).drop f))]) (fun β => rfl) rfl (by omega) (by omega) hu hsz hzv (fun g1 => ?_)) | (refine opx_append (sz := 1) 1 2 rfl hu hi hz0 hz1 rfl (by omega) rfl rfl rfl rfl (by unfold maxLen; omega) (by rw [hz2]; omega) (one1 _) (by kernel_rfl) (Nat.zero_le _) (fun g2 cap2 => ?_))) | ((with_reducible show ∃ _ : SV, _); first | fail) | ((with_reducible show ∃ _, _); first | (refine ⟨i, rfl, by omega, ?_⟩) | (refine ⟨f, i, rfl, rfl, by omega, by omega, ?_⟩)))
      all_goals first | (exfalso; omega) | (refine hI _ ⟨⟨i + 1, i + 1, n + 1 + 1, g2, cap2, P ++ [(s.take i).drop f]⟩, hH (hceq (by assumption)) g2 cap2⟩ (by dsimp only; omega) (by dsimp only [spJ]; rw [← strV_snoc]; ((with_reducible show wk _ _); repeat' (first | exact trivial | exact eqSV_refl _ | (refine eqI ?_) | (refine eqS ?_) | (with_reducible exact rfl) | apply And.intro | exact Nat.zero_lt_one | exact Nat.le_of_ble_eq_true rfl | (with_reducible assumption) | ((show (_ : Int) = _); (try dsimp only); omega) | ((show eqSV _ _); simp [eqSV, isB, bval, *]; done) | rfl)); all_goals (exact fun b x h => h)); done) | (refine hI _ ⟨⟨i + 1, f, n + 1, g, cap, P⟩, hM (hcne (by assumption))⟩ (by dsimp only; omega) (by dsimp only [spJ]; ((with_reducible show wk _ _); repeat' (first | exact trivial | exact eqSV_refl _ | (refine eqI ?_) | (refine eqS ?_) | (with_reducible exact rfl) | apply And.intro | exact Nat.zero_lt_one | exact Nat.le_of_ble_eq_true rfl | (with_reducible assumption) | ((show (_ : Int) = _); (try dsimp only); omega) | ((show eqSV _ _); simp [eqSV, isB, bval, *]; done) | rfl)); all_goals (exact fun b x h => h)); done)
  · have hE := hA.last (by dsimp only; omega)
    dsimp only at hE
    have hL : (VaP.splitC c s).length = n + 1 := by rw [hE, List.length_append, b3]; rfl
    rw [hL]
    rw [hE]
    clear hA hE
    cases n with
    | zero =>
      obtain rfl : P = [] := List.length_eq_zero_iff.1 b3
      dsimp only [spJ]
      repeat' (first | ((with_reducible first | show wpS _ _ _ _ | show putD _ _ _ _ | show putW _ _ _ _ | show splitG _ _ _ | show wpQ _ _ _ _ _ _ | show wpD _ _ _ _ _ _ _ | show wpX _ _ _ _ _ _ _ | show expX _ _ _ _ _ _ | show stepX _ _ _ _ | show keepR _ _ _ | show wpY _ _ _ _); conv => whnf) | ((with_reducible show RetN _ _ _); refine retB fun β => ?_) | ((with_reducible show _ ∧ _); first | (apply And.intro; (· intro h; exfalso; first | omega | (revert h; decide)); intro _) | (apply And.intro; rotate_left; (· intro h; exfalso; first | omega | (revert h; decide)); intro _) | (refine ⟨fun _ => ?_, fun _ => ?_⟩) | (apply And.intro; · kernel_rfl) | (apply And.intro; · (show inK _ _; unfold inK; omega)) | (apply And.intro; · (show (_ : Int) ≤ 9223372036854775807; (try simp only [List.length_append, List.length_drop, List.length_take, List.length_cons, List.length_nil]); omega))) | ((with_reducible show AllBe _); refine allBe fun βe => ?_; conv => whnf) | ((with_reducible show bothX _ _); refine bothI ?_ ?_; conv => whnf) | (with_reducible exact trivial) | ((with_reducible show CallN _ _ _ _ _ _ _ _); refine call_of env_ok rfl 1000 ?_) | ((with_reducible show XopN _ _ _ _ _ _); refine xop_of env_ok rfl 1000 ?_) | ((with_reducible show CallX _ _ _ _ _ _); first | fail) | ((with_reducible show OpX _ _ _ _); first | (refine opx_build1 (sz := 1) rfl rfl rfl (xs := [Value.string (bstr (s.drop f))]) (fun β => rfl) rfl (by omega) (by omega) hu hsz hzv (fun g1 => ?_)) | (refine opx_append0 (sz := 1) 0 rfl hu hi hz0 hz1 rfl (by omega) rfl rfl rfl (by unfold maxLen; omega) (by rw [hz2]; omega) (one1 _) (by omega) (fun g2 cap2 => ?_))) | ((with_reducible show ∃ _ : SV, _); first | fail) | ((with_reducible show ∃ _, _); first | (refine ⟨f, rfl, by omega, ?_⟩)))
      all_goals first | (exfalso; omega) | skip
      refine ret fun β w' hm => ?_
      obtain ⟨r1, r2, r3⟩ := retOwnS hm 1 rfl
      exact ⟨hm.below, (g2, cap2), rfl, fun q hq => by
        obtain rfl := List.mem_singleton.1 hq
        exact ⟨r3.slAt r2, fun _ ad e => by cases e; exact r1⟩⟩
    | succ n =>
      dsimp only [spJ]
      repeat' (first | ((with_reducible first | show wpS _ _ _ _ | show putD _ _ _ _ | show putW _ _ _ _ | show splitG _ _ _ | show wpQ _ _ _ _ _ _ | show wpD _ _ _ _ _ _ _ | show wpX _ _ _ _ _ _ _ | show expX _ _ _ _ _ _ | show stepX _ _ _ _ | show keepR _ _ _ | show wpY _ _ _ _); conv => whnf) | ((with_reducible show RetN _ _ _); refine retB fun β => ?_) | ((with_reducible show _ ∧ _); first | (apply And.intro; (· intro h; exfalso; first | omega | (revert h; decide)); intro _) | (apply And.intro; rotate_left; (· intro h; exfalso; first | omega | (revert h; decide)); intro _) | (refine ⟨fun _ => ?_, fun _ => ?_⟩) | (apply And.intro; · kernel_rfl) | (apply And.intro; · (show inK _ _; unfold inK; omega)) | (apply And.intro; · (show (_ : Int) ≤ 9223372036854775807; (try simp only [List.length_append, List.length_drop, List.length_take, List.length_cons, List.length_nil]); omega))) | ((with_reducible show AllBe _); refine allBe fun βe => ?_; conv => whnf) | ((with_reducible show bothX _ _); refine bothI ?_ ?_; conv => whnf) | (with_reducible exact trivial) | ((with_reducible show CallN _ _ _ _ _ _ _ _); refine call_of env_ok rfl 1000 ?_) | ((with_reducible show XopN _ _ _ _ _ _); refine xop_of env_ok rfl 1000 ?_) | ((with_reducible show CallX _ _ _ _ _ _); first | fail) | ((with_reducible show OpX _ _ _ _); first | (refine opx_build1 (sz := 1) rfl rfl rfl (xs := [Value.string (bstr (s.drop f))]) (fun β => rfl) rfl (by omega) (by omega) hu hsz hzv (fun g1 => ?_)) | (refine opx_append (sz := 1) 1 2 rfl hu hi hz0 hz1 rfl (by omega) rfl rfl rfl rfl (by unfold maxLen; omega) (by rw [hz2]; omega) (one1 _) (by kernel_rfl) (Nat.zero_le _) (fun g2 cap2 => ?_))) | ((with_reducible show ∃ _ : SV, _); first | fail) | ((with_reducible show ∃ _, _); first | (refine ⟨f, rfl, by omega, ?_⟩)))
      all_goals first | (exfalso; omega) | skip
      refine ret fun β w' hm => ?_
      obtain ⟨r1, r2, r3⟩ := retOwnS hm 1 rfl
      rw [strV_snoc] at r3
      exact ⟨hm.below, (g2, cap2), rfl, fun q hq => by
        obtain rfl := List.mem_singleton.1 hq
        exact ⟨r3.slAt r2, fun _ ad e => by cases e; exact r1⟩⟩
end
end Go.Proofs.YtnbahdnjcdimgaaDoor
namespace Go.Proofs.YtnbahdnjcdimgaaDoor
namespace MkP
open VaP
theorem pl_len : ∀ (n : Nat) (p : PS), (∀ k, p.stop = some k → p.aft.length < k) → (pl n p).length ≤ p.s.length
  | 0, p, _ => by simp [pl]
  | n + 1, p, hs => by
    unfold pl
    by_cases h0 : p.s = []
    · rw [if_pos h0]; simp
    · have hp := List.length_pos_iff.2 h0
      have hc := chr_len h0
      rw [if_neg h0]
      by_cases h1 : p.stop = some p.s.length
      · rw [if_pos h1]
        have := pl_len n ⟨p.aft, p.o0, p.o1, p.o2, p.o3, [], none, p.aft⟩ (fun k hk => by cases hk)
        have := hs _ h1
        dsimp only at *
        omega
      rw [if_neg h1]
      have go : ∀ q : PS, (∀ k, q.stop = some k → q.aft.length < k) → ∀ m, 1 ≤ m → q.s = p.s.drop m → (pl n q).length + 1 ≤ p.s.length := fun q h2 m h3 h4 => by
        have := pl_len n q h2
        rw [h4, List.length_drop] at this
        omega
      by_cases h2 : bt p.s 0 = 92 ∧ 1 < p.s.length
      · rw [if_pos h2, List.length_cons]; exact go _ hs _ (by omega) rfl
      rw [if_neg h2]
      by_cases h3 : bt p.s 0 = 42 ∧ bt p.s 1 = 42
      · rw [if_pos h3]; exact Nat.le_of_succ_le (go _ hs 2 (by omega) rfl)
      rw [if_neg h3]
      by_cases h4 : bt p.s 0 = 42
      · rw [if_pos h4]; exact Nat.le_of_succ_le (go _ hs 1 (by omega) rfl)
      rw [if_neg h4]
      by_cases h5 : bt p.s 0 = 126 ∧ bt p.s 1 = 126
      · rw [if_pos h5]; exact Nat.le_of_succ_le (go _ hs 2 (by omega) rfl)
      rw [if_neg h5]
      by_cases h6 : bt p.s 0 = 96
      · rw [if_pos h6]; exact Nat.le_of_succ_le (go _ hs 1 (by omega) rfl)
      rw [if_neg h6]
      by_cases h7 : bt p.s 0 = 91 ∧ p.link = []
      · rw [if_pos h7]
        rcases target_lk (p.s.drop 1) with ⟨t1, -⟩ | ⟨t, u, r, t1, -, -, -, -, -, t7⟩
        · rw [t1]
          dsimp only
          rw [List.length_cons]; exact go _ hs _ hc.1 rfl
        · rw [t1]
          dsimp only
          exact Nat.le_of_succ_le (go _ (fun k hk => by cases hk; exact t7) 1 (by omega) rfl)
      · rw [if_neg h7]
        dsimp only
        rw [List.length_cons]; exact go _ hs _ hc.1 rfl
theorem lineP_len (s : Str) : (lineP s).length ≤ s.length := pl_len _ _ (fun k hk => by cases hk)
/-- a line without what ends it -/
def cr (l : Str) : Str := Lib.trimSuffix l [13]
theorem cr_len (l : Str) : (cr l).length ≤ l.length := by
  unfold cr Lib.trimSuffix
  split
  · rw [List.length_take]; omega
  · exact Nat.le_refl _
def trimTo (i : Nat) (L : List Str) : List Str := (L.take i).map cr ++ L.drop i
theorem trimTo_len (i : Nat) (L : List Str) (h : i ≤ L.length) : (trimTo i L).length = L.length := by simp [trimTo]; omega
theorem trimTo_get {i : Nat} {L : List Str} (h : i < L.length) : (strV (trimTo i L))[i]? = some (.string (bstr (L.getD i []))) := by
  have e : (L.take i).length = i := by rw [List.length_take]; omega
  unfold strV trimTo
  rw [List.map_append, List.getElem?_append_right (by simp; omega)]
  simp only [List.length_map, e, Nat.sub_self]
  rw [List.getElem?_map, List.getElem?_drop, Nat.add_zero, List.getElem?_eq_getElem h]
  simp [List.getD, h]
theorem trimTo_set {i : Nat} {L : List Str} (h : i < L.length) : (strV (trimTo i L)).set i (.string (bstr (cr (L.getD i [])))) = strV (trimTo (i + 1) L) := by
  have e : (L.take i).length = i := by rw [List.length_take]; omega
  have e1 : L.take (i + 1) = L.take i ++ [L.getD i []] := by
    rw [List.take_add_one, List.getElem?_eq_getElem h]; simp [List.getD, h]
  have e2 : L.drop i = L.getD i [] :: L.drop (i + 1) := by
    rw [List.drop_eq_getElem_cons h]; simp [List.getD, h]
  unfold strV trimTo
  rw [e1, e2]
  simp only [List.map_append, List.map_cons, List.map_nil, List.append_assoc]
  rw [List.set_append_right _ _ (by simp; omega)]
  simp only [List.length_map, e, Nat.sub_self, List.set_cons_zero]
  rfl
/-- the lines of a text as they are read -/
def allL (s : Str) : List Str := trimTo ((splitC 10 s).length - 1) (splitC 10 s)
def lines (s : Str) : List Str := if 1 < (allL s).length ∧ (allL s).getD ((allL s).length - 1) [] = [] then (allL s).take ((allL s).length - 1) else allL s
def tot (L : List Str) : Nat := (L.map fun l => l.length + 1).sum
theorem tot_app (a b : List Str) : tot (a ++ b) = tot a + tot b := by simp [tot]
theorem tot_split (c : UInt8) : ∀ s : Str, tot (splitC c s) = s.length + 1
  | [] => rfl
  | x :: s => by
    have ih := tot_split c s
    unfold splitC
    by_cases h : x = c
    · rw [if_pos h]; simp only [tot, List.map_cons, List.sum_cons] at ih ⊢; simp; omega
    · rw [if_neg h]
      split
      · rename_i e; exact absurd e (split_ne c s)
      · rename_i g l e
        rw [e] at ih
        simp only [tot, List.map_cons, List.sum_cons, List.length_cons] at ih ⊢
        omega
theorem tot_cr : ∀ L : List Str, tot (L.map cr) ≤ tot L
  | [] => Nat.le_refl _
  | l :: L => by
    have ih := tot_cr L
    have := cr_len l
    simp only [tot, List.map_cons, List.sum_cons] at ih ⊢
    omega
theorem tot_take (L : List Str) (i : Nat) : tot (L.take i) ≤ tot L := by
  have := tot_app (L.take i) (L.drop i)
  rw [List.take_append_drop] at this
  omega
theorem tot_all (s : Str) : tot (allL s) ≤ s.length + 1 := by
  rw [← tot_split 10 s]
  unfold allL trimTo
  rw [tot_app]
  have := tot_app ((splitC 10 s).take ((splitC 10 s).length - 1)) ((splitC 10 s).drop ((splitC 10 s).length - 1))
  rw [List.take_append_drop] at this
  have := tot_cr ((splitC 10 s).take ((splitC 10 s).length - 1))
  omega
theorem tot_lines (s : Str) : tot (lines s) ≤ s.length + 1 := by
  unfold lines
  split
  · exact Nat.le_trans (tot_take _ _) (tot_all s)
  · exact tot_all s
theorem len_tot : ∀ L : List Str, L.length ≤ tot L
  | [] => Nat.le_refl _
  | l :: L => by
    have := len_tot L
    simp only [tot, List.map_cons, List.sum_cons, List.length_cons] at this ⊢
    omega
theorem mem_tot : ∀ (L : List Str) (l : Str), l ∈ L → l.length + 1 ≤ tot L
  | x :: L, l, h => by
    simp only [tot, List.map_cons, List.sum_cons]
    rcases List.mem_cons.1 h with rfl | h
    · omega
    · have := mem_tot L l h
      simp only [tot] at this
      omega
/-- what a paragraph's characters are: each with its attributes, and the end with the paragraph's -/
def para (l : Str) : List (Nat × List (Str × Str)) := (lineP (mk l).1).map (·.2) ++ [(10, (mk l).2)]
def doc (L : List Str) : List (Nat × List (Str × Str)) := L.flatMap para
def lossL : Nat → List Str → List Nat
  | _, [] => []
  | n, l :: r => lossI n (lineP (mk l).1) ++ lossL (n + (lineP (mk l).1).length + 1) r
theorem para_len (l : Str) : (para l).length = (lineP (mk l).1).length + 1 := by simp [para]
theorem doc_app (a b : List Str) : doc (a ++ b) = doc a ++ doc b := by simp [doc]
theorem doc_one (l : Str) : doc [l] = para l := by simp [doc]
theorem lossL_app : ∀ (a b : List Str) (n : Nat), lossL n (a ++ b) = lossL n a ++ lossL (n + (doc a).length) b
  | [], b, n => by simp [lossL, doc]
  | l :: a, b, n => by
    have e : doc (l :: a) = para l ++ doc a := by simp [doc]
    simp only [List.cons_append, lossL, lossL_app a b, List.append_assoc]
    rw [e, List.length_append, para_len]
    congr 3
    omega
theorem doc_len : ∀ L : List Str, (doc L).length ≤ tot L
  | [] => Nat.le_refl _
  | l :: L => by
    have e : doc (l :: L) = para l ++ doc L := by simp [doc]
    have ih := doc_len L
    have h1 := lineP_len (mk l).1
    have h2 := mk_len l
    rw [e, List.length_append, para_len]
    simp only [tot, List.map_cons, List.sum_cons] at ih ⊢
    omega
theorem lossI_len : ∀ (a : List Itm) (k : Nat), (lossI k a).length ≤ a.length
  | [], k => Nat.le_refl _
  | x :: a, k => by
    have := lossI_len a (k + 1)
    unfold lossI
    split <;> simp <;> omega
theorem lossL_len : ∀ (L : List Str) (n : Nat), (lossL n L).length ≤ (doc L).length
  | [], n => Nat.le_refl _
  | l :: L, n => by
    have e : doc (l :: L) = para l ++ doc L := by simp [doc]
    have ih := lossL_len L (n + (lineP (mk l).1).length + 1)
    have := lossI_len (lineP (mk l).1) n
    rw [e, List.length_append, para_len]
    simp only [lossL, List.length_append]
    omega
theorem take_one {L : List Str} {i : Nat} (h : i < L.length) : L.take (i + 1) = L.take i ++ [L.getD i []] := by
  rw [List.take_add_one, List.getElem?_eq_getElem h]; simp [List.getD, h]
theorem doc_next {L : List Str} {i : Nat} (h : i < L.length) : doc (L.take (i + 1)) = doc (L.take i) ++ para (L.getD i []) := by
  rw [take_one h, doc_app, doc_one]
theorem loss_next {L : List Str} {i : Nat} (h : i < L.length) : lossL 0 (L.take (i + 1)) = lossL 0 (L.take i) ++ lossI (doc (L.take i)).length (lineP (mk (L.getD i [])).1) := by
  rw [take_one h, lossL_app, Nat.zero_add]
  simp [lossL]
end MkP
end Go.Proofs.YtnbahdnjcdimgaaDoor
