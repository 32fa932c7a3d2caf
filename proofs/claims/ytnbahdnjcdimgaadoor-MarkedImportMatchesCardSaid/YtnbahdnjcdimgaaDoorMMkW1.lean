/- Marked-down texts, the program: what the walks ask of the world; attributes sorted by their names. -/
import Derived.Test.YtnbahdnjcdimgaaDoorMGE
import Derived.Test.YtnbahdnjcdimgaaDoorMGF
set_option linter.unusedSimpArgs false
set_option linter.unusedVariables false
namespace Go.Proofs.YtnbahdnjcdimgaaDoor
open Go.RowKit
open Sym
attribute [local irreducible] Calls Sym.AggEq
theorem cell_below {w w' : World} {a : Addr} {v : Value} (h : w.cell? a = some v) (hb : Below w.heap.size w w') : w'.cell? a = some v := (hb.cell (World.block_lt_of_cell? _ _ h)).trans h
namespace MkP
def togs : List Str := [[42, 42], nBold, [42], nItalic, [126, 126], nStrike, [96], nFixed]
/-- attributes as they lie in memory -/
def atv (l : List (Str × Str)) : List Value := l.flatMap fun p => [.string (bstr p.1), .string (bstr p.2)]
theorem atv_len (l : List (Str × Str)) : (atv l).length = l.length * 2 := flat_len (f := fun p : Str × Str => [Value.string (bstr p.1), Value.string (bstr p.2)]) (sz := 2) (fun _ => rfl) l
theorem atv_add (l m : List (Str × Str)) : atv (l ++ m) = atv l ++ atv m := by simp [atv]
theorem atv_get {l : List (Str × Str)} {k : Nat} {p : Str × Str} (h : l[k]? = some p) : (atv l)[k * 2]? = some (.string (bstr p.1)) ∧ (atv l)[k * 2 + 1]? = some (.string (bstr p.2)) :=
  ⟨by have := flat_at (f := fun p : Str × Str => [Value.string (bstr p.1), Value.string (bstr p.2)]) (sz := 2) (fun _ => rfl) l k 0 p h (by omega); simpa [atv] using this,
   by have := flat_at (f := fun p : Str × Str => [Value.string (bstr p.1), Value.string (bstr p.2)]) (sz := 2) (fun _ => rfl) l k 1 p h (by omega); simpa [atv] using this⟩
/-- one attribute put in another's place -/
theorem atv_set {l : List (Str × Str)} {k : Nat} (p : Str × Str) (h : k < l.length) : (atv l).take (k * 2) ++ [Value.string (bstr p.1), Value.string (bstr p.2)] ++ (atv l).drop (k * 2 + 2) = atv (l.set k p) := by
  rw [List.set_eq_take_append_cons_drop, if_pos h]
  have e : l = l.take k ++ l.drop k := (List.take_append_drop k l).symm
  have h1 : (atv (l.take k)).length = k * 2 := by rw [atv_len, List.length_take, Nat.min_eq_left (by omega)]
  have e2 : l = l.take (k + 1) ++ l.drop (k + 1) := (List.take_append_drop (k + 1) l).symm
  have h2 : (atv (l.take (k + 1))).length = k * 2 + 2 := by rw [atv_len, List.length_take, Nat.min_eq_left (by omega)]; omega
  have t1 : (atv l).take (k * 2) = atv (l.take k) := by
    conv => lhs; rw [e, atv_add]
    rw [← h1, List.take_left]
  have t2 : (atv l).drop (k * 2 + 2) = atv (l.drop (k + 1)) := by
    conv => lhs; rw [e2, atv_add]
    rw [← h2, List.drop_left]
  rw [t1, t2]
  simp [atv]
def ltA (p q : Str × Str) : Bool := decide (Lib.compareBytes p.1 q.1 < 0)
/-- the inner loop of the sort by insertion -/
def insI : Nat → List (Str × Str) → List (Str × Str)
  | 0, l => l
  | j + 1, l => match l[j + 1]?, l[j]? with
    | some x, some y => if ltA x y then insI j ((l.set (j + 1) y).set j x) else l
    | _, _ => l
def insF : Nat → Nat → List (Str × Str) → List (Str × Str)
  | 0, _, l => l
  | k + 1, i, l => insF k (i + 1) (insI i l)
theorem insI_len : ∀ (j : Nat) (l : List (Str × Str)), (insI j l).length = l.length
  | 0, l => rfl
  | j + 1, l => by
    unfold insI
    split
    · split
      · rw [insI_len j]; simp
      · rfl
    · rfl
theorem insF_len : ∀ (k i : Nat) (l : List (Str × Str)), (insF k i l).length = l.length
  | 0, _, _ => rfl
  | k + 1, i, l => by unfold insF; rw [insF_len k, insI_len]
theorem insI_step {j : Nat} {l : List (Str × Str)} {x y : Str × Str} (h1 : l[j + 1]? = some x) (h2 : l[j]? = some y) : insI (j + 1) l = if ltA x y then insI j ((l.set (j + 1) y).set j x) else l := by
  conv => lhs; unfold insI
  rw [h1, h2]
end MkP
/-- what the walks ask of the world -/
structure XM (w : World) : Prop where
  utf : Lib.Utf8Tabs 2 3 w
  len : ∃ m, w.cell? ⟨1, 0, none⟩ = some (.int .i64 m)
  tog : ∀ (i : Nat) s, MkP.togs[i]? = some s → w.cell? ⟨0, i, none⟩ = some (.string (bstr s))
theorem XM.below {w w' : World} (h : XM w) (hb : Below w.heap.size w w') : XM w' where
  utf := ⟨fun c hc => cell_below (h.utf.1 c hc) hb, fun i hi => ⟨cell_below (h.utf.2 i hi).1 hb, cell_below (h.utf.2 i hi).2 hb⟩⟩
  len := h.len.imp fun _ h => cell_below h hb
  tog := fun i s hs => cell_below (h.tog i s hs) hb
theorem decode_any (s : List UInt8) (w : World) (hw : XM w) : Calls Tryd.prog 41 #[.string (bstr s)] w fun e w' => e = .returned (.tuple #[.int .i32 ((VaP.dec s).1 : Nat), .int .i64 ((VaP.dec s).2 : Nat)]) ∧ Below w.heap.size w w' := Tryd.utf8_DecodeRuneInString (bstr s) w hw.utf
namespace Sym
theorem wkz {b : Bool} {p q : Prop} (h : p) : (bif b == b then p else q) := by cases b <;> exact h
theorem x_indexAny {C : Ctx} {G : Blobs} {x y : Operand} {t e : TypeId} {a : Addr} {len j sz : Nat} {i : Int} (hi : i = (j : Nat)) (ht : C.P.underlying t = some (.array len e)) (hs : ∀ w, (sizeOf e).run C.P w = .ok sz w) (hj : j < len) :
    ExtN C G (.indexAddr t x y) [.any (.pointer (some a)), .int .i64 i] (.any (.pointer (some (a.add (j * sz))))) := by
  subst hi
  unfold ExtN
  intro ρ β w dst ty pos after g _ _ h
  have h' : ρ x = .pointer (some a) ∧ ρ y = .int .i64 (j : Nat) := by simpa [opsX, SV.dens, SV.den] using h
  have q : (underlying t).run C.P w = .ok (.array len e) w := by simp [underlying, ht]
  simp [execOp, Instr.indexAt, Instr.sureAddr, h'.1, h'.2, asIntOf, q, hs, hj, SV.den]
theorem x_indexN {C : Ctx} {G : Blobs} {x y : Operand} {t e : TypeId} {cs ws : List SV} {s j len : Nat} {q : Int} (hq : q = (j : Nat)) (ht : C.P.underlying t = some (.array len e)) (hs : ∀ w, (sizeOf e).run C.P w = .ok s w) (hag : ∀ w, (isAgg e).run C.P w = .ok true w) (hj : j < len) (h1 : (cs.drop (j * s)).take s = ws) :
    ExtN C G (.index t x y) [.agg cs, .int .i64 q] (.agg ws) := by
  subst hq
  unfold ExtN
  intro ρ β w dst ty pos after g _ _ h
  have h' : ρ x = .agg (SV.dens β cs).toArray ∧ ρ y = .int .i64 (j : Nat) := by simpa [opsX, SV.dens, SV.den] using h
  have q : (underlying t).run C.P w = .ok (.array len e) w := by simp [underlying, ht]
  have g1 : List.take s (List.drop (j * s) (SV.dens β cs)) = SV.dens β ws := by
    rw [← h1, SV.dens_take, SV.dens_drop]
  simp [execOp, Instr.index, h'.1, h'.2, asIntOf, q, hs, hag, hj, part, g1, SV.den]
end Sym
set_option maxRecDepth 100000 in
theorem cmpA_any (a b c d : List UInt8) (w : World) : QC 56 #[.agg #[.string (bstr a), .string (bstr b)], .agg #[.string (bstr c), .string (bstr d)]] w (.int .i64 (Lib.compareBytes a c)) := by
  have S := fun (w : World) => Tryd.strings_Compare (bstr a) (bstr c) w
  refine yE Tryd.func56 rfl Tryd.results56 Tryd.ntmps56 [] [] [.agg [.str a, .str b], .agg [.str c, .str d]] w ?_
  repeat' (first | refine yX ?_ | (apply And.intro <;> intro _) | apply bothI | refine retB fun β => ?_ | intro βe | refine yK (.int .i64 (Lib.compareBytes a c)) (fun β w hm => (S w).mono fun e w' h => ⟨h.1, h.2 ▸ Below.refl _ _⟩) ?_ | exact trivial)
  all_goals rfl
theorem bitLen_any (n : Nat) (w : World) (h : n ≤ 1000) : QC 65 #[.int .u64 (n : Int)] w (.int .i64 (Lib.bitLen n)) :=
  (Tryd.bits_Len (n : Int) w (by omega) (by omega)).mono fun e w' h => ⟨h.1, h.2 ▸ Below.refl _ _⟩
abbrev atR (g n cap : Nat) (l : List (MkP.Str × MkP.Str)) : List (Nat × Bool × SRow) := [(0, true, .blob (OwnS 32 2 g n cap (MkP.atv l)))]
namespace MkP
theorem swap_len {l : List (Str × Str)} {i j : Nat} {x y : Str × Str} : ((l.set i y).set j x).length = l.length := by simp
end MkP
set_option maxRecDepth 100000 in
set_option maxHeartbeats 4000000 in
theorem insX {base : Nat} {w0 : Base} {fn : Func} {res : List ResultVar} {R : Ending → World → Prop} {sc sb : List Nat} {K : St → Prop} {d m : Nat} {fr : List (Nat × SV)} {g n cap : Nat} {l : List (MkP.Str × MkP.Str)} (hl : l.length = n) (hn : n ≤ 12) (hd : Nat.blt d m = true)
    (h : K ⟨(d, .tup []) :: fr, atR g n cap (MkP.insF (n - 1) 1 l), 1, m⟩) : CallX ⟨Tryd.prog, env, base, w0, fn, res, R, sc, sb⟩ (some d) 72 [.any (.slice (some ⟨g, 0, none⟩) n cap), .int .i64 0, .int .i64 (n : Nat), .fn 56 []] ⟨fr, atR g n cap l, 1, m⟩ K := by
  have hu := Tryd.underlying28
  have hsz := fun w => Tryd.sizeOf32 w
  refine inlineX env_ok Tryd.func72 rfl Tryd.results72 Tryd.ntmps72 (by kernel_rfl) hd ⟨rfl, trivial, trivial, trivial, trivial⟩ (Nat.le_of_ble_eq_true rfl) (T := Unit) (fun _ => .tup []) (fun _ => atR g n cap (MkP.insF (n - 1) 1 l)) [] [100006] 1000 (fun R' β0 hR => ?_) (fun _ => h)
  repeat' (first | refine yX ?_ | (apply And.intro <;> intro _) | apply bothI | refine retB fun β => ?_ | intro βe | fail | exact trivial)
  refine yZ (T := {t : Nat × List (MkP.Str × MkP.Str) // 1 ≤ t.1 ∧ t.2.length = n ∧ MkP.insF (n - t.1) t.1 t.2 = MkP.insF (n - 1) 1 l}) (fun t => ⟨[(0, .any (.slice (some ⟨g, 0, none⟩) n cap)), (1, .int .i64 0), (2, .int .i64 (n : Nat)), (3, .fn 56 []), (8, .int .i64 (t.1.1 : Nat))], atR g n cap t.1.2, 1, 53⟩) (fun t => n - t.1.1) ⟨(1, l), Nat.le_refl _, hl, rfl⟩ [] [100006] (fun t I hI => ?_) (by ((with_reducible show wk _ _); repeat' (first | exact trivial | exact eqSV_refl _ | refine eqI ?_ | refine eqS ?_ | apply And.intro | exact yV | fail)); all_goals exact fun b x h => h) (fun _ => Nat.le_refl _)
  obtain ⟨⟨i, l1⟩, h1, h2, h3⟩ := t
  dsimp only at h1 h2 h3 ⊢
  by_cases hi : i < n
  · repeat' (first | refine yX ?_ | (apply And.intro <;> intro _) | apply bothI | refine retB fun β => ?_ | intro βe | fail | exact trivial)
    all_goals first | (exfalso; omega) | skip
    refine yZ (T := {t : Nat × List (MkP.Str × MkP.Str) // t.1 ≤ i ∧ t.2.length = n ∧ MkP.insI t.1 t.2 = MkP.insI i l1}) (fun t => ⟨[(0, .any (.slice (some ⟨g, 0, none⟩) n cap)), (1, .int .i64 0), (2, .int .i64 (n : Nat)), (3, .fn 56 []), (8, .int .i64 (i : Nat)), (9, .int .i64 (t.1.1 : Nat))], atR g n cap t.1.2, 1, 53⟩) (fun t => t.1.1) ⟨(i, l1), Nat.le_refl _, h2, rfl⟩ [] [100006] (fun t I2 hI2 => ?_) (by ((with_reducible show wk _ _); repeat' (first | exact trivial | exact eqSV_refl _ | refine eqI ?_ | refine eqS ?_ | apply And.intro | exact yV | fail)); all_goals exact fun b x h => h) (fun _ => Nat.le_refl _)
    obtain ⟨⟨j, l2⟩, k1, k2, k3⟩ := t
    dsimp only at k1 k2 k3 ⊢
    have fin : MkP.insF (n - (i + 1)) (i + 1) (MkP.insI i l1) = MkP.insF (n - 1) 1 l := by
      rw [← h3, show n - i = (n - (i + 1)) + 1 by omega]; rfl
    by_cases hj : j = 0
    · subst hj
      repeat' (first | refine yX ?_ | (apply And.intro <;> intro _) | apply bothI | refine retB fun β => ?_ | intro βe | fail | exact trivial)
      all_goals first | (exfalso; omega) | (refine hI _ ⟨(i + 1, l2), by dsimp only; omega, k2, by dsimp only; rw [← fin, ← k3]; rfl⟩ (by dsimp only; omega) (by ((with_reducible show wk _ _); repeat' (first | exact trivial | exact eqSV_refl _ | refine eqI ?_ | refine eqS ?_ | apply And.intro | exact yV | fail)); all_goals exact fun b x h => h); done) | trace_state
    · obtain ⟨q, rfl⟩ : ∃ q, j = q + 1 := ⟨j - 1, by omega⟩
      obtain ⟨⟨x1, x2⟩, hx⟩ : ∃ x, l2[q + 1]? = some x := ⟨l2[q + 1], List.getElem?_eq_getElem (by omega)⟩
      obtain ⟨⟨y1, y2⟩, hy⟩ : ∃ y, l2[q]? = some y := ⟨l2[q], List.getElem?_eq_getElem (by omega)⟩
      have ax := MkP.atv_get hx
      have ay := MkP.atv_get hy
      have hst := MkP.insI_step hx hy
      have hlt : MkP.ltA (x1, x2) (y1, y2) = decide (Lib.compareBytes x1 y1 < 0) := rfl
      have hs1 := MkP.atv_set (l := l2) (k := q + 1) (y1, y2) (by omega)
      have hs2 := MkP.atv_set (l := l2.set (q + 1) (y1, y2)) (k := q) (x1, x2) (by rw [List.length_set]; omega)
      have hs3 := MkP.atv_set (l := l2) (k := q) (x1, x2) (by omega)
      have hs4 := MkP.atv_set (l := l2.set q (x1, x2)) (k := q + 1) (y1, y2) (by rw [List.length_set]; omega)
      rw [List.set_comm _ _ (by omega : q ≠ q + 1)] at hs4
      dsimp only at hs1 hs2 hs3 hs4
      have cm := fun (w : World) => cmpA_any x1 x2 y1 y2 w
      generalize Lib.compareBytes x1 y1 = cv at *
      repeat' (first | refine yX ?_ | (apply And.intro <;> intro _) | apply bothI | refine retB fun β => ?_ | intro βe | refine yN (j := q + 1) hu hsz ?_ | refine yN (j := q) hu hsz ?_ | (refine ⟨_, ?ok, x_loadAO 0 [.str x1, .str x2] (fun w => Tryd.isAgg32 w) (fun w => Tryd.sizeOf32 w) rfl ?ld, ?_⟩; (case ok => exact fun _ _ => ⟨trivial, trivial, trivial⟩); (case ld => (intro β j v hv; match j, hv with | 0, hv => (cases hv; exact ax.1) | 1, hv => (cases hv; exact ax.2)))) | (refine ⟨_, ?ok, x_loadAO 0 [.str y1, .str y2] (fun w => Tryd.isAgg32 w) (fun w => Tryd.sizeOf32 w) rfl ?ld, ?_⟩; (case ok => exact fun _ _ => ⟨trivial, trivial, trivial⟩); (case ld => (intro β j v hv; match j, hv with | 0, hv => (cases hv; exact ay.1) | 1, hv => (cases hv; exact ay.2)))) | (refine ⟨.int .i64 cv, by kernel_rfl, trivial, fun β w hm => cm w, ?_⟩) | (refine opx_storeN env_ok 0 (p := (q + 1) * 2) (us := [.string (bstr y1), .string (bstr y2)]) rfl rfl rfl rfl (fun β => rfl) rfl rfl rfl (by omega) ?_) | (refine opx_storeN env_ok 0 (p := q * 2) (us := [.string (bstr x1), .string (bstr x2)]) rfl rfl rfl rfl (fun β => rfl) rfl rfl rfl (by omega) ?_) | exact trivial)
      all_goals first | (exfalso; omega) | (refine hI2 _ ⟨(q, (l2.set (q + 1) (y1, y2)).set q (x1, x2)), by dsimp only; omega, by dsimp only; rw [MkP.swap_len]; exact k2, by dsimp only; rw [← k3, hst, hlt, if_pos (decide_eq_true (by assumption))]⟩ (by dsimp only; omega) (by ((with_reducible show wk _ _); repeat' (first | exact trivial | exact eqSV_refl _ | refine eqI ?_ | refine eqS ?_ | apply And.intro | exact yV | fail)); all_goals first | exact fun b x h => h | exact fun b x h => by rw [hs1, hs2] at h; exact h | exact fun b x h => by rw [hs3, hs4] at h; exact h); done) | (refine hI _ ⟨(i + 1, l2), by dsimp only; omega, k2, by dsimp only; rw [← fin, ← k3, hst, hlt, if_neg (by rw [decide_eq_true_eq]; assumption)]⟩ (by dsimp only; omega) (by ((with_reducible show wk _ _); repeat' (first | exact trivial | exact eqSV_refl _ | refine eqI ?_ | refine eqS ?_ | apply And.intro | exact yV | fail)); all_goals exact fun b x h => h); done) | trace_state
  · have e : MkP.insF (n - 1) 1 l = l1 := by rw [← h3, show n - i = 0 by omega]; rfl
    repeat' (first | refine yX ?_ | (apply And.intro <;> intro _) | apply bothI | refine retB fun β => ?_ | intro βe | fail | exact trivial)
    all_goals first | (exfalso; omega) | exact hR () _ _ (by unfold wkV; refine ⟨rfl, eqSV_refl _, trivial, ?_⟩; repeat' (first | exact trivial | apply And.intro | exact Nat.zero_lt_one | exact Nat.le_of_ble_eq_true rfl | exact (fun b x h => by rw [e]; exact h) | rfl | fail)) | trace_state
set_option maxRecDepth 100000 in
set_option maxHeartbeats 4000000 in
theorem pdqX {base : Nat} {w0 : Base} {fn : Func} {res : List ResultVar} {R : Ending → World → Prop} {sc sb : List Nat} {K : St → Prop} {d m bl : Nat} {fr : List (Nat × SV)} {g n cap : Nat} {l : List (MkP.Str × MkP.Str)} (hl : l.length = n) (hn : n ≤ 12) (hd : Nat.blt d m = true)
    (h : K ⟨(d, .tup []) :: fr, atR g n cap (MkP.insF (n - 1) 1 l), 1, m⟩) : CallX ⟨Tryd.prog, env, base, w0, fn, res, R, sc, sb⟩ (some d) 64 [.any (.slice (some ⟨g, 0, none⟩) n cap), .int .i64 0, .int .i64 (n : Nat), .int .i64 (bl : Nat), .fn 56 []] ⟨fr, atR g n cap l, 1, m⟩ K := by
  refine inlineX env_ok Tryd.func64 rfl Tryd.results64 Tryd.ntmps64 (by kernel_rfl) hd ⟨rfl, trivial, trivial, trivial, trivial, trivial⟩ (Nat.le_of_ble_eq_true rfl) (T := Unit) (fun _ => .tup []) (fun _ => atR g n cap (MkP.insF (n - 1) 1 l)) [] [] 1000 (fun R' β0 hR => ?_) (fun _ => h)
  repeat' (first | refine yX ?_ | (apply And.intro <;> intro _) | apply bothI | refine retB fun β => ?_ | intro βe | fail | exact trivial)
  refine yZ (T := Unit) (fun _ => ⟨[(0, .any (.slice (some ⟨g, 0, none⟩) n cap)), (1, .int .i64 0), (2, .int .i64 (n : Nat)), (4, .fn 56 [])], atR g n cap l, 1, 148⟩) (fun _ => 0) () [] [] (fun t I hI => ?_) (by ((with_reducible show wk _ _); repeat' (first | exact trivial | exact eqSV_refl _ | refine eqI ?_ | refine eqS ?_ | apply And.intro | exact yV | fail)); all_goals exact fun b x h => h) (fun _ => Nat.le_refl _)
  repeat' (first | refine yX ?_ | (apply And.intro <;> intro _) | apply bothI | refine retB fun β => ?_ | intro βe | (refine insX hl hn rfl ?_) | exact trivial)
  all_goals first | (exfalso; omega) | exact hR () _ _ (by unfold wkV; refine ⟨rfl, eqSV_refl _, trivial, ?_⟩; repeat' (first | exact trivial | apply And.intro | exact Nat.zero_lt_one | exact Nat.le_of_ble_eq_true rfl | exact (fun b x h => h) | rfl | fail)) | trace_state
set_option maxRecDepth 100000 in
set_option maxHeartbeats 4000000 in
theorem sortX {base : Nat} {w0 : Base} {fn : Func} {res : List ResultVar} {R : Ending → World → Prop} {sc sb : List Nat} {K : St → Prop} {d m : Nat} {fr : List (Nat × SV)} {g n cap : Nat} {l : List (MkP.Str × MkP.Str)} (hl : l.length = n) (hn : n ≤ 12) (hd : Nat.blt d m = true)
    (h : K ⟨(d, .tup []) :: fr, atR g n cap (MkP.insF (n - 1) 1 l), 1, m⟩) : CallX ⟨Tryd.prog, env, base, w0, fn, res, R, sc, sb⟩ (some d) 55 [.any (.slice (some ⟨g, 0, none⟩) n cap), .fn 56 []] ⟨fr, atR g n cap l, 1, m⟩ K := by
  have hu := Tryd.underlying28
  have B := fun (w : World) => bitLen_any n w (by omega)
  refine inlineX env_ok Tryd.func55 rfl Tryd.results55 Tryd.ntmps55 (by kernel_rfl) hd ⟨rfl, trivial, trivial⟩ (Nat.le_of_ble_eq_true rfl) (T := Unit) (fun _ => .tup []) (fun _ => atR g n cap (MkP.insF (n - 1) 1 l)) [] [] 1000 (fun R' β0 hR => ?_) (fun _ => h)
  repeat' (first | refine yX ?_ | (apply And.intro <;> intro _) | apply bothI | refine retB fun β => ?_ | intro βe | refine yO (x_len hu) ?_ | refine yK (.int .i64 (Lib.bitLen n : Nat)) (fun β w hm => B w) ?_ | (refine pdqX hl hn rfl ?_) | exact trivial)
  all_goals first | (exfalso; omega) | exact hR () _ _ (by unfold wkV; refine ⟨rfl, eqSV_refl _, trivial, ?_⟩; repeat' (first | exact trivial | apply And.intro | exact Nat.zero_lt_one | exact Nat.le_of_ble_eq_true rfl | exact (fun b x h => h) | rfl | fail)) | trace_state
set_option maxRecDepth 100000 in
theorem ins0_any (w : World) : QC 72 #[.slice none 0 0, .int .i64 0, .int .i64 0, .func (.func 56) #[] #[]] w (.tuple #[]) := by
  refine yE Tryd.func72 rfl Tryd.results72 Tryd.ntmps72 [] [] [.any (.slice none 0 0), .int .i64 0, .int .i64 0, .fn 56 []] w ?_
  repeat' (first | refine yX ?_ | (apply And.intro <;> intro _) | apply bothI | refine retB fun β => ?_ | intro βe | fail | exact trivial)
  refine yZ (T := Unit) (fun _ => ⟨[(2, .int .i64 0), (8, .int .i64 1)], [], 0, 53⟩) (fun _ => 0) () [] [] (fun t I hI => ?_)
  repeat' (first | refine yX ?_ | (apply And.intro <;> intro _) | apply bothI | refine retB fun β => ?_ | intro βe | fail | exact trivial)
  all_goals first | (exfalso; omega) | rfl | trace_state
set_option maxRecDepth 100000 in
theorem pdq0_any (b : Int) (w : World) : QC 64 #[.slice none 0 0, .int .i64 0, .int .i64 0, .int .i64 b, .func (.func 56) #[] #[]] w (.tuple #[]) := by
  refine yE Tryd.func64 rfl Tryd.results64 Tryd.ntmps64 [] [] [.any (.slice none 0 0), .int .i64 0, .int .i64 0, .int .i64 b, .fn 56 []] w ?_
  repeat' (first | refine yX ?_ | (apply And.intro <;> intro _) | apply bothI | refine retB fun β => ?_ | intro βe | fail | exact trivial)
  refine yZ (T := Unit) (fun _ => ⟨[(0, .any (.slice none 0 0)), (1, .int .i64 0), (2, .int .i64 0), (4, .fn 56 [])], [], 0, 148⟩) (fun _ => 0) () [] [] (fun t I hI => ?_)
  repeat' (first | refine yX ?_ | (apply And.intro <;> intro _) | apply bothI | refine retB fun β => ?_ | intro βe | refine yK (.tup []) (fun β w hm => ins0_any w) ?_ | exact trivial)
  all_goals first | (exfalso; omega) | rfl | trace_state
set_option maxRecDepth 100000 in
theorem sort0_any (w : World) : QC 55 #[.slice none 0 0, .func (.func 56) #[] #[]] w (.tuple #[]) := by
  have hu := Tryd.underlying28
  have B := fun (w : World) => bitLen_any 0 w (by omega)
  refine yE Tryd.func55 rfl Tryd.results55 Tryd.ntmps55 [] [] [.any (.slice none 0 0), .fn 56 []] w ?_
  repeat' (first | refine yX ?_ | (apply And.intro <;> intro _) | apply bothI | refine retB fun β => ?_ | intro βe | refine yO (x_len hu) ?_ | refine yK (.int .i64 (Lib.bitLen 0 : Nat)) (fun β w hm => B w) ?_ | refine yK (.tup []) (fun β w hm => pdq0_any _ w) ?_ | exact trivial)
  all_goals first | (exfalso; omega) | rfl | trace_state
end Go.Proofs.YtnbahdnjcdimgaaDoor
