/- Values, the program: a number that is entered; 25 percent. A walk that reckons: bytes that a conversion has made, writt Values, the program: small letters for capitals. Values, the program: Enter of every text. Values, the program: Enter of every text is what is entered. Values, the program: Same of any two values. -/
import Derived.Test.YtdkhkfdenlabaaaGreatDoorLGG
import Derived.Test.YtdkhkfdenlabaaaGreatDoorLVaW10
import Derived.Test.YtdkhkfdenlabaaaGreatDoorLGR
import Derived.Lib.FrozenHead
set_option linter.unusedSimpArgs false
set_option linter.unusedVariables false
set_option maxRecDepth 100000
set_option maxHeartbeats 64000000
namespace Go.Proofs.YtdkhkfdenlabaaaGreatDoor
open Go.RowKit
open Sym
attribute [local irreducible] Calls Sym.AggEq ExP.nd ExP.dig ExP.upd ExP.writeF ExP.writeE VaP.ftext
theorem quote_any (s : List UInt8) (w : World) (h : s.head? ≠ some 39) : QC 54 #[.string (bstr s), .string (bstr [39])] w (.tuple #[.string (bstr s), .bool false]) := by
 refine (Tryz.strings_CutPrefix (bstr s) (bstr [39]) w).mono ?_
 rintro e w' ⟨h', rfl⟩
 refine ⟨?_, Below.refl _ _⟩
 rw [h', show (bstr s).data.toList = s from rfl, show (bstr [39]).data.toList = [39] from rfl]
 have : Lib.hasPrefix s [39] = false := by
  unfold Lib.hasPrefix
  cases s with
  | nil => rfl
  | cons d r =>
    have : ¬ (39 : UInt8) = d := fun e => h (by rw [← e]; rfl)
    simp [List.isPrefixOf, this]
 unfold Lib.trimPrefix
 rw [this, if_neg Bool.false_ne_true]
 rfl
def faultS : List SV := [.str (VaP.ftext 0), .str (VaP.ftext 1), .str (VaP.ftext 2), .str (VaP.ftext 3), .str (VaP.ftext 4), .str (VaP.ftext 5), .str (VaP.ftext 6), .str (VaP.ftext 7), .str (VaP.ftext 8)]
theorem faultS_get (i : Nat) (h : i < 9) : faultS[i]? = some (.str (VaP.ftext i)) := by
 rcases i with _ | _ | _ | _ | _ | _ | _ | _ | _ | i
 all_goals first | (exfalso; omega) | rfl
theorem faultS_oks (n : Nat) : SV.oks n faultS := ⟨trivial, trivial, trivial, trivial, trivial, trivial, trivial, trivial, trivial, trivial⟩
theorem faultS_cell (w : World) (hw : XV w) : ∀ w', BW w w' → ∀ (β : Nat → Nat) (j : Nat) (v : Value), (SV.dens β faultS)[j]? = some v → w'.cell? ((⟨0, 0, none⟩ : Addr).add j) = some v := fun w' hb β j v hv => by
 have hj : j < 9 := by
  have := (List.getElem?_eq_some_iff.1 hv).1
  rwa [SV.dens_len] at this
 have h := (hw.below hb).flt j hj
 rw [SV.dens_get, faultS_get j hj] at hv
 cases hv
 have e : (⟨0, 0, none⟩ : Addr).add j = ⟨0, j, none⟩ := by simp [Addr.add]; omega
 rw [e]; exact h
abbrev readF : List SV := [.fn 56 [], .fn 57 [], .fn 58 [], .fn 59 [], .fn 60 []]
theorem readF_cells : ∀ β, ∀ u ∈ SV.dens β readF, u.cells = #[u] := by
 intro β u hu
 simp only [readF, SV.dens, SV.den, List.mem_cons, List.not_mem_nil, or_false] at hu
 rcases hu with rfl | rfl | rfl | rfl | rfl <;> rfl
theorem enter_num (s L F1 F2 : List UInt8) (w : World) (hw : XV w) (hs : s ≠ []) (hT : VaP.txtE s = 0) (hl : s.length ≤ 9223372036854775807) (hq : s.head? ≠ some 39)
  (hL : ∀ w', BW w w' → QC 55 #[.string (bstr s)] w' (.string (bstr L)))
  (hL1 : L ≠ [116, 114, 117, 101]) (hL2 : L ≠ [102, 97, 108, 115, 101]) (hf : ∀ i, 1 ≤ i → i < 9 → s ≠ VaP.ftext i)
  (hN : ∀ w', BW w w' → QC 56 #[.string (bstr s)] w' (.tuple #[frV (F1, F2), .bool true]))
  (hV : ∀ w', BW w w' → Calls Tryz.prog 19 #[frV (F1, F2)] w' (IsV (VaP.numF (F1, F2)) w')) :
  Calls Tryz.prog 11 #[.string (bstr s)] w (IsV (VaP.numF (F1, F2)) w) := by
 have T := fun (w' : World) (h : BW w w') => vtext_any s w' (hw.below h) hl
 rw [hT] at T
 have Q := fun (w' : World) => quote_any s w' hq
 have hfc := faultS_cell w hw
 have hfg := faultS_get
 refine yE Tryz.func11 rfl Tryz.results11 Tryz.ntmps11 [] [] [.str s] w ?_
 repeat' (first | refine yX ?_ | (apply And.intro <;> intro _) | apply bothI | refine retB fun β => ?_ | intro βe | refine yK (.int .i64 0) (fun β w hm => T w hm.below) ?_ | refine yK (.tup [.str s, .lit false]) (fun β w hm => Q w) ?_ | refine yK (.str L) (fun β w hm => hL w hm.below) ?_ | ((with_reducible show ∃ _ : SV, _); first | (refine ⟨.agg faultS, ?ok, x_loadAgg (vs := faultS) (fun w => Tryz.isAgg81 w) (fun w => Tryz.sizeOf81 w) hfc, ?_⟩; (case ok => exact fun _ _ => faultS_oks _))) | exact trivial)
 all_goals first | (exfalso; contradiction) | skip
 refine yZ (T := {i : Nat // i ≤ 9}) (fun t => ⟨[(0, .str s), (2, .ptr 0 0), (38, .agg faultS), (39, .int .i64 (t.1 : Nat))], [(0, true, .cells 28 [.int .i64 0, .str [], .str [], .str [], .lit false, .int .i64 0, .int .i64 0, .int .i64 0, .any (.slice none 0 0)])], 1, 69⟩) (fun t => 9 - t.1) ⟨0, Nat.zero_le _⟩ [] [] (fun t I hI => ?_)
 obtain ⟨i, hi⟩ := t
 dsimp only
 by_cases hlt : i < 9
 ·have hg := hfg i hlt
  have hne := hf i
  generalize VaP.ftext i = X at *
  repeat' (first | refine yX ?_ | (apply And.intro <;> intro _) | apply bothI | refine retB fun β => ?_ | intro βe | ((with_reducible show ∃ _ : SV, _); first | (refine ⟨.str X, ?ok, x_indexAgg (j := i) Tryz.underlying81 (fun w => Tryz.sizeOf9 w) (fun w => Tryz.isAgg9 w) hlt hg, ?_⟩; (case ok => exact fun _ _ => trivial))) | exact trivial)
  all_goals first | (exfalso; omega) | (exfalso; exact hne (by omega) hlt (by assumption)) | (refine hI _ ⟨i + 1, by omega⟩ (by dsimp only; omega) yW; done) | trace_state
 ·repeat' (first | refine yX ?_ | (apply And.intro <;> intro _) | apply bothI | refine retB fun β => ?_ | intro βe | ((with_reducible show ∃ _ : SV, _); first | (refine ⟨.agg readF, ?ok, x_buildArr rfl Tryz.underlying83 (fun w => Tryz.sizeOf82 w) (fun w => Tryz.zeroValue83 w) rfl readF_cells, ?_⟩; (case ok => exact fun _ h => h))) | exact trivial)
  all_goals first | (exfalso; omega) | skip
  refine yZ (T := Unit) (fun t => ⟨[(0, .str s), (2, .ptr 0 0), (53, .agg readF), (54, .int .i64 0)], [(0, true, .cells 28 [.int .i64 0, .str [], .str [], .str [], .lit false, .int .i64 0, .int .i64 0, .int .i64 0, .any (.slice none 0 0)])], 1, 69⟩) (fun t => 0) () [] [] (fun t I hI => ?_)
  repeat' (first | refine yX ?_ | (apply And.intro <;> intro _) | apply bothI | refine retB fun β => ?_ | intro βe | refine yK (.tup [.agg [.str F1, .str F2], .lit true]) (fun β w hm => hN w hm.below) ?_ | refine yK (.agg [.int .i64 1, .str F1, .str F2, .str [], .lit false, .int .i64 0, .int .i64 0, .int .i64 0, .any (.slice none 0 0)]) (fun β w hm => hV w hm.below) ?_ | ((with_reducible show ∃ _ : SV, _); first | (refine ⟨.fn 56 [], ?ok, x_indexAgg (j := 0) Tryz.underlying83 (fun w => Tryz.sizeOf82 w) (fun w => Tryz.isAgg82 w) (by omega) rfl, ?_⟩; (case ok => exact fun _ _ => trivial))) | exact trivial)
  all_goals first | (exfalso; omega) | rfl | trace_state
end Go.Proofs.YtdkhkfdenlabaaaGreatDoor
namespace Go.Proofs.YtdkhkfdenlabaaaGreatDoor
open Go.RowKit
namespace Sym
def OwnF (e : TypeId) (g n : Nat) (xs : List Value) (b : Nat) (o : Option Obj) : Prop := b = g ∧ ∃ cur fz, o = some (.cells cur e fz) ∧ n ≤ fz.1 ∧ n ≤ cur.size ∧ cur.toList.take n = xs ∧ xs.length = n
theorem OwnF.cell {e : TypeId} {g n : Nat} {xs : List Value} {b : Nat} {w : World} (h : OwnF e g n xs b w.heap[b]?) : ∀ j u, xs[j]? = some u → w.cell? ((⟨g, 0, none⟩ : Addr).add j) = some u := by
 intro j u hu
 obtain ⟨rfl, cur, fz, ho, -, hn, ht, hl⟩ := h
 have hadd : (⟨b, 0, none⟩ : Addr).add j = ⟨b, j, none⟩ := by unfold Addr.add; split <;> simp_all
 rw [hadd]
 rw [← ht, List.getElem?_take] at hu
 split at hu
 ·simp [World.cell?, ho]; simpa using hu
 ·cases hu
theorem store_front (P : Program) (g p : Nat) (t : TypeId) (fz : Nat × Nat) (v : Value) (cur : Array Value) (w : World) (hg : w.heap[g]? = some (.cells cur t fz)) (hf : p < fz.1) (hp : p < cur.size) (h1 : v.oneCell' = true) :
  (storeCells ⟨g, p, none⟩ [v] 0).run P w = .ok () (w.setRow g (cur.setIfInBounds p v)) := by
 have hadd : (⟨g, p, none⟩ : Addr).add 0 = ⟨g, p, none⟩ := by unfold Addr.add; split <;> simp_all
 have hcell : w.cell? ⟨g, p, none⟩ = some cur[p] := by simp [World.cell?, hg, hp]
 have hfro : w.frozen? ⟨g, p, none⟩ = false := by
  obtain ⟨lo, hi'⟩ := fz
  simp only [World.frozen?, hg, Bool.and_eq_false_iff, decide_eq_false_iff_not]
  left
  simp only at hf
  omega
 have hst : (store (⟨g, p, none⟩ : Addr) v).run P w = .ok () (w.setRow g (cur.setIfInBounds p v)) := by
  rw [run_store P w _ v _ h1, hcell]
  simp [hfro, setCell_eq_setRow w g p cur t fz v hg]
 simp only [storeCells, hadd, Sem.run_bind, hst, Result.andThen_ok]
 rfl
theorem Sat.setBlobF {base : Nat} {w0 : Base} {β : Nat → Nat} {a : Act} {w : World} {i : Nat} {Φ Φ' : Nat → Option Obj → Prop} {t : TypeId} {cs' : Array Value} {cs : Array Value} {fz : Nat × Nat} {fr : List (Nat × SV)} {rows : List (Nat × Bool × SRow)} {nx n : Nat} (hs : Sat base w0 ⟨fr, rows, nx, n⟩ β a w) (hi : get rows i = some (true, .blob Φ)) (hr : w.heap[β i]? = some (.cells cs t fz))
  (hΦ : Φ' (β i) (some (.cells cs' t fz))) :
  Sat base w0 ⟨fr, (i, true, .blob Φ') :: rows, nx, n⟩ β a (w.setRow (β i) cs') := by
 obtain ⟨h1, h2, h3, h4⟩ := hs
 obtain ⟨k1, k2, k3, k4⟩ := h4.row i true _ hi
 have k3 : i < nx := k3
 have k4 := k4 rfl
 refine ⟨h1, h2, h3, ?_⟩
 refine ⟨h4.below.trans ⟨rfl, rfl, rfl, by rw [setRow_size]; exact Nat.le_refl _, fun k hk => setRow_other _ (by omega)⟩, by rw [setRow_size]; exact h4.base_le, fun j ow r hj => ?_, fun j hj => by rw [setRow_size]; exact h4.lt j hj, fun j l r ol rl hj hl hlj => ?_, h4.n0, h4.ext⟩
 ·rw [get_cons] at hj
  by_cases e : i = j
  ·rw [if_pos e] at hj
   cases hj
   subst e
   refine ⟨⟨by rw [setRow_size]; exact k1.1, ?_⟩, trivial, k3, fun _ => k4⟩
   have : (w.setRow (β i) cs').heap[β i]? = some (.cells cs' t fz) := setRow_heap w _ _ _ _ _ hr
   rw [this]; exact hΦ
  ·rw [if_neg e] at hj
   obtain ⟨m1, m2, m3, m4⟩ := h4.row j ow r hj
   have m3 : j < nx := m3
   have hne : β j ≠ β i := h4.inj i j _ ow r hi hj (fun e' => e e'.symm)
   refine ⟨?_, m2, m3, m4⟩
   cases r with
   | cells t2 c2 =>
     simp only [RowIs] at m1 ⊢
     unfold Row at m1 ⊢
     rw [setRow_other _ hne]; exact m1
   | blob Φ =>
     obtain ⟨q1, q2⟩ := m1
     exact ⟨by rw [setRow_size]; exact q1, by rw [setRow_other _ hne]; exact q2⟩
 ·have hj' : ∃ r0, get rows j = some (true, r0) := by
   rw [get_cons] at hj
   by_cases e : i = j
   ·subst e; exact ⟨_, hi⟩
   ·rw [if_neg e] at hj; exact ⟨_, hj⟩
  have hl' : ∃ o0 r0, get rows l = some (o0, r0) := by
   rw [get_cons] at hl
   by_cases e : i = l
   ·subst e; exact ⟨_, _, hi⟩
   ·rw [if_neg e] at hl; exact ⟨_, _, hl⟩
  obtain ⟨r0, hj'⟩ := hj'
  obtain ⟨o1, r1, hl'⟩ := hl'
  exact h4.inj j l r0 o1 r1 hj' hl' hlj
theorem opx_storeF {C : Ctx} (hE : EnvOK C.P C.E) {ty : TypeId} {pos : String} {after : Array Edge} {gd : Option (Nat × Bool)} {fr : List (Nat × SV)} {rows : List (Nat × Bool × SRow)} {nx n : Nat} {K : St → Prop}
  {t e : TypeId} {x y : Operand} (i : Nat) {p g m : Nat} {xs : List Value} {v : SV} {u : Value} {kd : TK} {ag : Bool} {z : List SV}
  (hx : ev fr x = some (.any (.pointer (some ((⟨g, 0, none⟩ : Addr).add p))))) (hy : ev fr y = some v) (hc : cellsSV v = some [v]) (ho : v.one = true) (hu : ∀ β, v.den β = u) (ht : get C.E t = some ⟨kd, 1, ag, z⟩)
  (ri : get rows i = some (true, .blob (OwnF e g m xs))) (hp : p < m)
  (h : K ⟨fr, (i, true, .blob (OwnF e g m (xs.set p u))) :: rows, nx, n⟩) : OpX C ⟨none, .store t x y, ty, pos, after, gd⟩ ⟨fr, rows, nx, n⟩ K := by
 unfold OpX
 intro β a w hs next Q hn
 have ht' := env_get hE ht
 obtain ⟨ex, _⟩ := ev_sound hs hx
 obtain ⟨ey, oy⟩ := ev_sound hs hy
 obtain ⟨ec, oc⟩ := cells_sound (β := β) hc oy
 have hm := hs.mem
 obtain ⟨k1, k2, k3, k4⟩ := hm.row i true _ ri
 obtain ⟨q0, cur, fz, q1, q2, q3, q4, q5⟩ := k1.2
 have hrow : w.heap[g]? = some (.cells cur e fz) := by rw [← q0]; exact q1
 have h1 : u.oneCell' = true := by
  have := (allOne_sound (β := β) (n := nx) (vs := [v]) (by simp [allOne, ho]) ⟨oy, trivial⟩) u (by simp [SV.dens, hu])
  exact this
 have hst := store_front C.P g p e fz u cur w hrow (by omega) (by omega) h1
 have hst2 : (storeVar t ⟨g, p, none⟩ (v.den β)).run C.P w = .ok () (w.setRow g (cur.setIfInBounds p u)) := by
  simp only [storeVar, Sem.run_bind, ht'.size, Result.andThen_ok, ec]
  rw [if_neg (by simp [SV.dens])]
  simp only [SV.dens, hu]
  exact hst
 rw [add_at] at ex
 simp only [SV.den, Nat.zero_add] at ex
 unfold Oper.wp
 have : (execOp a.eval ⟨none, .store t x y, ty, pos, after, gd⟩).run C.P w = .ok .skip (w.setRow g (cur.setIfInBounds p u)) := by
  simp [execOp, Instr.storeAt, ex, ey, Instr.sureAddr, hst2]
 rw [this]
 show next (a.put none undef) _
 have hs2 := hs.setBlobF (Φ' := OwnF e g m (xs.set p u)) (cs' := cur.setIfInBounds p u) ri q1 ⟨q0, _, _, rfl, q2, by simpa using q3, by rw [Array.toList_setIfInBounds, ← q4, List.take_set], by simpa using q5⟩
 rw [q0] at hs2
 exact hn _ _ _ _ h hs2
theorem x_loadOF {C : Ctx} {G : Blobs} {x : Operand} {t e : TypeId} {g m p : Nat} {xs : List Value} (i : Nat) (v : SV) (hag : ∀ w, (isAgg t).run C.P w = .ok false w) (ri : G i = some (OwnF e g m xs)) (hv : ∀ β, xs[p]? = some (v.den β)) :
  ExtN C G (.load t x) [.any (.pointer (some ((⟨g, 0, none⟩ : Addr).add p)))] v := by
 unfold ExtN
 intro ρ β w dst ty pos after gd _ hG h
 have e1 : ρ x = .pointer (some ((⟨g, 0, none⟩ : Addr).add p)) := by simpa [opsX, SV.dens, SV.den] using h
 obtain ⟨hb, ho⟩ := hG i _ ri
 have hc := OwnF.cell ho p _ (hv β)
 simp [execOp, Instr.loadAt, Instr.sureAddr, e1, loadVar, hag, hc]
theorem x_bytesStrOF {C : Ctx} {G : Blobs} {x : Operand} {t u e e' : TypeId} {g cap n m : Nat} (i : Nat) (l : List UInt8) (hs : C.P.underlying t = some (.slice e)) (he : C.P.underlying e = some (.int .u8)) (hd : C.P.underlying u = some .string)
  (ri : G i = some (OwnF e' g m (bvals l))) (hn : n = l.length) : ExtN C G (.convert t u x) [.any (.slice (some ⟨g, 0, none⟩) n cap)] (.str l) := by
 unfold ExtN
 intro ρ β w dst ty pos after gd _ hG h
 have e1 : ρ x = .slice (some ⟨g, 0, none⟩) n cap := by simpa [opsX, SV.dens, SV.den] using h
 obtain ⟨hb, ho⟩ := hG i _ ri
 have hc := OwnF.cell ho
 subst hn
 have hr := run_convert_bytes_back (P := C.P) w t u e ⟨g, 0, none⟩ cap l hs he hd (fun j hj => hc j _ (by simp [bvals, hj]))
 simp [execOp, e1, hr, SV.den, bstr]
theorem opx_strOwnF {C : Ctx} {d : Nat} {ty : TypeId} {pos : String} {after : Array Edge} {gd : Option (Nat × Bool)} {fr : List (Nat × SV)} {rows : List (Nat × Bool × SRow)} {nx n : Nat} {K : St → Prop}
  {x : Operand} {src dst e : TypeId} (l : List UInt8) (hd : Nat.blt d n = true) (hx : ev fr x = some (.str l))
  (hs0 : C.P.underlying src = some .string) (hd0 : C.P.underlying dst = some (.slice e)) (he : C.P.underlying e = some (.int .u8))
  (h : ∀ g cap, K ⟨(d, .any (.slice (some ⟨g, 0, none⟩) l.length cap)) :: fr, (nx, true, .blob (OwnF e g l.length (bvals l))) :: rows, nx + 1, n⟩) :
  OpX C ⟨some d, .convert src dst x, ty, pos, after, gd⟩ ⟨fr, rows, nx, n⟩ K := by
 unfold OpX
 intro β a w hs next Q hn
 have e1 := (ev_sound hs hx).1
 have hlen : (bstr l).size = l.length := bstr_size l
 have hr := Lib.run_convert_string_bytes (P := C.P) w src dst e (bstr l) hs0 hd0 he
 rw [hlen] at hr
 unfold Oper.wp
 have hrun : (execOp a.eval ⟨some d, .convert src dst x, ty, pos, after, gd⟩).run C.P w = .ok (.value (.slice (some ⟨w.heap.size, 0, none⟩) l.length (grownCap w l.length 0 e))) (Lib.bytesWorld w e (bstr l)) := by
  simp only [execOp, e1, SV.den, Sem.run_bind, hr]; simp
 rw [hrun]
 have hm := hs.mem
 have hb : BW w (Lib.bytesWorld w e (bstr l)) := Go.Joins.below_bytesWorld w.heap.size w e _ (Nat.le_refl _)
 have hs' : Sat C.base C.w0 ⟨fr, rows, nx, n⟩ β a (Lib.bytesWorld w e (bstr l)) := ⟨hs.defers, hs.size, hs.slot, hm.belowNext hb⟩
 have hlc : l.length ≤ (Lib.bytesCells w e (bstr l)).size := by
  unfold Lib.bytesCells; simp [bstr]
 have htk : (Lib.bytesCells w e (bstr l)).toList.take l.length = bvals l := by
  unfold Lib.bytesCells
  rw [Array.toList_append, List.take_append_of_le_length (by simp [bstr])]
  simp only [bstr, bvals, Array.toList_map, List.toArray, List.map_map]
  exact List.take_of_length_le (by simp)
 have hown : OwnF e w.heap.size l.length (bvals l) w.heap.size (Lib.bytesWorld w e (bstr l)).heap[w.heap.size]? := ⟨rfl, _, _, Lib.bytesWorld_at_new w e (bstr l), hlc, hlc, htk, by simp [bvals]⟩
 have hs2 := hs'.learn (o := true) (b := w.heap.size) (Φ := OwnF e w.heap.size l.length (bvals l)) (by rw [Lib.bytesWorld_size]; exact Nat.lt_succ_self _) hown (fun _ => ⟨hm.base_le, fun i o' r hi => by have := hm.lt i (hm.row i o' r hi).2.2.1; omega⟩) (fun i r hi => by have := hm.lt i (hm.row i true r hi).2.2.1; omega)
 have hs3 := hs2.put (d := d) (by simpa [Nat.blt_eq] using hd) (v := .any (.slice (some ⟨w.heap.size, 0, none⟩) l.length (grownCap w l.length 0 e))) rfl
 exact hn _ _ _ _ (h w.heap.size _) hs3
end Sym
end Go.Proofs.YtdkhkfdenlabaaaGreatDoor
namespace Go.Proofs.YtdkhkfdenlabaaaGreatDoor
open Go.RowKit
open Sym
attribute [local irreducible] Calls Sym.AggEq ExP.nd ExP.dig ExP.upd ExP.writeF ExP.writeE
theorem VaP.low_len (s : List UInt8) : (VaP.low s).length = s.length := by simp [VaP.low]
theorem VaP.lowC_nat (c : UInt8) : (VaP.lowC c).toNat = if 65 ≤ c.toNat ∧ c.toNat ≤ 90 then c.toNat + 32 else c.toNat := by
 unfold VaP.lowC
 have h1 : (65 ≤ c ∧ c ≤ 90) ↔ (65 ≤ c.toNat ∧ c.toNat ≤ 90) := by rw [UInt8.le_iff_toNat_le, UInt8.le_iff_toNat_le]; rfl
 by_cases h : 65 ≤ c.toNat ∧ c.toNat ≤ 90
 ·rw [if_pos (h1.2 h), if_pos h, UInt8.toNat_add]
  have : (32 : UInt8).toNat = 32 := rfl
  omega
 ·rw [if_neg (fun h' => h (h1.1 h')), if_neg h]
def VaP.mixL (s : List UInt8) (i : Nat) : List UInt8 := VaP.low (s.take i) ++ s.drop i
theorem VaP.mixL_len (s : List UInt8) (i : Nat) : (VaP.mixL s i).length = s.length := by
 unfold VaP.mixL; rw [List.length_append, VaP.low_len, List.length_take, List.length_drop]; omega
theorem VaP.mixL_at (s : List UInt8) (i : Nat) (h : i < s.length) : (VaP.mixL s i)[i]? = some (s.getD i 0) := by
 unfold VaP.mixL
 rw [List.getElem?_append_right (by rw [VaP.low_len, List.length_take]; omega), VaP.low_len, List.length_take, Nat.min_eq_left (by omega), Nat.sub_self, List.getElem?_drop]
 simp [List.getD, h]
theorem VaP.mixL_next (s : List UInt8) (i : Nat) (h : i < s.length) : VaP.mixL s (i + 1) = (VaP.mixL s i).set i (VaP.lowC (s.getD i 0)) := by
 unfold VaP.mixL
 have e : s.drop i = s.getD i 0 :: s.drop (i + 1) := by rw [List.drop_eq_getElem_cons h]; simp [List.getD, h]
 rw [e, take_next0 s i h]
 unfold VaP.low
 rw [List.map_append, List.set_append_right _ _ (by simp; omega)]
 have : i - ((s.take i).map VaP.lowC).length = 0 := by simp; omega
 rw [this]
 simp
theorem vlower_any (s : List UInt8) (w : World) (hs : s.length ≤ 1000000) : QC 55 #[.string (bstr s)] w (.string (bstr (VaP.low s))) := by
 refine yE Tryz.func55 rfl Tryz.results55 Tryz.ntmps55 [100007] [] [.str s] w ?_
 repeat' (first | refine yX ?_ | (apply And.intro <;> intro _) | apply bothI | refine retB fun β => ?_ | intro βe | (refine opx_strOwnF s rfl rfl Tryz.underlying9 Tryz.underlying113 Tryz.underlying5 (fun g cap => ?_)) | refine yO (x_len Tryz.underlying113) ?_ | exact trivial)
 refine yZ (T := {i : Nat // i ≤ s.length}) (fun t => ⟨[(3, .any (.slice (some ⟨g, 0, none⟩) s.length cap)), (8, .any (.slice (some ⟨g, 0, none⟩) s.length cap)), (9, .int .i64 (s.length : Nat)), (10, .int .i64 (t.1 : Nat))], [(0, true, .blob (OwnF 5 g s.length (bvals (VaP.mixL s t.1))))], 1, 30⟩) (fun t => s.length - t.1) ⟨0, Nat.zero_le _⟩ [] [] (fun t I hI => ?_) (by ((with_reducible show wk _ _); repeat' (first | exact trivial | exact eqSV_refl _ | refine eqI ?_ | refine eqS ?_ | apply And.intro | exact yV | fail)); all_goals exact fun b x h => h)
 obtain ⟨i, hi⟩ := t
 dsimp only
 by_cases hlt : i < s.length
 ·have hat := VaP.mixL_at s i hlt
  have hnx := VaP.mixL_next s i hlt
  have hln := VaP.lowC_nat (s.getD i 0)
  generalize s.getD i 0 = c at *
  have hv : (bvals (VaP.mixL s i))[i]? = some (.int .u8 (c.toNat : Int)) := by simp [bvals, hat]
  have hset : 65 ≤ c.toNat ∧ c.toNat ≤ 90 → (bvals (VaP.mixL s i)).set i (.int .u8 ((c.toNat + 32 : Nat) : Int)) = bvals (VaP.mixL s (i + 1)) := fun h => by
   rw [hnx]
   rw [if_pos h] at hln
   simp [bvals, List.map_set, hln]
  have hkeep : ¬ (65 ≤ c.toNat ∧ c.toNat ≤ 90) → bvals (VaP.mixL s i) = bvals (VaP.mixL s (i + 1)) := fun h => by
   rw [hnx]
   rw [if_neg h] at hln
   have : VaP.lowC c = c := UInt8.toNat_inj.1 hln
   rw [this]
   congr 1
   apply List.ext_getElem?
   intro j
   rw [List.getElem?_set]
   split
   ·rename_i hj; subst hj; rw [hat]; simp; rw [VaP.mixL_len]; exact hlt
   ·rfl
  have hc := c.toNat_lt
  generalize bvals (VaP.mixL s i) = XS at *
  generalize hYS : bvals (VaP.mixL s (i + 1)) = YS at *
  generalize c.toNat = k at *
  repeat' (first | refine yX ?_ | (apply And.intro <;> intro _) | apply bothI | refine retB fun β => ?_ | intro βe | (refine opx_storeF env_ok 0 (v := .int .u8 ((k : Int) + 32)) (u := .int .u8 ((k + 32 : Nat) : Int)) rfl rfl rfl rfl (fun β => by simp [SV.den]) rfl rfl (by omega) ?_) | refine yN (j := i) Tryz.underlying113 Tryz.sizeOf5 ?_ | refine yO (v := .int .u8 (k : Int)) (x_loadOF 0 (.int .u8 (k : Int)) (fun w => Tryz.isAgg5 w) rfl (fun β => by rw [Nat.mul_one]; exact hv)) ?_ | exact trivial)
  all_goals first | (exfalso; omega) | (rw [Nat.mul_one, hset (by omega)]; refine hI _ ⟨i + 1, by omega⟩ (by dsimp only; omega) (by ((with_reducible show wk _ _); repeat' (first | exact trivial | exact eqSV_refl _ | refine eqI ?_ | refine eqS ?_ | apply And.intro | exact yV | fail)); all_goals exact fun b x h => by dsimp only; rw [hYS]; exact h); done) | (rw [hkeep (by omega)]; refine hI _ ⟨i + 1, by omega⟩ (by dsimp only; omega) (by ((with_reducible show wk _ _); repeat' (first | exact trivial | exact eqSV_refl _ | refine eqI ?_ | refine eqS ?_ | apply And.intro | exact yV | fail)); all_goals exact fun b x h => by dsimp only; rw [hYS]; exact h); done) | trace_state
 ·have e : VaP.mixL s i = VaP.low s := by
   unfold VaP.mixL
   rw [List.take_of_length_le (by omega), List.drop_eq_nil_of_le (by omega), List.append_nil]
  rw [e]
  repeat' (first | refine yX ?_ | (apply And.intro <;> intro _) | apply bothI | refine retB fun β => ?_ | intro βe | refine yO (x_bytesStrOF 0 (VaP.low s) Tryz.underlying113 Tryz.underlying5 Tryz.underlying9 rfl (VaP.low_len s).symm) ?_ | exact trivial)
  all_goals first | (exfalso; omega) | rfl | trace_state
end Go.Proofs.YtdkhkfdenlabaaaGreatDoor
namespace Go.Proofs.YtdkhkfdenlabaaaGreatDoor
open Go.RowKit
open Sym
attribute [local irreducible] Calls Sym.AggEq ExP.nd ExP.dig ExP.upd ExP.writeF ExP.writeE VaP.ftext
theorem enter_empty (w : World) : Calls Tryz.prog 11 #[.string (bstr [])] w (IsV VaP.emptyV w) := by
 refine yE Tryz.func11 rfl Tryz.results11 Tryz.ntmps11 [] [] [.str []] w ?_
 repeat' (first | refine yX ?_ | (apply And.intro <;> intro _) | apply bothI | refine retB fun β => ?_ | intro βe | exact trivial)
 all_goals first | rfl | (exfalso; contradiction) | trace_state
section
variable (s : List UInt8) (w : World) (hw : XV w) (hs : s ≠ []) (hl : s.length ≤ 9223372036854775807)
include hw hs hl
theorem enter_bad (hT : VaP.txtE s ≠ 0) : Calls Tryz.prog 11 #[.string (bstr s)] w (IsV (VaP.faultV 2) w) := by
 have T := fun (w' : World) (h : BW w w') => vtext_any s w' (hw.below h) hl
 have F := fun (w' : World) (h : BW w w') => vfault_any 2 w' (hw.below h)
 rw [if_neg (by omega)] at F
 generalize VaP.txtE s = E at *
 refine yE Tryz.func11 rfl Tryz.results11 Tryz.ntmps11 [] [] [.str s] w ?_
 repeat' (first | refine yX ?_ | (apply And.intro <;> intro _) | apply bothI | refine retB fun β => ?_ | intro βe | refine yK (.int .i64 E) (fun β w hm => T w hm.below) ?_ | refine yK (.agg [.int .i64 4, .str [], .str [], .str [], .lit false, .int .i64 2, .int .i64 0, .int .i64 0, .any (.slice none 0 0)]) (fun β w hm => F w hm.below) ?_ | exact trivial)
 all_goals first | rfl | (exfalso; contradiction) | (exfalso; omega) | trace_state
variable (hT : VaP.txtE s = 0)
include hT
theorem enter_quote (r : List UInt8) (hr : s = 39 :: r) : Calls Tryz.prog 11 #[.string (bstr s)] w (IsV (VaP.textV r) w) := by
 have T := fun (w' : World) (h : BW w w') => vtext_any s w' (hw.below h) hl
 rw [hT] at T
 have hrl : r.length ≤ 9223372036854775807 := by rw [hr] at hl; simp at hl; omega
 have Q : ∀ w' : World, QC 54 #[.string (bstr s), .string (bstr [39])] w' (.tuple #[.string (bstr r), .bool true]) := fun w' => by
  refine (Tryz.strings_CutPrefix (bstr s) (bstr [39]) w').mono ?_
  rintro e w'' ⟨h', rfl⟩
  refine ⟨?_, Below.refl _ _⟩
  rw [h', show (bstr s).data.toList = s from rfl, show (bstr [39]).data.toList = [39] from rfl, hr]
  simp [Lib.hasPrefix, Lib.trimPrefix, List.isPrefixOf]
  rfl
 have X := fun (w' : World) (h : BW w w') => vtextv_any r w' (hw.below h) hrl
 obtain ⟨V, hV⟩ : ∃ V, VaP.textV r = V := ⟨_, rfl⟩
 have hi : V.items = [] := by
  rw [← hV]; unfold VaP.textV
  split <;> rfl
 rw [hV] at X ⊢
 obtain ⟨k, ⟨n1, n2⟩, tx, on, cd, R, L, its⟩ := V
 obtain rfl : its = [] := hi
 refine yE Tryz.func11 rfl Tryz.results11 Tryz.ntmps11 [] [] [.str s] w ?_
 repeat' (first | refine yX ?_ | (apply And.intro <;> intro _) | apply bothI | refine retB fun β => ?_ | intro βe | refine yK (.int .i64 0) (fun β w hm => T w hm.below) ?_ | refine yK (.tup [.str r, .lit true]) (fun β w hm => Q w) ?_ | refine yK (.agg [.int .i64 k, .str n1, .str n2, .str tx, .bool on, .int .i64 cd, .int .i64 R, .int .i64 L, .any (.slice none 0 0)]) (fun β w hm => X w hm.below) ?_ | exact trivial)
 all_goals first | rfl | (exfalso; contradiction) | (exfalso; omega) | trace_state
variable (hq : s.head? ≠ some 39) (hl2 : s.length ≤ 1000000)
include hq hl2
theorem enter_bool (h : VaP.low s = [116, 114, 117, 101] ∨ VaP.low s = [102, 97, 108, 115, 101]) : Calls Tryz.prog 11 #[.string (bstr s)] w (IsV (VaP.boolV (decide (VaP.low s = [116, 114, 117, 101]))) w) := by
 have T := fun (w' : World) (h : BW w w') => vtext_any s w' (hw.below h) hl
 rw [hT] at T
 have Q := fun (w' : World) => quote_any s w' hq
 have L := fun (w' : World) => vlower_any s w' hl2
 have B1 := fun (w' : World) => vbool_any true w'
 have B0 := fun (w' : World) => vbool_any false w'
 generalize VaP.low s = l at *
 have hne : ¬ ([102, 97, 108, 115, 101] : List UInt8) = [116, 114, 117, 101] := by decide
 rcases h with rfl | rfl
 ·rw [decide_eq_true rfl]
  refine yE Tryz.func11 rfl Tryz.results11 Tryz.ntmps11 [] [] [.str s] w ?_
  repeat' (first | refine yX ?_ | (apply And.intro <;> intro _) | apply bothI | refine retB fun β => ?_ | intro βe | refine yK (.int .i64 0) (fun β w hm => T w hm.below) ?_ | refine yK (.tup [.str s, .lit false]) (fun β w hm => Q w) ?_ | refine yK (.str [116, 114, 117, 101]) (fun β w hm => L w) ?_ | refine yK (.agg [.int .i64 3, .str [], .str [], .str [], .lit true, .int .i64 0, .int .i64 0, .int .i64 0, .any (.slice none 0 0)]) (fun β w hm => B1 w) ?_ | exact trivial)
  all_goals first | rfl | (exfalso; contradiction) | (exfalso; omega) | (exfalso; simp_all; done) | trace_state
 ·rw [decide_eq_false hne]
  refine yE Tryz.func11 rfl Tryz.results11 Tryz.ntmps11 [] [] [.str s] w ?_
  repeat' (first | refine yX ?_ | (apply And.intro <;> intro _) | apply bothI | refine retB fun β => ?_ | intro βe | refine yK (.int .i64 0) (fun β w hm => T w hm.below) ?_ | refine yK (.tup [.str s, .lit false]) (fun β w hm => Q w) ?_ | refine yK (.str [102, 97, 108, 115, 101]) (fun β w hm => L w) ?_ | refine yK (.agg [.int .i64 3, .str [], .str [], .str [], .lit false, .int .i64 0, .int .i64 0, .int .i64 0, .any (.slice none 0 0)]) (fun β w hm => B0 w) ?_ | exact trivial)
  all_goals first | rfl | (exfalso; contradiction) | (exfalso; omega) | (exfalso; simp_all; done) | trace_state
variable (hL1 : VaP.low s ≠ [116, 114, 117, 101]) (hL2 : VaP.low s ≠ [102, 97, 108, 115, 101]) (ANS : VaP.VT) (hX : ∀ i, 1 ≤ i → i < 9 → s = VaP.ftext i → ANS = VaP.faultV (i : Nat))
 (A1 A2 B1 B2 C1 C2 D1 D2 E1 E2 : List UInt8) (oA oB oC oD oE : Bool)
 (hA : ∀ w', BW w w' → QC 56 #[.string (bstr s)] w' (.tuple #[frV (A1, A2), .bool oA]))
 (nA : oA = true → ∀ w', BW w w' → Calls Tryz.prog 19 #[frV (A1, A2)] w' (IsV (VaP.numF (A1, A2)) w'))
 (hB : ∀ w', BW w w' → QC 57 #[.string (bstr s)] w' (.tuple #[frV (B1, B2), .bool oB]))
 (nB : oB = true → ∀ w', BW w w' → Calls Tryz.prog 19 #[frV (B1, B2)] w' (IsV (VaP.numF (B1, B2)) w'))
 (hC : ∀ w', BW w w' → QC 58 #[.string (bstr s)] w' (.tuple #[frV (C1, C2), .bool oC]))
 (nC : oC = true → ∀ w', BW w w' → Calls Tryz.prog 19 #[frV (C1, C2)] w' (IsV (VaP.numF (C1, C2)) w'))
 (hD : ∀ w', BW w w' → QC 59 #[.string (bstr s)] w' (.tuple #[frV (D1, D2), .bool oD]))
 (nD : oD = true → ∀ w', BW w w' → Calls Tryz.prog 19 #[frV (D1, D2)] w' (IsV (VaP.numF (D1, D2)) w'))
 (hE : ∀ w', BW w w' → QC 60 #[.string (bstr s)] w' (.tuple #[frV (E1, E2), .bool oE]))
 (nE : oE = true → ∀ w', BW w w' → Calls Tryz.prog 19 #[frV (E1, E2)] w' (IsV (VaP.numF (E1, E2)) w'))
 (aA : (∀ i, 1 ≤ i → i < 9 → s ≠ VaP.ftext i) → oA = true → ANS = VaP.numF (A1, A2))
 (aB : (∀ i, 1 ≤ i → i < 9 → s ≠ VaP.ftext i) → oA = false → oB = true → ANS = VaP.numF (B1, B2))
 (aC : (∀ i, 1 ≤ i → i < 9 → s ≠ VaP.ftext i) → oA = false → oB = false → oC = true → ANS = VaP.numF (C1, C2))
 (aD : (∀ i, 1 ≤ i → i < 9 → s ≠ VaP.ftext i) → oA = false → oB = false → oC = false → oD = true → ANS = VaP.numF (D1, D2))
 (aE : (∀ i, 1 ≤ i → i < 9 → s ≠ VaP.ftext i) → oA = false → oB = false → oC = false → oD = false → oE = true → ANS = VaP.numF (E1, E2))
 (aZ : (∀ i, 1 ≤ i → i < 9 → s ≠ VaP.ftext i) → oA = false → oB = false → oC = false → oD = false → oE = false → ANS = VaP.textV s)
include hL1 hL2 hX hA nA aA hB nB aB hC nC aC hD nD aD hE nE aE aZ
theorem enter_main : Calls Tryz.prog 11 #[.string (bstr s)] w (IsV ANS w) := by
 have T := fun (w' : World) (h : BW w w') => vtext_any s w' (hw.below h) hl
 have hTX : VaP.textV s = VaP.rawT s := by unfold VaP.textV; rw [if_pos hT]
 have X := fun (w' : World) (h : BW w w') => vtextv_any s w' (hw.below h) hl
 rw [hTX] at X aZ
 rw [hT] at T
 have Q := fun (w' : World) => quote_any s w' hq
 have LL := fun (w' : World) => vlower_any s w' hl2
 have FV := fun (i : Nat) (h1 : 1 ≤ i) (h9 : i < 9) (w' : World) (h : BW w w') => vfault_any (i : Nat) w' (hw.below h)
 have hfc := faultS_cell w hw
 have hfg := faultS_get
 generalize VaP.low s = l at *
 refine yE Tryz.func11 rfl Tryz.results11 Tryz.ntmps11 [] [] [.str s] w ?_
 repeat' (first | refine yX ?_ | (apply And.intro <;> intro _) | apply bothI | refine retB fun β => ?_ | intro βe | refine yK (.int .i64 0) (fun β w hm => T w hm.below) ?_ | refine yK (.tup [.str s, .lit false]) (fun β w hm => Q w) ?_ | refine yK (.str l) (fun β w hm => LL w) ?_ | ((with_reducible show ∃ _ : SV, _); first | (refine ⟨.agg faultS, ?ok, x_loadAgg (vs := faultS) (fun w => Tryz.isAgg81 w) (fun w => Tryz.sizeOf81 w) hfc, ?_⟩; (case ok => exact fun _ _ => faultS_oks _))) | exact trivial)
 all_goals first | (exfalso; contradiction) | skip
 refine yZ (T := {i : Nat // i ≤ 9 ∧ ∀ j, 1 ≤ j → j < i → s ≠ VaP.ftext j}) (fun t => ⟨[(0, .str s), (2, .ptr 0 0), (38, .agg faultS), (39, .int .i64 (t.1 : Nat))], [(0, true, .cells 28 [.int .i64 0, .str [], .str [], .str [], .lit false, .int .i64 0, .int .i64 0, .int .i64 0, .any (.slice none 0 0)])], 1, 69⟩) (fun t => 9 - t.1) ⟨0, Nat.zero_le _, fun j h1 h2 => by omega⟩ [] [] (fun t I hI => ?_)
 obtain ⟨i, hi, hne⟩ := t
 dsimp only
 by_cases hlt : i < 9
 ·have hg := hfg i hlt
  by_cases h0 : i = 0
  ·subst h0
   generalize VaP.ftext 0 = X0 at *
   repeat' (first | refine yX ?_ | (apply And.intro <;> intro _) | apply bothI | refine retB fun β => ?_ | intro βe | ((with_reducible show ∃ _ : SV, _); first | (refine ⟨.str X0, ?ok, x_indexAgg (j := 0) Tryz.underlying81 (fun w => Tryz.sizeOf9 w) (fun w => Tryz.isAgg9 w) hlt hg, ?_⟩; (case ok => exact fun _ _ => trivial))) | exact trivial)
   all_goals first | (exfalso; omega) | (refine hI _ ⟨1, by omega, fun j h1 h2 => by omega⟩ (by dsimp only; omega) yW; done) | trace_state
  ·have hXi := hX i (by omega) hlt
   have hnx : s ≠ VaP.ftext i → ∀ j, 1 ≤ j → j < i + 1 → s ≠ VaP.ftext j := fun h j h1 h2 => by
    by_cases e : j = i
    ·rw [e]; exact h
    ·exact hne j h1 (by omega)
   have FVi := FV i (by omega) hlt
   rw [if_neg (by omega)] at FVi
   generalize VaP.ftext i = XX at *
   repeat' (first | refine yX ?_ | (apply And.intro <;> intro _) | apply bothI | refine retB fun β => ?_ | intro βe | refine yK (.agg [.int .i64 4, .str [], .str [], .str [], .lit false, .int .i64 (i : Nat), .int .i64 0, .int .i64 0, .any (.slice none 0 0)]) (fun β w hm => FVi w hm.below) ?_ | ((with_reducible show ∃ _ : SV, _); first | (refine ⟨.str XX, ?ok, x_indexAgg (j := i) Tryz.underlying81 (fun w => Tryz.sizeOf9 w) (fun w => Tryz.isAgg9 w) hlt hg, ?_⟩; (case ok => exact fun _ _ => trivial))) | exact trivial)
   all_goals first | (exfalso; omega) | (rw [hXi (by assumption)]; rfl) | (refine hI _ ⟨i + 1, by omega, hnx (by assumption)⟩ (by dsimp only; omega) yW; done) | trace_state
 ·have hno : ∀ j, 1 ≤ j → j < 9 → s ≠ VaP.ftext j := fun j h1 h2 => hne j h1 (by omega)
  have e9 : i = 9 := by omega
  subst e9
  clear hX FV hne hI
  replace aZ := aZ hno
  replace aA := aA hno
  replace aB := aB hno
  replace aC := aC hno
  replace aD := aD hno
  replace aE := aE hno
  repeat' (first | refine yX ?_ | (apply And.intro <;> intro _) | apply bothI | refine retB fun β => ?_ | intro βe | ((with_reducible show ∃ _ : SV, _); first | (refine ⟨.agg readF, ?ok, x_buildArr rfl Tryz.underlying83 (fun w => Tryz.sizeOf82 w) (fun w => Tryz.zeroValue83 w) rfl readF_cells, ?_⟩; (case ok => exact fun _ h => h))) | exact trivial)
  all_goals first | (exfalso; omega) | skip
  refine yZ (T := {i : Nat // i ≤ 5 ∧ (0 < i → oA = false) ∧ (1 < i → oB = false) ∧ (2 < i → oC = false) ∧ (3 < i → oD = false) ∧ (4 < i → oE = false)}) (fun t => ⟨[(0, .str s), (2, .ptr 0 0), (53, .agg readF), (54, .int .i64 (t.1 : Nat))], [(0, true, .cells 28 [.int .i64 0, .str [], .str [], .str [], .lit false, .int .i64 0, .int .i64 0, .int .i64 0, .any (.slice none 0 0)])], 1, 69⟩) (fun t => 5 - t.1) ⟨0, by omega, by omega, by omega, by omega, by omega, by omega⟩ [] [] (fun t I hI => ?_)
  obtain ⟨i, hi, z0, z1, z2, z3, z4⟩ := t
  dsimp only
  rcases (by omega : i = 0 ∨ i = 1 ∨ i = 2 ∨ i = 3 ∨ i = 4 ∨ i = 5) with rfl | rfl | rfl | rfl | rfl | rfl
  ·repeat' (first | refine yX ?_ | (apply And.intro <;> intro _) | apply bothI | refine retB fun β => ?_ | intro βe | refine yK (.tup [.agg [.str A1, .str A2], .bool oA]) (fun β w hm => hA w hm.below) ?_ | refine yK (.agg [.int .i64 1, .str A1, .str A2, .str [], .lit false, .int .i64 0, .int .i64 0, .int .i64 0, .any (.slice none 0 0)]) (fun β w hm => nA (by assumption) w hm.below) ?_ | ((with_reducible show ∃ _ : SV, _); first | (refine ⟨.fn 56 [], ?ok, x_indexAgg (j := 0) Tryz.underlying83 (fun w => Tryz.sizeOf82 w) (fun w => Tryz.isAgg82 w) (by omega) rfl, ?_⟩; (case ok => exact fun _ _ => trivial))) | exact trivial)
   all_goals first | (exfalso; omega) | (rw [aA  (by assumption)]; rfl) | (refine hI _ ⟨1, by omega, fun _ => by assumption, fun h => by omega, fun h => by omega, fun h => by omega, fun h => by omega⟩ (by dsimp only; omega) yW; done) | trace_state
  ·repeat' (first | refine yX ?_ | (apply And.intro <;> intro _) | apply bothI | refine retB fun β => ?_ | intro βe | refine yK (.tup [.agg [.str B1, .str B2], .bool oB]) (fun β w hm => hB w hm.below) ?_ | refine yK (.agg [.int .i64 1, .str B1, .str B2, .str [], .lit false, .int .i64 0, .int .i64 0, .int .i64 0, .any (.slice none 0 0)]) (fun β w hm => nB (by assumption) w hm.below) ?_ | ((with_reducible show ∃ _ : SV, _); first | (refine ⟨.fn 57 [], ?ok, x_indexAgg (j := 1) Tryz.underlying83 (fun w => Tryz.sizeOf82 w) (fun w => Tryz.isAgg82 w) (by omega) rfl, ?_⟩; (case ok => exact fun _ _ => trivial))) | exact trivial)
   all_goals first | (exfalso; omega) | (rw [aB (z0 (by omega)) (by assumption)]; rfl) | (refine hI _ ⟨2, by omega, fun _ => z0 (by omega), fun _ => by assumption, fun h => by omega, fun h => by omega, fun h => by omega⟩ (by dsimp only; omega) yW; done) | trace_state
  ·repeat' (first | refine yX ?_ | (apply And.intro <;> intro _) | apply bothI | refine retB fun β => ?_ | intro βe | refine yK (.tup [.agg [.str C1, .str C2], .bool oC]) (fun β w hm => hC w hm.below) ?_ | refine yK (.agg [.int .i64 1, .str C1, .str C2, .str [], .lit false, .int .i64 0, .int .i64 0, .int .i64 0, .any (.slice none 0 0)]) (fun β w hm => nC (by assumption) w hm.below) ?_ | ((with_reducible show ∃ _ : SV, _); first | (refine ⟨.fn 58 [], ?ok, x_indexAgg (j := 2) Tryz.underlying83 (fun w => Tryz.sizeOf82 w) (fun w => Tryz.isAgg82 w) (by omega) rfl, ?_⟩; (case ok => exact fun _ _ => trivial))) | exact trivial)
   all_goals first | (exfalso; omega) | (rw [aC (z0 (by omega)) (z1 (by omega)) (by assumption)]; rfl) | (refine hI _ ⟨3, by omega, fun _ => z0 (by omega), fun _ => z1 (by omega), fun _ => by assumption, fun h => by omega, fun h => by omega⟩ (by dsimp only; omega) yW; done) | trace_state
  ·repeat' (first | refine yX ?_ | (apply And.intro <;> intro _) | apply bothI | refine retB fun β => ?_ | intro βe | refine yK (.tup [.agg [.str D1, .str D2], .bool oD]) (fun β w hm => hD w hm.below) ?_ | refine yK (.agg [.int .i64 1, .str D1, .str D2, .str [], .lit false, .int .i64 0, .int .i64 0, .int .i64 0, .any (.slice none 0 0)]) (fun β w hm => nD (by assumption) w hm.below) ?_ | ((with_reducible show ∃ _ : SV, _); first | (refine ⟨.fn 59 [], ?ok, x_indexAgg (j := 3) Tryz.underlying83 (fun w => Tryz.sizeOf82 w) (fun w => Tryz.isAgg82 w) (by omega) rfl, ?_⟩; (case ok => exact fun _ _ => trivial))) | exact trivial)
   all_goals first | (exfalso; omega) | (rw [aD (z0 (by omega)) (z1 (by omega)) (z2 (by omega)) (by assumption)]; rfl) | (refine hI _ ⟨4, by omega, fun _ => z0 (by omega), fun _ => z1 (by omega), fun _ => z2 (by omega), fun _ => by assumption, fun h => by omega⟩ (by dsimp only; omega) yW; done) | trace_state
  ·repeat' (first | refine yX ?_ | (apply And.intro <;> intro _) | apply bothI | refine retB fun β => ?_ | intro βe | refine yK (.tup [.agg [.str E1, .str E2], .bool oE]) (fun β w hm => hE w hm.below) ?_ | refine yK (.agg [.int .i64 1, .str E1, .str E2, .str [], .lit false, .int .i64 0, .int .i64 0, .int .i64 0, .any (.slice none 0 0)]) (fun β w hm => nE (by assumption) w hm.below) ?_ | ((with_reducible show ∃ _ : SV, _); first | (refine ⟨.fn 60 [], ?ok, x_indexAgg (j := 4) Tryz.underlying83 (fun w => Tryz.sizeOf82 w) (fun w => Tryz.isAgg82 w) (by omega) rfl, ?_⟩; (case ok => exact fun _ _ => trivial))) | exact trivial)
   all_goals first | (exfalso; omega) | (rw [aE (z0 (by omega)) (z1 (by omega)) (z2 (by omega)) (z3 (by omega)) (by assumption)]; rfl) | (refine hI _ ⟨5, by omega, fun _ => z0 (by omega), fun _ => z1 (by omega), fun _ => z2 (by omega), fun _ => z3 (by omega), fun _ => by assumption⟩ (by dsimp only; omega) yW; done) | trace_state
  ·repeat' (first | refine yX ?_ | (apply And.intro <;> intro _) | apply bothI | refine retB fun β => ?_ | intro βe | refine yK (.agg [.int .i64 2, .str [], .str [], .str s, .lit false, .int .i64 0, .int .i64 0, .int .i64 0, .any (.slice none 0 0)]) (fun β w hm => X w hm.below) ?_ | exact trivial)
   all_goals first | (exfalso; omega) | (rw [aZ (z0 (by omega)) (z1 (by omega)) (z2 (by omega)) (z3 (by omega)) (z4 (by omega))]; rfl) | trace_state
end
end Go.Proofs.YtdkhkfdenlabaaaGreatDoor
namespace Go.Proofs.YtdkhkfdenlabaaaGreatDoor
open Go.RowKit
open Sym
attribute [local irreducible] Calls Sym.AggEq ExP.nd ExP.dig ExP.upd ExP.writeF ExP.writeE
def ExP.Fineq (x : ExP.Num) : Prop := 0 < x.d ∧ ExP.writeE x = 0
namespace VaP
open ExP
theorem num_good {s : Str} {x : Num} (h : numV s = some x) : Fineq x := by
 refine ⟨?_, numV_write h⟩
 unfold numV at h
 split at h
 ·cases h
 ·unfold numG at h
  split at h
  ·cases h
  ·split at h
   ·split at h
    ·cases h; exact scale_pos (decN_pos _)
    ·cases h
   ·cases h; exact decN_pos _
theorem mix_good {s : Str} {x : Num} (h : mixV s = some x) : Fineq x := by
 unfold mixV mixG at h
 split at h
 ·split at h
  ·rename_i hh
   obtain ⟨h1, h2, h3, h4⟩ := hh
   cases h
   exact ⟨Nat.pos_of_ne_zero h4, (mix_small (whF_yes h1).2.2 (whF_yes h2).2.2 (whF_yes h3).2.2 h4 _).2⟩
  ·cases h
 ·cases h
theorem date_le (s : Str) : dateV s ≤ 2958464 := by
 unfold dateV
 split
 ·split
  ·exact (dayV_le _ _ _).2
  ·omega
 ·omega
theorem dateO_parts {s : Str} {x : Num} (h : dateO s = some x) : x.m = false ∧ x.d = 1 ∧ x.n ≤ 2958464 := by
 unfold dateO at h
 split at h
 ·cases h
  have := date_le s
  exact ⟨rfl, rfl, by show (dateV s).toNat ≤ 2958464; omega⟩
 ·cases h
theorem date_good {s : Str} {x : Num} (h : dateO s = some x) : Fineq x := by
 obtain ⟨m, n, d⟩ := x
 obtain ⟨h1, h2, h3⟩ := dateO_parts h
 dsimp only at h1 h2 h3
 subst h1 h2
 exact ⟨Nat.one_pos, e25 (by omega) (by omega) (by omega)⟩
theorem clk_good {s : Str} {x : Num} (h : clkV s = some x) : Fineq x := by
 obtain ⟨m, n, d⟩ := x
 obtain ⟨h1, h2, h3, h4⟩ := clk_small h
 dsimp only at h1 h2 h3 h4
 exact ⟨h2, e25 (by omega) (by omega) h2⟩
theorem mom_good {s : Str} {x : Num} (h : momV s = some x) : Fineq x := by
 rw [momV_eq] at h
 split at h
 ·rename_i d z hd hz
  split at h
  ·cases h
   obtain ⟨dm, dn, dd⟩ := d
   obtain ⟨zm, zn, zd⟩ := z
   obtain ⟨d1, d2, d3⟩ := dateO_parts hd
   obtain ⟨z1, z2, z3, z4⟩ := clk_small hz
   dsimp only at *
   subst d1 d2 z1
   have hmul : dn * zd ≤ 2958464 * 1000000000000000 := Nat.mul_le_mul d3 (by omega)
   have hs : sumN ⟨false, dn, 1⟩ ⟨false, zn, zd⟩ = ⟨false, dn * zd + zn * 1, 1 * zd⟩ := if_pos rfl
   rw [hs]
   exact ⟨by show 0 < 1 * zd; omega, e25 (by omega) (by omega) (by omega)⟩
  ·cases h
 ·cases h
theorem readV_eq (s : Str) : readV s = match numV s with
  | some x => some x
  | none => match mixV s with
    | some x => some x
    | none => match dateO s with
      | some x => some x
      | none => match clkV s with
        | some x => some x
        | none => momV s := by
 unfold readV dateO
 cases numV s with
 | some x => rfl
 | none =>
   cases mixV s with
   | some x => rfl
   | none =>
     dsimp only
     by_cases h : 0 < dateV s
     ·rw [if_pos h, if_pos h]
     ·rw [if_neg h, if_neg h]; rfl
theorem fcode_at {i : Nat} (h1 : 1 ≤ i) (h9 : i < 9) : fcode (ftext i) = i := by
 rcases (by omega : i = 1 ∨ i = 2 ∨ i = 3 ∨ i = 4 ∨ i = 5 ∨ i = 6 ∨ i = 7 ∨ i = 8) with rfl | rfl | rfl | rfl | rfl | rfl | rfl | rfl <;> decide
theorem fcode_no {s : Str} (h : ∀ i, 1 ≤ i → i < 9 → s ≠ ftext i) : fcode s = 0 := by
 unfold fcode
 rw [if_neg (h 1 (by omega) (by omega)), if_neg (h 2 (by omega) (by omega)), if_neg (h 3 (by omega) (by omega)), if_neg (h 4 (by omega) (by omega)), if_neg (h 5 (by omega) (by omega)), if_neg (h 6 (by omega) (by omega)), if_neg (h 7 (by omega) (by omega)), if_neg (h 8 (by omega) (by omega))]
theorem enterV_main {s : Str} (h0 : s ≠ []) (h1 : txtE s = 0) (h2 : s.head? ≠ some 39) (h3 : low s ≠ [116, 114, 117, 101]) (h4 : low s ≠ [102, 97, 108, 115, 101]) : enterV s = if fcode s ≠ 0 then faultV (fcode s : Nat) else match readV s with
  | some x => numF (writeF x)
  | none => rawT s := by
 unfold enterV
 rw [if_neg h0, if_neg (fun h => h h1), if_neg h2, if_neg (fun h => h.elim h3 h4)]
 rfl
end VaP
theorem number_of {x : ExP.Num} {F : ExP.Fr} (hg : ExP.Fineq x) (hF : F = ExP.writeF x) (w : World) (hw : XV w) (l : F.1.length ≤ 301 ∧ F.2.length ≤ 300) : Calls Tryz.prog 19 #[frV F] w (IsV (VaP.numF F) w) := by
 have := vnumber_any F w hw (by omega) (by omega)
 rwa [if_pos (by rw [hF]; exact (ExP.write_read hg.1 hg.2).1)] at this
theorem venter_any (s : List UInt8) (w : World) (hw : XV w) (hl : s.length ≤ 9223372036854775807) : Calls Tryz.prog 11 #[.string (bstr s)] w (IsV (VaP.enterV s) w) := by
 by_cases h0 : s = []
 ·subst h0; exact enter_empty w
 by_cases hT : VaP.txtE s = 0
 ·have hlen : s.length ≤ 32767 := by
   unfold VaP.txtE at hT
   split at hT
   ·omega
   ·omega
  by_cases hq : s.head? = some 39
  ·obtain ⟨r, hr⟩ : ∃ r, s = 39 :: r := by
    cases s with
    | nil => cases hq
    | cons c r => exact ⟨r, by have : c = 39 := by simpa using hq
                               rw [this]⟩
   have hv : VaP.enterV s = VaP.textV r := by
    unfold VaP.enterV
    rw [if_neg h0, if_neg (fun h => h hT), if_pos hq, hr]
    rfl
   rw [hv]
   exact enter_quote s w hw h0 hl hT r hr
  ·by_cases hb : VaP.low s = [116, 114, 117, 101] ∨ VaP.low s = [102, 97, 108, 115, 101]
   ·have hv : VaP.enterV s = VaP.boolV (decide (VaP.low s = [116, 114, 117, 101])) := by
     unfold VaP.enterV
     rw [if_neg h0, if_neg (fun h => h hT), if_neg hq, if_pos hb]
    rw [hv]
    exact enter_bool s w hw h0 hl hT hq (by omega) hb
   ·have hv := VaP.enterV_main h0 hT hq (fun h => hb (.inl h)) (fun h => hb (.inr h))
    rw [VaP.readV_eq] at hv
    obtain ⟨FA, gA, HA⟩ := number_any s w hw h0 (by omega)
    obtain ⟨FB, gB, lB, HB⟩ := vmixed_any s w hw (by omega)
    obtain ⟨FC, gC, lC, HC⟩ := vdate_any s w hw (by omega)
    obtain ⟨FD, gD, lD, HD⟩ := vclock_any s w hw (by omega)
    obtain ⟨FE, gE, lE, HE⟩ := vinstant_any s w hw (by omega)
    have kA := @VaP.num_good s
    have kB := @VaP.mix_good s
    have kC := @VaP.date_good s
    have kD := @VaP.clk_good s
    have kE := @VaP.mom_good s
    have hTX : VaP.textV s = VaP.rawT s := by unfold VaP.textV; rw [if_pos hT]
    have hcode : (∀ i, 1 ≤ i → i < 9 → s ≠ VaP.ftext i) → VaP.enterV s = match (match VaP.numV s with
      | some x => some x
      | none => match VaP.mixV s with
        | some x => some x
        | none => match VaP.dateO s with
          | some x => some x
          | none => match VaP.clkV s with
            | some x => some x
            | none => VaP.momV s) with
      | some x => VaP.numF (ExP.writeF x)
      | none => VaP.rawT s := fun h => by
     rw [hv, if_neg (by rw [VaP.fcode_no h]; simp)]
    clear hv
    generalize VaP.numV s = vA at *
    generalize VaP.mixV s = vB at *
    generalize VaP.dateO s = vC at *
    generalize VaP.clkV s = vD at *
    generalize VaP.momV s = vE at *
    refine enter_main s w hw h0 hl hT hq (by omega) (fun h => hb (.inl h)) (fun h => hb (.inr h)) (VaP.enterV s) (fun i h1 h9 hi => ?_) FA.1 FA.2 FB.1 FB.2 FC.1 FC.2 FD.1 FD.2 FE.1 FE.2 vA.isSome vB.isSome vC.isSome vD.isSome vE.isSome HA ?_ HB ?_ HC ?_ HD ?_ HE ?_ ?_ ?_ ?_ ?_ ?_ ?_
    ·rw [VaP.enterV_main h0 hT hq (fun h => hb (.inl h)) (fun h => hb (.inr h)), hi, VaP.fcode_at h1 h9, if_pos (by omega)]
    ·intro h w' hb'
     obtain ⟨x, rfl⟩ := Option.isSome_iff_exists.1 h
     have e := gA x rfl
     exact number_of (kA rfl) e w' (hw.below hb') (by rw [e]; exact ExP.writeF_len x)
    ·intro h w' hb'
     obtain ⟨x, rfl⟩ := Option.isSome_iff_exists.1 h
     exact number_of (kB rfl) (gB x rfl) w' (hw.below hb') lB
    ·intro h w' hb'
     obtain ⟨x, rfl⟩ := Option.isSome_iff_exists.1 h
     exact number_of (kC rfl) (gC x rfl) w' (hw.below hb') lC
    ·intro h w' hb'
     obtain ⟨x, rfl⟩ := Option.isSome_iff_exists.1 h
     exact number_of (kD rfl) (gD x rfl) w' (hw.below hb') lD
    ·intro h w' hb'
     obtain ⟨x, rfl⟩ := Option.isSome_iff_exists.1 h
     exact number_of (kE rfl) (gE x rfl) w' (hw.below hb') lE
    ·intro hn h
     obtain ⟨x, rfl⟩ := Option.isSome_iff_exists.1 h
     rw [hcode hn]
     show VaP.numF (ExP.writeF x) = VaP.numF FA
     rw [gA x rfl]
    ·intro hn zA h
     obtain ⟨x, rfl⟩ := Option.isSome_iff_exists.1 h
     obtain rfl := Option.not_isSome_iff_eq_none.1 (by rw [zA]; exact Bool.false_ne_true)
     rw [hcode hn]
     show VaP.numF (ExP.writeF x) = VaP.numF FB
     rw [gB x rfl]
    ·intro hn zA zB h
     obtain ⟨x, rfl⟩ := Option.isSome_iff_exists.1 h
     obtain rfl := Option.not_isSome_iff_eq_none.1 (by rw [zA]; exact Bool.false_ne_true)
     obtain rfl := Option.not_isSome_iff_eq_none.1 (by rw [zB]; exact Bool.false_ne_true)
     rw [hcode hn]
     show VaP.numF (ExP.writeF x) = VaP.numF FC
     rw [gC x rfl]
    ·intro hn zA zB zC h
     obtain ⟨x, rfl⟩ := Option.isSome_iff_exists.1 h
     obtain rfl := Option.not_isSome_iff_eq_none.1 (by rw [zA]; exact Bool.false_ne_true)
     obtain rfl := Option.not_isSome_iff_eq_none.1 (by rw [zB]; exact Bool.false_ne_true)
     obtain rfl := Option.not_isSome_iff_eq_none.1 (by rw [zC]; exact Bool.false_ne_true)
     rw [hcode hn]
     show VaP.numF (ExP.writeF x) = VaP.numF FD
     rw [gD x rfl]
    ·intro hn zA zB zC zD h
     obtain ⟨x, rfl⟩ := Option.isSome_iff_exists.1 h
     obtain rfl := Option.not_isSome_iff_eq_none.1 (by rw [zA]; exact Bool.false_ne_true)
     obtain rfl := Option.not_isSome_iff_eq_none.1 (by rw [zB]; exact Bool.false_ne_true)
     obtain rfl := Option.not_isSome_iff_eq_none.1 (by rw [zC]; exact Bool.false_ne_true)
     obtain rfl := Option.not_isSome_iff_eq_none.1 (by rw [zD]; exact Bool.false_ne_true)
     rw [hcode hn]
     show VaP.numF (ExP.writeF x) = VaP.numF FE
     rw [gE x rfl]
    ·intro hn zA zB zC zD zE
     obtain rfl := Option.not_isSome_iff_eq_none.1 (by rw [zA]; exact Bool.false_ne_true)
     obtain rfl := Option.not_isSome_iff_eq_none.1 (by rw [zB]; exact Bool.false_ne_true)
     obtain rfl := Option.not_isSome_iff_eq_none.1 (by rw [zC]; exact Bool.false_ne_true)
     obtain rfl := Option.not_isSome_iff_eq_none.1 (by rw [zD]; exact Bool.false_ne_true)
     obtain rfl := Option.not_isSome_iff_eq_none.1 (by rw [zE]; exact Bool.false_ne_true)
     rw [hcode hn, hTX]
 ·have hv : VaP.enterV s = VaP.faultV 2 := by
   unfold VaP.enterV
   rw [if_neg h0, if_pos hT]
  rw [hv]
  exact enter_bad s w hw h0 hl hT
noncomputable def VaP.same (t o : VaP.VT) : Bool := @decide (t = o) (Classical.propDecidable _)
noncomputable def VaP.sameL (l m : List VaP.VT) : Bool := @decide (l = m) (Classical.propDecidable _)
theorem VaP.same_true {t o : VaP.VT} : VaP.same t o = true ↔ t = o := by unfold VaP.same; simp
theorem VaP.same_false {t o : VaP.VT} : VaP.same t o = false ↔ t ≠ o := by unfold VaP.same; simp
theorem VaP.sameL_true {t o : List VaP.VT} : VaP.sameL t o = true ↔ t = o := by unfold VaP.sameL; simp
theorem VaP.sameL_false {t o : List VaP.VT} : VaP.sameL t o = false ↔ t ≠ o := by unfold VaP.sameL; simp
def ItsIn (l : List VaP.VT) (a : Option Addr) (ps : Nat → Option Addr × Nat) (w : World) : Prop := ∀ i x, l[i]? = some x → ∃ ad, a = some ad ∧ ad.block < w.heap.size ∧ ∀ j v, (itCells x (ps i))[j]? = some v → w.cell? (ad.add (i * 9 + j)) = some v
theorem ItsIn.ld {l : List VaP.VT} {a : Option Addr} {ps : Nat → Option Addr × Nat} {w : World} (h : ItsIn l a ps w) {i : Nat} {x : VaP.VT} (hx : l[i]? = some x) : ∃ ad, a = some ad ∧ ∀ w', BW w w' → ∀ (β : Nat → Nat) (j : Nat) (v : Value), (SV.dens β [.int .i64 x.kind, .str x.num.1, .str x.num.2, .str x.text, .bool x.on, .int .i64 x.code, .int .i64 x.rows, .int .i64 x.cols, .any (.slice (ps i).1 x.items.length (ps i).2)])[j]? = some v → w'.cell? ((ad.add (i * 9)).add j) = some v := by
 obtain ⟨ad, e, -, hc⟩ := h i x hx
 exact ⟨ad, e, fun w' hb β j v hv => by
  rw [Go.Deep.add_add]
  exact cell_below (hc j v hv) hb⟩
theorem take_more {α : Type} {l m : List α} {i : Nat} {x : α} (h : l.take i = m.take i) (hx : l[i]? = some x) (hy : m[i]? = some x) : l.take (i + 1) = m.take (i + 1) := by
 obtain ⟨h1, e1⟩ := List.getElem?_eq_some_iff.1 hx
 obtain ⟨h2, e2⟩ := List.getElem?_eq_some_iff.1 hy
 rw [List.take_succ_eq_append_getElem h1, List.take_succ_eq_append_getElem h2, e1, e2, h]
theorem VaP.item_lt {t x : VaP.VT} {i : Nat} (h : t.items[i]? = some x) : SizeOf.sizeOf x < SizeOf.sizeOf t := by
 obtain ⟨k, n, tx, on, cd, r, c, its⟩ := t
 have h1 := List.sizeOf_lt_of_mem (List.mem_of_getElem? h)
 simp only [VaP.VT.mk.sizeOf_spec]
 dsimp only at h1
 omega
theorem VaP.same_cases (t o : VaP.VT) : (t.kind = o.kind ∧ (t.num.1 = o.num.1 ∧ t.num.2 = o.num.2) ∧ t.text = o.text ∧ t.on = o.on ∧ t.code = o.code ∧ t.rows = o.rows ∧ t.cols = o.cols → VaP.same t o = VaP.sameL t.items o.items) ∧ (¬ (t.kind = o.kind ∧ (t.num.1 = o.num.1 ∧ t.num.2 = o.num.2) ∧ t.text = o.text ∧ t.on = o.on ∧ t.code = o.code ∧ t.rows = o.rows ∧ t.cols = o.cols) → VaP.same t o = false) := by
 constructor
 ·rintro ⟨h1, ⟨h2, h2'⟩, h3, h4, h5, h6, h7⟩
  rw [Bool.eq_iff_iff, VaP.same_true, VaP.sameL_true]
  obtain ⟨k, ⟨n1, n2⟩, tx, on, cd, r, c, its⟩ := t
  obtain ⟨k', ⟨n1', n2'⟩, tx', on', cd', r', c', its'⟩ := o
  dsimp only at *
  subst h1 h2 h2' h3 h4 h5 h6 h7
  constructor
  ·intro h; cases h; rfl
  ·intro h; rw [h]
 ·intro h
  rw [VaP.same_false]
  rintro rfl
  exact h ⟨rfl, ⟨rfl, rfl⟩, rfl, rfl, rfl, rfl, rfl⟩
end Go.Proofs.YtdkhkfdenlabaaaGreatDoor
