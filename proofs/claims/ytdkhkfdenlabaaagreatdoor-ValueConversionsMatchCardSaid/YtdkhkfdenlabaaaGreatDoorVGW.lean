/- A walk that reckons: bytes that a ZN -/
import Derived.Test.YtdkhkfdenlabaaaGreatDoorVGG
import Derived.Test.YtdkhkfdenlabaaaGreatDoorVGP
import Derived.Lib.FrozenHead
import Derived.Test.YtdkhkfdenlabaaaGreatDoorVVaW10
import Derived.Test.YtdkhkfdenlabaaaGreatDoorVGV
import Derived.Test.YtdkhkfdenlabaaaGreatDoorVGT
set_option linter.unusedSimpArgs false
set_option linter.unusedVariables false
set_option maxRecDepth 100000
set_option maxHeartbeats 64000000
namespace Go.Proofs.YtdkhkfdenlabaaaGreatDoor
open Go.Proofs.Tryz
section
open Go.RowKit
namespace Sym
def xu (e : TypeId) (g n : Nat) (xs : List Value) (b : Nat) (o : Option Obj) : Prop := b = g /\ ∃ cur fz, o = some (.cells cur e fz) /\ n <= fz.1 /\ n <= cur.size /\ cur.toList.take n = xs /\ xs.length = n
theorem xu.cell {e : TypeId} {g n : Nat} {xs : List Value} {b : Nat} {w : World} (h : xu e g n xs b w.heap[b]?) : ∀ j u, xs[j]? = some u -> w.cell? ((⟨g, 0, none⟩ : Addr).add j) = some u := by
 intro j u hu
 obtain ⟨rfl, cur, fz, ho, -, hn, ht, hl⟩ := h
 have hadd : (⟨b, 0, none⟩ : Addr).add j = ⟨b, j, none⟩ := by unfold Addr.add; split <;> simp_all
 rw [hadd]
 rw [<- ht, List.getElem?_take] at hu
 split at hu
 ·simp [World.cell?, ho]; simpa using hu
 ·cases hu
theorem JO (P : Program) (g p : Nat) (t : TypeId) (fz : Nat × Nat) (v : Value) (cur : Array Value) (w : World) (hg : w.heap[g]? = some (.cells cur t fz)) (hf : p < fz.1) (hp : p < cur.size) (h1 : v.oneCell' = true) :
  (storeCells ⟨g, p, none⟩ [v] 0).run P w = .ok () (w.setRow g (cur.setIfInBounds p v)) := by
 have hadd : (⟨g, p, none⟩ : Addr).add 0 = ⟨g, p, none⟩ := by unfold Addr.add; split <;> simp_all
 have hcell : w.cell? ⟨g, p, none⟩ = some cur[p] := by simp [World.cell?, hg, hp]
 have hfro : w.frozen? ⟨g, p, none⟩ = false := by
  obtain ⟨lo, hi'⟩ := fz
  simp only [World.frozen?, hg, Bool.and_eq_false_iff, decide_eq_false_iff_not]
  left
  simp only at hf
  omega
 have hst : (store (⟨g, p, none⟩ : Addr) v).run P w = .ok () (w.setRow g (cur.setIfInBounds p v)) := by
  rw [run_store P w _ v _ h1, hcell]
  simp [hfro, setCell_eq_setRow w g p cur t fz v hg]
 simp only [storeCells, hadd, Sem.run_bind, hst, Result.andThen_ok]
 rfl
theorem Sat.Tt {base : Nat} {w0 : Base} {β : Nat -> Nat} {a : Act} {w : World} {i : Nat} {Φ Φ' : Nat -> Option Obj -> Prop} {t : TypeId} {cs' : Array Value} {cs : Array Value} {fz : Nat × Nat} {fr : List (Nat × SV)} {rows : List (Nat × Bool × aV)} {nx n : Nat} (hs : Sat base w0 ⟨fr, rows, nx, n⟩ β a w) (hi : get rows i = some (true, .aK Φ)) (hr : w.heap[β i]? = some (.cells cs t fz))
  (hΦ : Φ' (β i) (some (.cells cs' t fz))) :
  Sat base w0 ⟨fr, (i, true, .aK Φ') :: rows, nx, n⟩ β a (w.setRow (β i) cs') := by
 obtain ⟨h1, h2, h3, h4⟩ := hs
 obtain ⟨k1, k2, k3, k4⟩ := h4.row i true _ hi
 have k3 : i < nx := k3
 have k4 := k4 rfl
 refine ⟨h1, h2, h3, ?_⟩
 refine ⟨h4.below.trans ⟨rfl, rfl, rfl, by rw [setRow_size]; exact Nat.le_refl _, fun k hk => setRow_other _ (by omega)⟩, by rw [setRow_size]; exact h4.aU, fun j ow r hj => ?_, fun j hj => by rw [setRow_size]; exact h4.lt j hj, fun j l r ol rl hj hl hlj => ?_, h4.n0, h4.ext⟩
 ·rw [aQ] at hj
  by_cases e : i = j
  ·rw [if_pos e] at hj
   cases hj
   subst e
   refine ⟨⟨by rw [setRow_size]; exact k1.1, ?_⟩, trivial, k3, fun _ => k4⟩
   have : (w.setRow (β i) cs').heap[β i]? = some (.cells cs' t fz) := setRow_heap w _ _ _ _ _ hr
   rw [this]; exact hΦ
  ·rw [if_neg e] at hj
   obtain ⟨m1, m2, m3, m4⟩ := h4.row j ow r hj
   have m3 : j < nx := m3
   have hne : β j ≠ β i := h4.inj i j _ ow r hi hj (fun e' => e e'.symm)
   refine ⟨?_, m2, m3, m4⟩
   cases r with
   | cells t2 c2 =>
     simp only [gU] at m1 ⊢
     unfold Row at m1 ⊢
     rw [setRow_other _ hne]; exact m1
   | aK Φ =>
     obtain ⟨q1, q2⟩ := m1
     exact ⟨by rw [setRow_size]; exact q1, by rw [setRow_other _ hne]; exact q2⟩
 ·have hj' : ∃ r0, get rows j = some (true, r0) := by
   rw [aQ] at hj
   by_cases e : i = j
   ·subst e; exact ⟨_, hi⟩
   ·rw [if_neg e] at hj; exact ⟨_, hj⟩
  have hl' : ∃ o0 r0, get rows l = some (o0, r0) := by
   rw [aQ] at hl
   by_cases e : i = l
   ·subst e; exact ⟨_, _, hi⟩
   ·rw [if_neg e] at hl; exact ⟨_, _, hl⟩
  obtain ⟨r0, hj'⟩ := hj'
  obtain ⟨o1, r1, hl'⟩ := hl'
  exact h4.inj j l r0 o1 r1 hj' hl' hlj
theorem Lp {C : Ctx} (hE : dL C.P C.E) {ty : TypeId} {pos : String} {after : Array Edge} {gd : Option (Nat × Bool)} {fr : List (Nat × SV)} {rows : List (Nat × Bool × aV)} {nx n : Nat} {K : St -> Prop}
  {t e : TypeId} {x y : Operand} (i : Nat) {p g m : Nat} {xs : List Value} {v : SV} {u : Value} {kd : TK} {ag : Bool} {z : List SV}
  (hx : ev fr x = some (.any (.pointer (some ((⟨g, 0, none⟩ : Addr).add p))))) (hy : ev fr y = some v) (hc : gV v = some [v]) (ho : v.one = true) (hu : ∀ β, v.den β = u) (ht : get C.E t = some ⟨kd, 1, ag, z⟩)
  (ri : get rows i = some (true, .aK (xu e g m xs))) (hp : p < m)
  (h : K ⟨fr, (i, true, .aK (xu e g m (xs.set p u))) :: rows, nx, n⟩) : sZ C ⟨none, .store t x y, ty, pos, after, gd⟩ ⟨fr, rows, nx, n⟩ K := by
 unfold sZ
 intro β a w hs next Q hn
 have ht' := iy hE ht
 obtain ⟨ex, _⟩ := bC hs hx
 obtain ⟨ey, oy⟩ := bC hs hy
 obtain ⟨ec, oc⟩ := iU (β := β) hc oy
 have hm := hs.mem
 obtain ⟨k1, k2, k3, k4⟩ := hm.row i true _ ri
 obtain ⟨q0, cur, fz, q1, q2, q3, q4, q5⟩ := k1.2
 have hrow : w.heap[g]? = some (.cells cur e fz) := by rw [<- q0]; exact q1
 have h1 : u.oneCell' = true := by
  have := (jP (β := β) (n := nx) (vs := [v]) (by simp [jY, ho]) ⟨oy, trivial⟩) u (by simp [SV.aF, hu])
  exact this
 have hst := JO C.P g p e fz u cur w hrow (by omega) (by omega) h1
 have hst2 : (storeVar t ⟨g, p, none⟩ (v.den β)).run C.P w = .ok () (w.setRow g (cur.setIfInBounds p u)) := by
  simp only [storeVar, Sem.run_bind, ht'.size, Result.andThen_ok, ec]
  rw [if_neg (by simp [SV.aF])]
  simp only [SV.aF, hu]
  exact hst
 rw [uK] at ex
 simp only [SV.den, Nat.zero_add] at ex
 unfold Oper.wp
 have : (execOp a.eval ⟨none, .store t x y, ty, pos, after, gd⟩).run C.P w = .ok .skip (w.setRow g (cur.setIfInBounds p u)) := by
  simp [execOp, Instr.storeAt, ex, ey, Instr.sureAddr, hst2]
 rw [this]
 show next (a.put none undef) _
 have hs2 := hs.Tt (Φ' := xu e g m (xs.set p u)) (cs' := cur.setIfInBounds p u) ri q1 ⟨q0, _, _, rfl, q2, by simpa using q3, by rw [Array.toList_setIfInBounds, <- q4, List.take_set], by simpa using q5⟩
 rw [q0] at hs2
 exact hn _ _ _ _ h hs2
theorem TU {C : Ctx} {G : eU} {x : Operand} {t e : TypeId} {g m p : Nat} {xs : List Value} (i : Nat) (v : SV) (hag : ∀ w, (isAgg t).run C.P w = .ok false w) (ri : G i = some (xu e g m xs)) (hv : ∀ β, xs[p]? = some (v.den β)) :
  dH C G (.load t x) [.any (.pointer (some ((⟨g, 0, none⟩ : Addr).add p)))] v := by
 unfold dH
 intro ρ β w dst ty pos after gd _ hG h
 have e1 : ρ x = .pointer (some ((⟨g, 0, none⟩ : Addr).add p)) := by simpa [jg, SV.aF, SV.den] using h
 obtain ⟨hb, ho⟩ := hG i _ ri
 have hc := xu.cell ho p _ (hv β)
 simp [execOp, Instr.loadAt, Instr.sureAddr, e1, loadVar, hag, hc]
theorem GM {C : Ctx} {G : eU} {x : Operand} {t u e e' : TypeId} {g cap n m : Nat} (i : Nat) (l : List UInt8) (hs : C.P.underlying t = some (.slice e)) (he : C.P.underlying e = some (.int .u8)) (hd : C.P.underlying u = some .string)
  (ri : G i = some (xu e' g m (dJ l))) (hn : n = l.length) : dH C G (.convert t u x) [.any (.slice (some ⟨g, 0, none⟩) n cap)] (.str l) := by
 unfold dH
 intro ρ β w dst ty pos after gd _ hG h
 have e1 : ρ x = .slice (some ⟨g, 0, none⟩) n cap := by simpa [jg, SV.aF, SV.den] using h
 obtain ⟨hb, ho⟩ := hG i _ ri
 have hc := xu.cell ho
 subst hn
 have hr := run_convert_bytes_back (P := C.P) w t u e ⟨g, 0, none⟩ cap l hs he hd (fun j hj => hc j _ (by simp [dJ, hj]))
 simp [execOp, e1, hr, SV.den, ah]
theorem Jc {C : Ctx} {d : Nat} {ty : TypeId} {pos : String} {after : Array Edge} {gd : Option (Nat × Bool)} {fr : List (Nat × SV)} {rows : List (Nat × Bool × aV)} {nx n : Nat} {K : St -> Prop}
  {x : Operand} {src dst e : TypeId} (l : List UInt8) (hd : Nat.blt d n = true) (hx : ev fr x = some (.str l))
  (hs0 : C.P.underlying src = some .string) (hd0 : C.P.underlying dst = some (.slice e)) (he : C.P.underlying e = some (.int .u8))
  (h : ∀ g cap, K ⟨(d, .any (.slice (some ⟨g, 0, none⟩) l.length cap)) :: fr, (nx, true, .aK (xu e g l.length (dJ l))) :: rows, nx + 1, n⟩) :
  sZ C ⟨some d, .convert src dst x, ty, pos, after, gd⟩ ⟨fr, rows, nx, n⟩ K := by
 unfold sZ
 intro β a w hs next Q hn
 have e1 := (bC hs hx).1
 have hlen : (ah l).size = l.length := bW l
 have hr := Lib.run_convert_string_bytes (P := C.P) w src dst e (ah l) hs0 hd0 he
 rw [hlen] at hr
 unfold Oper.wp
 have hrun : (execOp a.eval ⟨some d, .convert src dst x, ty, pos, after, gd⟩).run C.P w = .ok (.value (.slice (some ⟨w.heap.size, 0, none⟩) l.length (grownCap w l.length 0 e))) (Lib.bytesWorld w e (ah l)) := by
  simp only [execOp, e1, SV.den, Sem.run_bind, hr]; simp
 rw [hrun]
 have hm := hs.mem
 have hb : BW w (Lib.bytesWorld w e (ah l)) := Go.Joins.below_bytesWorld w.heap.size w e _ (Nat.le_refl _)
 have hs' : Sat C.base C.w0 ⟨fr, rows, nx, n⟩ β a (Lib.bytesWorld w e (ah l)) := ⟨hs.defers, hs.size, hs.slot, hm.fG hb⟩
 have hlc : l.length <= (Lib.bytesCells w e (ah l)).size := by
  unfold Lib.bytesCells; simp [ah]
 have htk : (Lib.bytesCells w e (ah l)).toList.take l.length = dJ l := by
  unfold Lib.bytesCells
  rw [Array.toList_append, List.take_append_of_le_length (by simp [ah])]
  simp only [ah, dJ, Array.toList_map, List.toArray, List.map_map]
  exact List.take_of_length_le (by simp)
 have hown : xu e w.heap.size l.length (dJ l) w.heap.size (Lib.bytesWorld w e (ah l)).heap[w.heap.size]? := ⟨rfl, _, _, Lib.bytesWorld_at_new w e (ah l), hlc, hlc, htk, by simp [dJ]⟩
 have hs2 := hs'.learn (o := true) (b := w.heap.size) (Φ := xu e w.heap.size l.length (dJ l)) (by rw [Lib.bytesWorld_size]; exact Nat.lt_succ_self _) hown (fun _ => ⟨hm.aU, fun i o' r hi => by have := hm.lt i (hm.row i o' r hi).2.2.1; omega⟩) (fun i r hi => by have := hm.lt i (hm.row i true r hi).2.2.1; omega)
 have hs3 := hs2.put (d := d) (by simpa [Nat.blt_eq] using hd) (v := .any (.slice (some ⟨w.heap.size, 0, none⟩) l.length (grownCap w l.length 0 e))) rfl
 exact hn _ _ _ _ (h w.heap.size _) hs3
end Sym
end
section
open Go.RowKit
open Sym
attribute [local irreducible] Calls Sym.bM ae.nd ae.bu ae.upd ae.ak ae.ay
theorem af.wF (s : List UInt8) : (af.low s).length = s.length := by simp [af.low]
theorem af.I7 (c : UInt8) : (af.zW c).toNat = if 65 <= c.toNat /\ c.toNat <= 90 then c.toNat + 32 else c.toNat := by
 unfold af.zW
 have h1 : (65 <= c /\ c <= 90) ↔ (65 <= c.toNat /\ c.toNat <= 90) := by rw [UInt8.le_iff_toNat_le, UInt8.le_iff_toNat_le]; rfl
 by_cases h : 65 <= c.toNat /\ c.toNat <= 90
 ·rw [if_pos (h1.2 h), if_pos h, UInt8.toNat_add]
  have : (32 : UInt8).toNat = 32 := rfl
  omega
 ·rw [if_neg (fun h' => h (h1.1 h')), if_neg h]
def af.rU (s : List UInt8) (i : Nat) : List UInt8 := af.low (s.take i) ++ s.drop i
theorem af.RJ (s : List UInt8) (i : Nat) : (af.rU s i).length = s.length := by
 unfold af.rU; rw [List.length_append, af.wF, List.length_take, List.length_drop]; omega
theorem af.Ve (s : List UInt8) (i : Nat) (h : i < s.length) : (af.rU s i)[i]? = some (s.getD i 0) := by
 unfold af.rU
 rw [List.getElem?_append_right (by rw [af.wF, List.length_take]; omega), af.wF, List.length_take, Nat.min_eq_left (by omega), Nat.sub_self, List.getElem?_drop]
 simp [List.getD, h]
theorem af.OT (s : List UInt8) (i : Nat) (h : i < s.length) : af.rU s (i + 1) = (af.rU s i).set i (af.zW (s.getD i 0)) := by
 unfold af.rU
 have e : s.drop i = s.getD i 0 :: s.drop (i + 1) := by rw [List.drop_eq_getElem_cons h]; simp [List.getD, h]
 rw [e, vF s i h]
 unfold af.low
 rw [List.map_append, List.set_append_right _ _ (by simp; omega)]
 have : i - ((s.take i).map af.zW).length = 0 := by simp; omega
 rw [this]
 simp
theorem Df (s : List UInt8) (w : World) (hs : s.length <= 1000000) : QC 55 #[.string (ah s)] w (.string (ah (af.low s))) := by
 refine yE func55 rfl results55 ntmps55 [100007] [] [.str s] w ?_
 repeat' (first | refine yX ?_ | (apply And.intro <;> intro _) | apply gK | refine jO fun β => ?_ | intro βe | (refine Jc s rfl rfl underlying9 underlying113 underlying5 (fun g cap => ?_)) | refine yO (aJ underlying113) ?_ | exact trivial)
 refine yZ (T := {i : Nat // i <= s.length}) (fun t => ⟨[(3, .any (.slice (some ⟨g, 0, none⟩) s.length cap)), (8, .any (.slice (some ⟨g, 0, none⟩) s.length cap)), (9, .int .i64 (s.length : Nat)), (10, .int .i64 (t.1 : Nat))], [(0, true, .aK (xu 5 g s.length (dJ (af.rU s t.1))))], 1, 30⟩) (fun t => s.length - t.1) ⟨0, Nat.zero_le _⟩ [] [] (fun t I hI => ?_) yW
 obtain ⟨i, hi⟩ := t
 dsimp only
 by_cases hlt : i < s.length
 ·have hat := af.Ve s i hlt
  have hnx := af.OT s i hlt
  have hln := af.I7 (s.getD i 0)
  generalize s.getD i 0 = c at *
  have hv : (dJ (af.rU s i))[i]? = some (.int .u8 (c.toNat : Int)) := by simp [dJ, hat]
  have hset : 65 <= c.toNat /\ c.toNat <= 90 -> (dJ (af.rU s i)).set i (.int .u8 ((c.toNat + 32 : Nat) : Int)) = dJ (af.rU s (i + 1)) := fun h => by
   rw [hnx]
   rw [if_pos h] at hln
   simp [dJ, List.map_set, hln]
  have hkeep : ¬ (65 <= c.toNat /\ c.toNat <= 90) -> dJ (af.rU s i) = dJ (af.rU s (i + 1)) := fun h => by
   rw [hnx]
   rw [if_neg h] at hln
   have : af.zW c = c := UInt8.toNat_inj.1 hln
   rw [this]
   congr 1
   apply List.ext_getElem?
   intro j
   rw [List.getElem?_set]
   split
   ·rename_i hj; subst hj; rw [hat]; simp; rw [af.RJ]; exact hlt
   ·rfl
  have hc := c.toNat_lt
  generalize dJ (af.rU s i) = XS at *
  generalize hYS : dJ (af.rU s (i + 1)) = YS at *
  generalize c.toNat = k at *
  repeat' (first | refine yX ?_ | (apply And.intro <;> intro _) | apply gK | refine jO fun β => ?_ | intro βe | (refine Lp bF 0 (v := .int .u8 ((k : Int) + 32)) (u := .int .u8 ((k + 32 : Nat) : Int)) rfl rfl rfl rfl (fun β => by simp [SV.den]) rfl rfl (by omega) ?_) | refine yN (j := i) underlying113 sizeOf5 ?_ | refine yO (v := .int .u8 (k : Int)) (TU 0 (.int .u8 (k : Int)) (fun w => isAgg5 w) rfl (fun β => by rw [Nat.mul_one]; exact hv)) ?_ | exact trivial)
  all_goals first | (exfalso; omega) | (rw [Nat.mul_one, hset (by omega)]; refine hI _ ⟨i + 1, by omega⟩ (by dsimp only; omega) (by ((with_reducible show wk _ _); repeat' (first | exact trivial | exact au _ | refine eY ?_ | refine eqS ?_ | apply And.intro | exact yV | fail)); all_goals exact fun b x h => by dsimp only; rw [hYS]; exact h); done) | (rw [hkeep (by omega)]; refine hI _ ⟨i + 1, by omega⟩ (by dsimp only; omega) (by ((with_reducible show wk _ _); repeat' (first | exact trivial | exact au _ | refine eY ?_ | refine eqS ?_ | apply And.intro | exact yV | fail)); all_goals exact fun b x h => by dsimp only; rw [hYS]; exact h); done)
 ·have e : af.rU s i = af.low s := by
   unfold af.rU
   rw [List.take_of_length_le (by omega), List.drop_eq_nil_of_le (by omega), List.append_nil]
  rw [e]
  repeat' (first | refine yX ?_ | (apply And.intro <;> intro _) | apply gK | refine jO fun β => ?_ | intro βe | refine yO (GM 0 (af.low s) underlying113 underlying5 underlying9 rfl (af.wF s).symm) ?_ | exact trivial)
  all_goals first | (exfalso; omega) | rfl
end
section
open Go.RowKit
open Sym
attribute [local irreducible] Calls Sym.bM ae.nd ae.bu ae.upd ae.ak ae.ay af.bD
theorem H7 (w : World) : Calls Tryz.prog 11 #[.string (ah [])] w (ql af.Fp w) := by
 refine yE func11 rfl results11 ntmps11 [] [] [.str []] w ?_
 repeat' (first | exact ⟨⟩ | refine yG ?_ ?_ | intro _)
 all_goals first | rfl | (exfalso; contradiction)
section
variable (s : List UInt8) (w : World) (hw : XV w) (hs : s ≠ []) (hl : s.length <= 9223372036854775807)
include hw hs hl
theorem Ou (hT : af.jV s ≠ 0) : Calls Tryz.prog 11 #[.string (ah s)] w (ql (af.eu 2) w) := by
 have T := fun (w' : World) (h : BW w w') => mM s w' (hw.below h) hl
 have F := fun (w' : World) (h : BW w w') => Dc 2 w' (hw.below h)
 rw [if_neg (by omega)] at F
 generalize af.jV s = E at *
 refine yE func11 rfl results11 ntmps11 [] [] [.str s] w ?_
 repeat' (first | exact ⟨⟩ | refine yG ?_ ?_ | refine yB (.int .i64 E) (fun _ => T) ?_ | refine yB (.agg [.int .i64 4, .str [], .str [], .str [], .lit false, .int .i64 2, .int .i64 0, .int .i64 0, .any (.slice none 0 0)]) (fun _ => F) ?_ | intro _)
 all_goals first | rfl | (exfalso; contradiction) | (exfalso; omega)
variable (hT : af.jV s = 0)
include hT
theorem H8 (r : List UInt8) (hr : s = 39 :: r) : Calls Tryz.prog 11 #[.string (ah s)] w (ql (af.jm r) w) := by
 have T := fun (w' : World) (h : BW w w') => mM s w' (hw.below h) hl
 rw [hT] at T
 have hrl : r.length <= 9223372036854775807 := by rw [hr] at hl; simp at hl; omega
 have Q : ∀ w' : World, QC 54 #[.string (ah s), .string (ah [39])] w' (.tuple #[.string (ah r), .bool true]) := fun w' => by
  refine (Tryz.strings_CutPrefix (ah s) (ah [39]) w').mono ?_
  rintro e w'' ⟨h', rfl⟩
  refine ⟨?_, Below.refl _ _⟩
  rw [h', show (ah s).data.toList = s from rfl, show (ah [39]).data.toList = [39] from rfl, hr]
  simp [Lib.hasPrefix, Lib.trimPrefix, List.isPrefixOf]
  rfl
 have X := fun (w' : World) (h : BW w w') => Dk r w' (hw.below h) hrl
 obtain ⟨V, hV⟩ : ∃ V, af.jm r = V := ⟨_, rfl⟩
 have hi : V.items = [] := by
  rw [<- hV]; unfold af.jm
  split <;> rfl
 rw [hV] at X ⊢
 obtain ⟨k, ⟨n1, n2⟩, tx, on, cd, R, L, its⟩ := V
 obtain rfl : its = [] := hi
 refine yE func11 rfl results11 ntmps11 [] [] [.str s] w ?_
 repeat' (first | exact ⟨⟩ | refine yG ?_ ?_ | refine yB (.int .i64 0) (fun _ => T) ?_ | refine yA (.bg [.str r, .lit true]) (fun _ => Q) ?_ | refine yB (.agg [.int .i64 k, .str n1, .str n2, .str tx, .bool on, .int .i64 cd, .int .i64 R, .int .i64 L, .any (.slice none 0 0)]) (fun _ => X) ?_ | intro _)
 all_goals first | rfl | (exfalso; contradiction) | (exfalso; omega)
variable (hq : s.head? ≠ some 39) (hl2 : s.length <= 1000000)
include hq hl2
theorem KN (h : af.low s = [116, 114, 117, 101] \/ af.low s = [102, 97, 108, 115, 101]) : Calls Tryz.prog 11 #[.string (ah s)] w (ql (af.AP (decide (af.low s = [116, 114, 117, 101]))) w) := by
 have T := fun (w' : World) (h : BW w w') => mM s w' (hw.below h) hl
 rw [hT] at T
 have Q := fun (w' : World) => yf s w' hq
 have L := fun (w' : World) => Df s w' hl2
 have B1 := fun (w' : World) => EM true w'
 have B0 := fun (w' : World) => EM false w'
 generalize af.low s = l at *
 have hne : ¬ ([102, 97, 108, 115, 101] : List UInt8) = [116, 114, 117, 101] := by decide
 rcases h with rfl | rfl
 ·rw [decide_eq_true rfl]
  refine yE func11 rfl results11 ntmps11 [] [] [.str s] w ?_
  repeat' (first | exact ⟨⟩ | refine yG ?_ ?_ | refine yB (.int .i64 0) (fun _ => T) ?_ | refine yA (.bg [.str s, .lit false]) (fun _ => Q) ?_ | refine yA (.str [116, 114, 117, 101]) (fun _ => L) ?_ | refine yA (.agg [.int .i64 3, .str [], .str [], .str [], .lit true, .int .i64 0, .int .i64 0, .int .i64 0, .any (.slice none 0 0)]) (fun _ => B1) ?_ | intro _)
  all_goals first | rfl | (exfalso; contradiction) | (exfalso; omega) | (exfalso; simp_all; done)
 ·rw [decide_eq_false hne]
  refine yE func11 rfl results11 ntmps11 [] [] [.str s] w ?_
  repeat' (first | exact ⟨⟩ | refine yG ?_ ?_ | refine yB (.int .i64 0) (fun _ => T) ?_ | refine yA (.bg [.str s, .lit false]) (fun _ => Q) ?_ | refine yA (.str [102, 97, 108, 115, 101]) (fun _ => L) ?_ | refine yA (.agg [.int .i64 3, .str [], .str [], .str [], .lit false, .int .i64 0, .int .i64 0, .int .i64 0, .any (.slice none 0 0)]) (fun _ => B0) ?_ | intro _)
  all_goals first | rfl | (exfalso; contradiction) | (exfalso; omega) | (exfalso; simp_all; done)
variable (hL1 : af.low s ≠ [116, 114, 117, 101]) (hL2 : af.low s ≠ [102, 97, 108, 115, 101]) (ANS : af.VT) (hX : ∀ i, 1 <= i -> i < 9 -> s = af.bD i -> ANS = af.eu (i : Nat))
 (A1 A2 B1 B2 C1 C2 D1 D2 E1 E2 : List UInt8) (oA oB oC oD oE : Bool)
 (hA : ∀ w', BW w w' -> QC 56 #[.string (ah s)] w' (.tuple #[iI (A1, A2), .bool oA]))
 (nA : oA = true -> ∀ w', BW w w' -> Calls Tryz.prog 19 #[iI (A1, A2)] w' (ql (af.iR (A1, A2)) w'))
 (hB : ∀ w', BW w w' -> QC 57 #[.string (ah s)] w' (.tuple #[iI (B1, B2), .bool oB]))
 (nB : oB = true -> ∀ w', BW w w' -> Calls Tryz.prog 19 #[iI (B1, B2)] w' (ql (af.iR (B1, B2)) w'))
 (hC : ∀ w', BW w w' -> QC 58 #[.string (ah s)] w' (.tuple #[iI (C1, C2), .bool oC]))
 (nC : oC = true -> ∀ w', BW w w' -> Calls Tryz.prog 19 #[iI (C1, C2)] w' (ql (af.iR (C1, C2)) w'))
 (hD : ∀ w', BW w w' -> QC 59 #[.string (ah s)] w' (.tuple #[iI (D1, D2), .bool oD]))
 (nD : oD = true -> ∀ w', BW w w' -> Calls Tryz.prog 19 #[iI (D1, D2)] w' (ql (af.iR (D1, D2)) w'))
 (hE : ∀ w', BW w w' -> QC 60 #[.string (ah s)] w' (.tuple #[iI (E1, E2), .bool oE]))
 (nE : oE = true -> ∀ w', BW w w' -> Calls Tryz.prog 19 #[iI (E1, E2)] w' (ql (af.iR (E1, E2)) w'))
 (aA : (∀ i, 1 <= i -> i < 9 -> s ≠ af.bD i) -> oA = true -> ANS = af.iR (A1, A2))
 (aB : (∀ i, 1 <= i -> i < 9 -> s ≠ af.bD i) -> oA = false -> oB = true -> ANS = af.iR (B1, B2))
 (aC : (∀ i, 1 <= i -> i < 9 -> s ≠ af.bD i) -> oA = false -> oB = false -> oC = true -> ANS = af.iR (C1, C2))
 (aD : (∀ i, 1 <= i -> i < 9 -> s ≠ af.bD i) -> oA = false -> oB = false -> oC = false -> oD = true -> ANS = af.iR (D1, D2))
 (aE : (∀ i, 1 <= i -> i < 9 -> s ≠ af.bD i) -> oA = false -> oB = false -> oC = false -> oD = false -> oE = true -> ANS = af.iR (E1, E2))
 (aZ : (∀ i, 1 <= i -> i < 9 -> s ≠ af.bD i) -> oA = false -> oB = false -> oC = false -> oD = false -> oE = false -> ANS = af.jm s)
include hL1 hL2 hX hA nA aA hB nB aB hC nC aC hD nD aD hE nE aE aZ
theorem KO : Calls Tryz.prog 11 #[.string (ah s)] w (ql ANS w) := by
 have T := fun (w' : World) (h : BW w w') => mM s w' (hw.below h) hl
 have YD : af.jm s = af.BX s := by unfold af.jm; rw [if_pos hT]
 have X := fun (w' : World) (h : BW w w') => Dk s w' (hw.below h) hl
 rw [YD] at X aZ
 rw [hT] at T
 have Q := fun (w' : World) => yf s w' hq
 have LL := fun (w' : World) => Df s w' hl2
 have FV := fun (i : Nat) (h1 : 1 <= i) (h9 : i < 9) (w' : World) (h : BW w w') => Dc (i : Nat) w' (hw.below h)
 have hfc := zq w hw
 have hfg := uT
 generalize af.low s = l at *
 refine yE func11 rfl results11 ntmps11 [] [] [.str s] w ?_
 repeat' (first | exact ⟨⟩ | refine yG ?_ ?_ | refine yB (.int .i64 0) (fun _ => T) ?_ | refine yA (.bg [.str s, .lit false]) (fun _ => Q) ?_ | refine yA (.str l) (fun _ => LL) ?_ | ((with_reducible show ∃ _ : SV, _); first | (refine ⟨.agg qB, ?ok, jL (vs := qB) (fun w => isAgg81 w) (fun w => sizeOf81 w) hfc, ?_⟩; (case ok => exact fun _ _ => Bh _))) | intro _)
 all_goals first | (exfalso; contradiction) | skip
 refine yZ (T := {i : Nat // i <= 9 /\ ∀ j, 1 <= j -> j < i -> s ≠ af.bD j}) (fun t => ⟨[(0, .str s), (2, .ptr 0 0), (38, .agg qB), (39, .int .i64 (t.1 : Nat))], [(0, true, .cells 28 [.int .i64 0, .str [], .str [], .str [], .lit false, .int .i64 0, .int .i64 0, .int .i64 0, .any (.slice none 0 0)])], 1, 69⟩) (fun t => 9 - t.1) ⟨0, Nat.zero_le _, fun j h1 h2 => by omega⟩ [] [] (fun t I hI => ?_)
 obtain ⟨i, hi, hne⟩ := t
 dsimp only
 by_cases hlt : i < 9
 ·have hg := hfg i hlt
  by_cases h0 : i = 0
  ·subst h0
   generalize af.bD 0 = X0 at *
   repeat' (first | exact ⟨⟩ | refine yG ?_ ?_ | ((with_reducible show ∃ _ : SV, _); first | (refine ⟨.str X0, ?ok, bH (j := 0) underlying81 (fun w => sizeOf9 w) (fun w => isAgg9 w) hlt hg, ?_⟩; (case ok => exact fun _ _ => trivial))) | intro _)
   all_goals first | (exfalso; omega) | (refine hI _ ⟨1, by omega, fun j h1 h2 => by omega⟩ (by dsimp only; omega) yW; done)
  ·have ZY := hX i (by omega) hlt
   have hnx : s ≠ af.bD i -> ∀ j, 1 <= j -> j < i + 1 -> s ≠ af.bD j := fun h j h1 h2 => by
    by_cases e : j = i
    ·rw [e]; exact h
    ·exact hne j h1 (by omega)
   have FVi := FV i (by omega) hlt
   rw [if_neg (by omega)] at FVi
   generalize af.bD i = XX at *
   repeat' (first | exact ⟨⟩ | refine yG ?_ ?_ | refine yB (.agg [.int .i64 4, .str [], .str [], .str [], .lit false, .int .i64 (i : Nat), .int .i64 0, .int .i64 0, .any (.slice none 0 0)]) (fun _ => FVi) ?_ | ((with_reducible show ∃ _ : SV, _); first | (refine ⟨.str XX, ?ok, bH (j := i) underlying81 (fun w => sizeOf9 w) (fun w => isAgg9 w) hlt hg, ?_⟩; (case ok => exact fun _ _ => trivial))) | intro _)
   all_goals first | (exfalso; omega) | (rw [ZY (by assumption)]; rfl) | (refine hI _ ⟨i + 1, by omega, hnx (by assumption)⟩ (by dsimp only; omega) yW; done)
 ·have hno : ∀ j, 1 <= j -> j < 9 -> s ≠ af.bD j := fun j h1 h2 => hne j h1 (by omega)
  have e9 : i = 9 := by omega
  subst e9
  clear hX FV hne hI
  replace aZ := aZ hno
  replace aA := aA hno
  replace aB := aB hno
  replace aC := aC hno
  replace aD := aD hno
  replace aE := aE hno
  repeat' (first | exact ⟨⟩ | refine yG ?_ ?_ | ((with_reducible show ∃ _ : SV, _); first | (refine ⟨.agg Ep, ?ok, nP rfl underlying83 (fun w => sizeOf82 w) (fun w => zeroValue83 w) rfl zL, ?_⟩; (case ok => exact fun _ h => h))) | intro _)
  all_goals first | (exfalso; omega) | skip
  refine yZ (T := {i : Nat // i <= 5 /\ (0 < i -> oA = false) /\ (1 < i -> oB = false) /\ (2 < i -> oC = false) /\ (3 < i -> oD = false) /\ (4 < i -> oE = false)}) (fun t => ⟨[(0, .str s), (2, .ptr 0 0), (53, .agg Ep), (54, .int .i64 (t.1 : Nat))], [(0, true, .cells 28 [.int .i64 0, .str [], .str [], .str [], .lit false, .int .i64 0, .int .i64 0, .int .i64 0, .any (.slice none 0 0)])], 1, 69⟩) (fun t => 5 - t.1) ⟨0, by omega, by omega, by omega, by omega, by omega, by omega⟩ [] [] (fun t I hI => ?_)
  obtain ⟨i, hi, z0, z1, z2, z3, z4⟩ := t
  dsimp only
  rcases (by omega : i = 0 \/ i = 1 \/ i = 2 \/ i = 3 \/ i = 4 \/ i = 5) with rfl | rfl | rfl | rfl | rfl | rfl
  ·repeat' (first | exact ⟨⟩ | refine yG ?_ ?_ | refine yB (.bg [.agg [.str A1, .str A2], .bool oA]) (fun _ => hA) ?_ | refine yK (.agg [.int .i64 1, .str A1, .str A2, .str [], .lit false, .int .i64 0, .int .i64 0, .int .i64 0, .any (.slice none 0 0)]) (fun β w hm => nA (by assumption) w hm.below) ?_ | ((with_reducible show ∃ _ : SV, _); first | (refine ⟨.fn 56 [], ?ok, bH (j := 0) underlying83 (fun w => sizeOf82 w) (fun w => isAgg82 w) (by omega) rfl, ?_⟩; (case ok => exact fun _ _ => trivial))) | intro _)
   all_goals first | (exfalso; omega) | (rw [aA  (by assumption)]; rfl) | (refine hI _ ⟨1, by omega, fun _ => by assumption, fun h => by omega, fun h => by omega, fun h => by omega, fun h => by omega⟩ (by dsimp only; omega) yW; done)
  ·repeat' (first | exact ⟨⟩ | refine yG ?_ ?_ | refine yB (.bg [.agg [.str B1, .str B2], .bool oB]) (fun _ => hB) ?_ | refine yK (.agg [.int .i64 1, .str B1, .str B2, .str [], .lit false, .int .i64 0, .int .i64 0, .int .i64 0, .any (.slice none 0 0)]) (fun β w hm => nB (by assumption) w hm.below) ?_ | ((with_reducible show ∃ _ : SV, _); first | (refine ⟨.fn 57 [], ?ok, bH (j := 1) underlying83 (fun w => sizeOf82 w) (fun w => isAgg82 w) (by omega) rfl, ?_⟩; (case ok => exact fun _ _ => trivial))) | intro _)
   all_goals first | (exfalso; omega) | (rw [aB (z0 (by omega)) (by assumption)]; rfl) | (refine hI _ ⟨2, by omega, fun _ => z0 (by omega), fun _ => by assumption, fun h => by omega, fun h => by omega, fun h => by omega⟩ (by dsimp only; omega) yW; done)
  ·repeat' (first | exact ⟨⟩ | refine yG ?_ ?_ | refine yB (.bg [.agg [.str C1, .str C2], .bool oC]) (fun _ => hC) ?_ | refine yK (.agg [.int .i64 1, .str C1, .str C2, .str [], .lit false, .int .i64 0, .int .i64 0, .int .i64 0, .any (.slice none 0 0)]) (fun β w hm => nC (by assumption) w hm.below) ?_ | ((with_reducible show ∃ _ : SV, _); first | (refine ⟨.fn 58 [], ?ok, bH (j := 2) underlying83 (fun w => sizeOf82 w) (fun w => isAgg82 w) (by omega) rfl, ?_⟩; (case ok => exact fun _ _ => trivial))) | intro _)
   all_goals first | (exfalso; omega) | (rw [aC (z0 (by omega)) (z1 (by omega)) (by assumption)]; rfl) | (refine hI _ ⟨3, by omega, fun _ => z0 (by omega), fun _ => z1 (by omega), fun _ => by assumption, fun h => by omega, fun h => by omega⟩ (by dsimp only; omega) yW; done)
  ·repeat' (first | exact ⟨⟩ | refine yG ?_ ?_ | refine yB (.bg [.agg [.str D1, .str D2], .bool oD]) (fun _ => hD) ?_ | refine yK (.agg [.int .i64 1, .str D1, .str D2, .str [], .lit false, .int .i64 0, .int .i64 0, .int .i64 0, .any (.slice none 0 0)]) (fun β w hm => nD (by assumption) w hm.below) ?_ | ((with_reducible show ∃ _ : SV, _); first | (refine ⟨.fn 59 [], ?ok, bH (j := 3) underlying83 (fun w => sizeOf82 w) (fun w => isAgg82 w) (by omega) rfl, ?_⟩; (case ok => exact fun _ _ => trivial))) | intro _)
   all_goals first | (exfalso; omega) | (rw [aD (z0 (by omega)) (z1 (by omega)) (z2 (by omega)) (by assumption)]; rfl) | (refine hI _ ⟨4, by omega, fun _ => z0 (by omega), fun _ => z1 (by omega), fun _ => z2 (by omega), fun _ => by assumption, fun h => by omega⟩ (by dsimp only; omega) yW; done)
  ·repeat' (first | exact ⟨⟩ | refine yG ?_ ?_ | refine yB (.bg [.agg [.str E1, .str E2], .bool oE]) (fun _ => hE) ?_ | refine yK (.agg [.int .i64 1, .str E1, .str E2, .str [], .lit false, .int .i64 0, .int .i64 0, .int .i64 0, .any (.slice none 0 0)]) (fun β w hm => nE (by assumption) w hm.below) ?_ | ((with_reducible show ∃ _ : SV, _); first | (refine ⟨.fn 60 [], ?ok, bH (j := 4) underlying83 (fun w => sizeOf82 w) (fun w => isAgg82 w) (by omega) rfl, ?_⟩; (case ok => exact fun _ _ => trivial))) | intro _)
   all_goals first | (exfalso; omega) | (rw [aE (z0 (by omega)) (z1 (by omega)) (z2 (by omega)) (z3 (by omega)) (by assumption)]; rfl) | (refine hI _ ⟨5, by omega, fun _ => z0 (by omega), fun _ => z1 (by omega), fun _ => z2 (by omega), fun _ => z3 (by omega), fun _ => by assumption⟩ (by dsimp only; omega) yW; done)
  ·repeat' (first | exact ⟨⟩ | refine yG ?_ ?_ | refine yB (.agg [.int .i64 2, .str [], .str [], .str s, .lit false, .int .i64 0, .int .i64 0, .int .i64 0, .any (.slice none 0 0)]) (fun _ => X) ?_ | intro _)
   all_goals first | (exfalso; omega) | (rw [aZ (z0 (by omega)) (z1 (by omega)) (z2 (by omega)) (z3 (by omega)) (z4 (by omega))]; rfl)
end
end
section
open Go.RowKit
open Sym
attribute [local irreducible] Calls Sym.bM ae.nd ae.bu ae.upd ae.ak ae.ay
def ae.yS (x : ae.Num) : Prop := 0 < x.d /\ ae.ay x = 0
namespace af
open ae
theorem BM {s : Str} {x : Num} (h : nT s = some x) : yS x := by
 refine ⟨?_, Lj h⟩
 unfold nT at h
 split at h
 ·cases h
 ·unfold wJ at h
  split at h
  ·cases h
  ·split at h
   ·split at h
    ·cases h; exact ui (vW _)
    ·cases h
   ·cases h; exact vW _
theorem BI {s : Str} {x : Num} (h : uy s = some x) : yS x := by
 unfold uy Dw at h
 split at h
 ·split at h
  ·rename_i hh
   obtain ⟨h1, h2, h3, h4⟩ := hh
   cases h
   exact ⟨Nat.pos_of_ne_zero h4, (xX (kV h1).2.2 (kV h2).2.2 (kV h3).2.2 h4 _).2⟩
  ·cases h
 ·cases h
theorem UK (s : Str) : gX s <= 2958464 := by
 unfold gX
 split
 ·split
  ·exact (Af _ _ _).2
  ·omega
 ·omega
theorem kX {s : Str} {x : Num} (h : jH s = some x) : x.m = false /\ x.d = 1 /\ x.n <= 2958464 := by
 unfold jH at h
 split at h
 ·cases h
  have := UK s
  exact ⟨rfl, rfl, by show (gX s).toNat <= 2958464; omega⟩
 ·cases h
theorem xE {s : Str} {x : Num} (h : jH s = some x) : yS x := by
 obtain ⟨m, n, d⟩ := x
 obtain ⟨h1, h2, h3⟩ := kX h
 dsimp only at h1 h2 h3
 subst h1 h2
 exact ⟨Nat.one_pos, e25 (by omega) (by omega) (by omega)⟩
theorem AV {s : Str} {x : Num} (h : jQ s = some x) : yS x := by
 obtain ⟨m, n, d⟩ := x
 obtain ⟨h1, h2, h3, h4⟩ := mF h
 dsimp only at h1 h2 h3 h4
 exact ⟨h2, e25 (by omega) (by omega) h2⟩
theorem BJ {s : Str} {x : Num} (h : zX s = some x) : yS x := by
 rw [Ah] at h
 split at h
 ·rename_i d z hd hz
  split at h
  ·cases h
   obtain ⟨dm, dn, dd⟩ := d
   obtain ⟨zm, zn, zd⟩ := z
   obtain ⟨d1, d2, d3⟩ := kX hd
   obtain ⟨z1, z2, z3, z4⟩ := mF hz
   dsimp only at *
   subst d1 d2 z1
   have hmul : dn * zd <= 2958464 * 1000000000000000 := Nat.mul_le_mul d3 (by omega)
   have hs : fP ⟨false, dn, 1⟩ ⟨false, zn, zd⟩ = ⟨false, dn * zd + zn * 1, 1 * zd⟩ := if_pos rfl
   rw [hs]
   exact ⟨by show 0 < 1 * zd; omega, e25 (by omega) (by omega) (by omega)⟩
  ·cases h
 ·cases h
theorem BZ (s : Str) : jr s = match nT s with
  | some x => some x
  | none => match uy s with
    | some x => some x
    | none => match jH s with
      | some x => some x
      | none => match jQ s with
        | some x => some x
        | none => zX s := by
 unfold jr jH
 cases nT s with
 | some x => rfl
 | none =>
   cases uy s with
   | some x => rfl
   | none =>
     dsimp only
     by_cases h : 0 < gX s
     ·rw [if_pos h, if_pos h]
     ·rw [if_neg h, if_neg h]; rfl
theorem Pn {s : Str} {x : Num} (h : jr s = some x) : yS x := by
 rw [BZ] at h
 split at h
 ·rename_i y hy; cases h; exact BM hy
 ·split at h
  ·rename_i y hy; cases h; exact BI hy
  ·split at h
   ·rename_i y hy; cases h; exact xE hy
   ·split at h
    ·rename_i y hy; cases h; exact AV hy
    ·exact BJ h
theorem Ic {i : Nat} (h1 : 1 <= i) (h9 : i < 9) : zt (bD i) = i := by
 rcases (by omega : i = 1 \/ i = 2 \/ i = 3 \/ i = 4 \/ i = 5 \/ i = 6 \/ i = 7 \/ i = 8) with rfl | rfl | rfl | rfl | rfl | rfl | rfl | rfl <;> decide
theorem Ie {s : Str} (h : ∀ i, 1 <= i -> i < 9 -> s ≠ bD i) : zt s = 0 := by
 unfold zt
 rw [if_neg (h 1 (by omega) (by omega)), if_neg (h 2 (by omega) (by omega)), if_neg (h 3 (by omega) (by omega)), if_neg (h 4 (by omega) (by omega)), if_neg (h 5 (by omega) (by omega)), if_neg (h 6 (by omega) (by omega)), if_neg (h 7 (by omega) (by omega)), if_neg (h 8 (by omega) (by omega))]
theorem rG {s : Str} (h0 : s ≠ []) (h1 : jV s = 0) (h2 : s.head? ≠ some 39) (h3 : low s ≠ [116, 114, 117, 101]) (h4 : low s ≠ [102, 97, 108, 115, 101]) : bG s = if zt s ≠ 0 then eu (zt s : Nat) else match jr s with
  | some x => iR (ak x)
  | none => BX s := by
 unfold bG
 rw [if_neg h0, if_neg (fun h => h h1), if_neg h2, if_neg (fun h => h.elim h3 h4)]
 rfl
end af
theorem pK {x : ae.Num} {F : ae.Fr} (hg : ae.yS x) (hF : F = ae.ak x) (w : World) (hw : XV w) (l : F.1.length <= 301 /\ F.2.length <= 300) : Calls Tryz.prog 19 #[iI F] w (ql (af.iR F) w) := by
 have := zO F w hw (by omega) (by omega)
 rwa [if_pos (by rw [hF]; exact (ae.qM hg.1 hg.2).1)] at this
theorem MF (s : List UInt8) (w : World) (hw : XV w) (hl : s.length <= 9223372036854775807) : Calls Tryz.prog 11 #[.string (ah s)] w (ql (af.bG s) w) := by
 by_cases h0 : s = []
 ·subst h0; exact H7 w
 by_cases hT : af.jV s = 0
 ·have hlen : s.length <= 32767 := by
   unfold af.jV at hT
   split at hT
   ·omega
   ·omega
  by_cases hq : s.head? = some 39
  ·obtain ⟨r, hr⟩ : ∃ r, s = 39 :: r := by
    cases s with
    | nil => cases hq
    | cons c r => exact ⟨r, by have : c = 39 := by simpa using hq
                               rw [this]⟩
   have hv : af.bG s = af.jm r := by
    unfold af.bG
    rw [if_neg h0, if_neg (fun h => h hT), if_pos hq, hr]
    rfl
   rw [hv]
   exact H8 s w hw h0 hl hT r hr
  ·by_cases hb : af.low s = [116, 114, 117, 101] \/ af.low s = [102, 97, 108, 115, 101]
   ·have hv : af.bG s = af.AP (decide (af.low s = [116, 114, 117, 101])) := by
     unfold af.bG
     rw [if_neg h0, if_neg (fun h => h hT), if_neg hq, if_pos hb]
    rw [hv]
    exact KN s w hw h0 hl hT hq (by omega) hb
   ·have hv := af.rG h0 hT hq (fun h => hb (.inl h)) (fun h => hb (.inr h))
    rw [af.BZ] at hv
    obtain ⟨FA, gA, HA⟩ := BN s w hw h0 (by omega)
    obtain ⟨FB, gB, lB, HB⟩ := MG s w hw (by omega)
    obtain ⟨FC, gC, lC, HC⟩ := EO s w hw (by omega)
    obtain ⟨FD, gD, lD, HD⟩ := C9 s w hw (by omega)
    obtain ⟨FE, gE, lE, HE⟩ := GG s w hw (by omega)
    have kA := @af.BM s
    have kB := @af.BI s
    have kC := @af.xE s
    have kD := @af.AV s
    have kE := @af.BJ s
    have YD : af.jm s = af.BX s := by unfold af.jm; rw [if_pos hT]
    have hcode : (∀ i, 1 <= i -> i < 9 -> s ≠ af.bD i) -> af.bG s = match (match af.nT s with
      | some x => some x
      | none => match af.uy s with
        | some x => some x
        | none => match af.jH s with
          | some x => some x
          | none => match af.jQ s with
            | some x => some x
            | none => af.zX s) with
      | some x => af.iR (ae.ak x)
      | none => af.BX s := fun h => by
     rw [hv, if_neg (by rw [af.Ie h]; simp)]
    clear hv
    generalize af.nT s = vA at *
    generalize af.uy s = vB at *
    generalize af.jH s = vC at *
    generalize af.jQ s = vD at *
    generalize af.zX s = vE at *
    refine KO s w hw h0 hl hT hq (by omega) (fun h => hb (.inl h)) (fun h => hb (.inr h)) (af.bG s) (fun i h1 h9 hi => ?_) FA.1 FA.2 FB.1 FB.2 FC.1 FC.2 FD.1 FD.2 FE.1 FE.2 vA.isSome vB.isSome vC.isSome vD.isSome vE.isSome HA ?_ HB ?_ HC ?_ HD ?_ HE ?_ ?_ ?_ ?_ ?_ ?_ ?_
    ·rw [af.rG h0 hT hq (fun h => hb (.inl h)) (fun h => hb (.inr h)), hi, af.Ic h1 h9, if_pos (by omega)]
    ·intro h w' hb'
     obtain ⟨x, rfl⟩ := Option.isSome_iff_exists.1 h
     have e := gA x rfl
     exact pK (kA rfl) e w' (hw.below hb') (by rw [e]; exact ae.dI x)
    ·intro h w' hb'
     obtain ⟨x, rfl⟩ := Option.isSome_iff_exists.1 h
     exact pK (kB rfl) (gB x rfl) w' (hw.below hb') lB
    ·intro h w' hb'
     obtain ⟨x, rfl⟩ := Option.isSome_iff_exists.1 h
     exact pK (kC rfl) (gC x rfl) w' (hw.below hb') lC
    ·intro h w' hb'
     obtain ⟨x, rfl⟩ := Option.isSome_iff_exists.1 h
     exact pK (kD rfl) (gD x rfl) w' (hw.below hb') lD
    ·intro h w' hb'
     obtain ⟨x, rfl⟩ := Option.isSome_iff_exists.1 h
     exact pK (kE rfl) (gE x rfl) w' (hw.below hb') lE
    ·intro hn h
     obtain ⟨x, rfl⟩ := Option.isSome_iff_exists.1 h
     rw [hcode hn]
     show af.iR (ae.ak x) = af.iR FA
     rw [gA x rfl]
    ·intro hn zA h
     obtain ⟨x, rfl⟩ := Option.isSome_iff_exists.1 h
     obtain rfl := Option.not_isSome_iff_eq_none.1 (by rw [zA]; exact Bool.false_ne_true)
     rw [hcode hn]
     show af.iR (ae.ak x) = af.iR FB
     rw [gB x rfl]
    ·intro hn zA zB h
     obtain ⟨x, rfl⟩ := Option.isSome_iff_exists.1 h
     obtain rfl := Option.not_isSome_iff_eq_none.1 (by rw [zA]; exact Bool.false_ne_true)
     obtain rfl := Option.not_isSome_iff_eq_none.1 (by rw [zB]; exact Bool.false_ne_true)
     rw [hcode hn]
     show af.iR (ae.ak x) = af.iR FC
     rw [gC x rfl]
    ·intro hn zA zB zC h
     obtain ⟨x, rfl⟩ := Option.isSome_iff_exists.1 h
     obtain rfl := Option.not_isSome_iff_eq_none.1 (by rw [zA]; exact Bool.false_ne_true)
     obtain rfl := Option.not_isSome_iff_eq_none.1 (by rw [zB]; exact Bool.false_ne_true)
     obtain rfl := Option.not_isSome_iff_eq_none.1 (by rw [zC]; exact Bool.false_ne_true)
     rw [hcode hn]
     show af.iR (ae.ak x) = af.iR FD
     rw [gD x rfl]
    ·intro hn zA zB zC zD h
     obtain ⟨x, rfl⟩ := Option.isSome_iff_exists.1 h
     obtain rfl := Option.not_isSome_iff_eq_none.1 (by rw [zA]; exact Bool.false_ne_true)
     obtain rfl := Option.not_isSome_iff_eq_none.1 (by rw [zB]; exact Bool.false_ne_true)
     obtain rfl := Option.not_isSome_iff_eq_none.1 (by rw [zC]; exact Bool.false_ne_true)
     obtain rfl := Option.not_isSome_iff_eq_none.1 (by rw [zD]; exact Bool.false_ne_true)
     rw [hcode hn]
     show af.iR (ae.ak x) = af.iR FE
     rw [gE x rfl]
    ·intro hn zA zB zC zD zE
     obtain rfl := Option.not_isSome_iff_eq_none.1 (by rw [zA]; exact Bool.false_ne_true)
     obtain rfl := Option.not_isSome_iff_eq_none.1 (by rw [zB]; exact Bool.false_ne_true)
     obtain rfl := Option.not_isSome_iff_eq_none.1 (by rw [zC]; exact Bool.false_ne_true)
     obtain rfl := Option.not_isSome_iff_eq_none.1 (by rw [zD]; exact Bool.false_ne_true)
     obtain rfl := Option.not_isSome_iff_eq_none.1 (by rw [zE]; exact Bool.false_ne_true)
     rw [hcode hn, YD]
 ·have hv : af.bG s = af.eu 2 := by
   unfold af.bG
   rw [if_neg h0, if_pos hT]
  rw [hv]
  exact Ou s w hw h0 hl hT
end
section
open Go.RowKit
open Sym
theorem V6 : (Tryz.prog.info? 9).map (fun i => (i.zero, i.size, i.bytes)) = some (some (.string ByteArray.empty), 1, 16) := by kernel_rfl
structure WL where
 i : Nat
 f : Nat
 n : Nat
 g : Nat
 cap : Nat
 P : List (List UInt8)
def Ug (s : List UInt8) (c : Int) (t : WL) : St := match t.n with
 | 0 => ⟨[(0, .str s), (1, .int .u8 c), (5, .any (.slice none 0 0)), (6, .int .i64 (t.f : Nat)), (9, .int .i64 (s.length : Nat)), (10, .int .i64 (t.i : Nat))], [], 0, 34⟩
 | n + 1 => ⟨[(0, .str s), (1, .int .u8 c), (5, .any (.slice (some ⟨t.g, 0, none⟩) (n + 1) t.cap)), (6, .int .i64 (t.f : Nat)), (9, .int .i64 (s.length : Nat)), (10, .int .i64 (t.i : Nat))], [(1, true, .aK (dN 9 1 t.g (n + 1) t.cap (bP t.P)))], 2, 34⟩
structure Qk (s : List UInt8) (c : UInt8) (t : WL) : Prop where
 hi : t.i <= s.length
 hf : t.f <= t.i
 hn : t.P.length = t.n
 hni : t.n <= t.i
 no : c ∉ (s.take t.i).drop t.f
 eq : af.aN c s = t.P ++ af.aN c (s.drop t.f)
theorem Qk.piece {s : List UInt8} {c : UInt8} {t : WL} (h : Qk s c t) (hlt : t.i < s.length) : s.drop t.f = (s.take t.i).drop t.f ++ s.getD t.i 0 :: s.drop (t.i + 1) := by
 have h1 : s = s.take t.i ++ s.drop t.i := (List.take_append_drop _ _).symm
 have h2 : s.drop t.i = s.getD t.i 0 :: s.drop (t.i + 1) := by rw [List.drop_eq_getElem_cons hlt]; simp [List.getD, hlt]
 rw [h2] at h1
 conv => lhs; rw [h1]
 rw [List.drop_append_of_le_length (by have := h.hf; rw [List.length_take]; omega)]
theorem Qk.hit {s : List UInt8} {c : UInt8} {t : WL} (h : Qk s c t) (hlt : t.i < s.length) (hc : s.getD t.i 0 = c) (g cap : Nat) : Qk s c ⟨t.i + 1, t.i + 1, t.n + 1, g, cap, t.P ++ [(s.take t.i).drop t.f]⟩ where
 hi := hlt
 hf := Nat.le_refl _
 hn := by have := h.hn; simp; omega
 hni := by have := h.hni; dsimp only; omega
 no := by
  dsimp only
  rw [List.drop_eq_nil_of_le (by rw [List.length_take]; omega)]
  simp
 eq := by
  have h1 := h.eq
  rw [h.piece hlt, hc, af.nN _ h.no] at h1
  rw [h1]
  simp
theorem Qk.miss {s : List UInt8} {c : UInt8} {t : WL} (h : Qk s c t) (hlt : t.i < s.length) (hc : s.getD t.i 0 ≠ c) : Qk s c ⟨t.i + 1, t.f, t.n, t.g, t.cap, t.P⟩ where
 hi := hlt
 hf := by have := h.hf; dsimp only; omega
 hn := h.hn
 hni := by have := h.hni; dsimp only; omega
 no := by
  dsimp only
  have e : (s.take (t.i + 1)).drop t.f = (s.take t.i).drop t.f ++ [s.getD t.i 0] := by
   rw [vF s t.i hlt, List.drop_append_of_le_length (by have := h.hf; rw [List.length_take]; omega)]
  rw [e]
  simp only [List.mem_append, List.mem_singleton, not_or]
  exact ⟨h.no, fun e => hc e.symm⟩
 eq := h.eq
theorem Qk.last {s : List UInt8} {c : UInt8} {t : WL} (h : Qk s c t) (hi : t.i = s.length) : af.aN c s = t.P ++ [s.drop t.f] := by
 have h1 := h.no
 rw [hi, List.take_of_length_le (Nat.le_refl _)] at h1
 rw [h.eq, af.fC h1]
theorem EF (P : List (List UInt8)) (x : List UInt8) : bP P ++ [Value.string (ah x)] = bP (P ++ [x]) := by simp [bP]
section
attribute [local irreducible] Calls Sym.bM ae.nd ae.bu ae.upd ae.ak ae.ay
theorem kJ (c : UInt8) (s : List UInt8) (w : World) (hs : s.length <= 1000000) : Calls Tryz.prog 126 #[.string (ah s), .int .u8 (c.toNat : Int)] w fun e w' => BW w w' /\ ∃ t : Nat × Nat, e = .returned (.slice (some ⟨t.1, 0, none⟩) (af.aN c s).length t.2) /\ ∀ q ∈ [((some ⟨t.1, 0, none⟩ : Option Addr), bP (af.aN c s))], aS q.1 q.2 w' /\ bz q.1 q.2 w := by
 obtain ⟨i0, hi, hz0, hz1, hz2⟩ := info_parts V6
 have hu := underlying121
 have hsz := fun w => sizeOf9 w
 have hzv := fun w => zeroValue9 w
 have hcb := c.toNat_lt
 refine yE func126 rfl results126 ntmps126 [] [] [.str s, .int .u8 (c.toNat : Int)] w ?_
 repeat' (first | exact ⟨⟩ | refine yG ?_ ?_ | intro _)
 refine loop bF rfl (T := {t : WL // Qk s c t}) (fun t => Ug s (c.toNat : Int) t.1) (fun t => s.length - t.1.i) ⟨⟨0, 0, 0, 0, 0, []⟩, ⟨Nat.zero_le _, Nat.le_refl _, rfl, Nat.le_refl _, by simp, by simp⟩⟩ 1000 [] [] (fun t => by exact Nat.zero_le _) (by dsimp only [Ug]; ((with_reducible show wk _ _); repeat' (first | exact trivial | exact au _ | refine eY ?_ | refine eqS ?_ | apply And.intro | exact yV | fail))) (fun t I hI => ?_)
 obtain ⟨⟨i, f, n, g, cap, P⟩, hA⟩ := t
 have b1 : i <= s.length := hA.hi
 have b2 : f <= i := hA.hf
 have b3 : P.length = n := hA.hn
 have b4 : n <= i := hA.hni
 dsimp only at hI ⊢
 have one1 : ∀ x : List UInt8, ∀ u ∈ [Value.string (ah x)], u.oneCell' = true := fun x u hu => by rw [List.mem_singleton.1 hu]; rfl
 by_cases hlt : i < s.length
 ·have hH := hA.hit hlt
  have hM := hA.miss hlt
  dsimp only at hH hM
  have hq := (s.getD i 0).toNat_lt
  have YH : ((s.getD i 0).toNat : Int) = (c.toNat : Int) -> s.getD i 0 = c := fun h => UInt8.toNat_inj.1 (by omega)
  have YK : ¬ ((s.getD i 0).toNat : Int) = (c.toNat : Int) -> s.getD i 0 ≠ c := fun h e => h (by rw [e])
  clear hA
  cases n with
  | zero =>
    obtain rfl : P = [] := List.length_eq_zero_iff.1 b3
    dsimp only [Ug]
    repeat' (first | exact ⟨⟩ | refine yG ?_ ?_ | (refine aI (sz := 1) rfl rfl rfl (xs := [Value.string (ah ((s.take i).drop f))]) (fun β => rfl) rfl (by omega) (by omega) hu hsz hzv (fun g1 => ?_)) | (refine iK (sz := 1) 0 rfl hu hi hz0 hz1 rfl (by omega) rfl rfl rfl (by unfold maxLen; omega) (by rw [hz2]; omega) (one1 _) (by omega) (fun g2 cap2 => ?_)) | ((with_reducible show ∃ _, _); first | (refine ⟨i, rfl, by omega, ?_⟩) | (refine ⟨f, i, rfl, rfl, by omega, by omega, ?_⟩)) | intro _)
    all_goals first | (exfalso; omega) | (refine hI _ ⟨⟨i + 1, i + 1, 0 + 1, g2, cap2, [] ++ [(s.take i).drop f]⟩, hH (YH (by assumption)) g2 cap2⟩ (by dsimp only; omega) (by dsimp only [Ug]; ((with_reducible show wk _ _); repeat' (first | exact trivial | exact au _ | refine eY ?_ | refine eqS ?_ | apply And.intro | exact yV | fail)); all_goals (exact fun b x h => h)); done) | (refine hI _ ⟨⟨i + 1, f, 0, g, cap, []⟩, hM (YK (by assumption))⟩ (by dsimp only; omega) (by dsimp only [Ug]; ((with_reducible show wk _ _); repeat' (first | exact trivial | exact au _ | refine eY ?_ | refine eqS ?_ | apply And.intro | exact yV | fail)); all_goals (exact fun b x h => h)); done)
  | succ n =>
    dsimp only [Ug]
    repeat' (first | exact ⟨⟩ | refine yG ?_ ?_ | (refine aI (sz := 1) rfl rfl rfl (xs := [Value.string (ah ((s.take i).drop f))]) (fun β => rfl) rfl (by omega) (by omega) hu hsz hzv (fun g1 => ?_)) | (refine fO (sz := 1) 1 2 rfl hu hi hz0 hz1 rfl (by omega) rfl rfl rfl rfl (by unfold maxLen; omega) (by rw [hz2]; omega) (one1 _) (by kernel_rfl) (Nat.zero_le _) (fun g2 cap2 => ?_)) | ((with_reducible show ∃ _, _); first | (refine ⟨i, rfl, by omega, ?_⟩) | (refine ⟨f, i, rfl, rfl, by omega, by omega, ?_⟩)) | intro _)
    all_goals first | (exfalso; omega) | (refine hI _ ⟨⟨i + 1, i + 1, n + 1 + 1, g2, cap2, P ++ [(s.take i).drop f]⟩, hH (YH (by assumption)) g2 cap2⟩ (by dsimp only; omega) (by dsimp only [Ug]; rw [<- EF]; ((with_reducible show wk _ _); repeat' (first | exact trivial | exact au _ | refine eY ?_ | refine eqS ?_ | apply And.intro | exact yV | fail)); all_goals (exact fun b x h => h)); done) | (refine hI _ ⟨⟨i + 1, f, n + 1, g, cap, P⟩, hM (YK (by assumption))⟩ (by dsimp only; omega) (by dsimp only [Ug]; ((with_reducible show wk _ _); repeat' (first | exact trivial | exact au _ | refine eY ?_ | refine eqS ?_ | apply And.intro | exact yV | fail)); all_goals (exact fun b x h => h)); done)
 ·have hE := hA.last (by dsimp only; omega)
  dsimp only at hE
  have hL : (af.aN c s).length = n + 1 := by rw [hE, List.length_append, b3]; rfl
  rw [hL]
  rw [hE]
  clear hA hE
  cases n with
  | zero =>
    obtain rfl : P = [] := List.length_eq_zero_iff.1 b3
    dsimp only [Ug]
    repeat' (first | exact ⟨⟩ | refine yG ?_ ?_ | (refine aI (sz := 1) rfl rfl rfl (xs := [Value.string (ah (s.drop f))]) (fun β => rfl) rfl (by omega) (by omega) hu hsz hzv (fun g1 => ?_)) | (refine iK (sz := 1) 0 rfl hu hi hz0 hz1 rfl (by omega) rfl rfl rfl (by unfold maxLen; omega) (by rw [hz2]; omega) (one1 _) (by omega) (fun g2 cap2 => ?_)) | ((with_reducible show ∃ _, _); first | (refine ⟨f, rfl, by omega, ?_⟩)) | intro _)
    all_goals first | (exfalso; omega) | skip
    refine ret fun β w' hm => ?_
    obtain ⟨r1, r2, r3⟩ := NS hm 1 rfl
    exact ⟨hm.below, (g2, cap2), rfl, fun q hq => by
     obtain rfl := List.mem_singleton.1 hq
     exact ⟨r3.V5 r2, fun _ ad e => by cases e; exact r1⟩⟩
  | succ n =>
    dsimp only [Ug]
    repeat' (first | exact ⟨⟩ | refine yG ?_ ?_ | (refine aI (sz := 1) rfl rfl rfl (xs := [Value.string (ah (s.drop f))]) (fun β => rfl) rfl (by omega) (by omega) hu hsz hzv (fun g1 => ?_)) | (refine fO (sz := 1) 1 2 rfl hu hi hz0 hz1 rfl (by omega) rfl rfl rfl rfl (by unfold maxLen; omega) (by rw [hz2]; omega) (one1 _) (by kernel_rfl) (Nat.zero_le _) (fun g2 cap2 => ?_)) | ((with_reducible show ∃ _, _); first | (refine ⟨f, rfl, by omega, ?_⟩)) | intro _)
    all_goals first | (exfalso; omega) | skip
    refine ret fun β w' hm => ?_
    obtain ⟨r1, r2, r3⟩ := NS hm 1 rfl
    rw [EF] at r3
    exact ⟨hm.below, (g2, cap2), rfl, fun q hq => by
     obtain rfl := List.mem_singleton.1 hq
     exact ⟨r3.V5 r2, fun _ ad e => by cases e; exact r1⟩⟩
end
end
end Go.Proofs.YtdkhkfdenlabaaaGreatDoor
