/- A walk that reckons: bytes that a conversion has made, written. Values, the program: small letters for capitals. Values, the program: values compared (begun). Values, the program: texts and numbers compared. Values, the program: values of one kind compared. Values, the reference: values of one kind compared. Values, the reference: values of one kind compared: the walk. -/
import Derived.Test.YtdkhkfdenlabaaaGreatDoorKGI
import Derived.Test.YtdkhkfdenlabaaaGreatDoorKGF
import Derived.Lib.FrozenHead
import Derived.Test.YtdkhkfdenlabaaaGreatDoorKVaW10
import Derived.Test.YtdkhkfdenlabaaaGreatDoorKGU
import Derived.Test.YtdkhkfdenlabaaaGreatDoorKGP
import Derived.Test.YtdkhkfdenlabaaaGreatDoorKGR
set_option linter.unusedSimpArgs false
set_option linter.unusedVariables false
namespace Go.Proofs.YtdkhkfdenlabaaaGreatDoor
open Go.RowKit
namespace Sym
/-- a row of one's own whose frozen mark lies behind all that is known -/
def OwnF (e : TypeId) (g n : Nat) (xs : List Value) (b : Nat) (o : Option Obj) : Prop := b = g ∧ ∃ cur fz, o = some (.cells cur e fz) ∧ n ≤ fz.1 ∧ n ≤ cur.size ∧ cur.toList.take n = xs ∧ xs.length = n
theorem OwnF.cell {e : TypeId} {g n : Nat} {xs : List Value} {b : Nat} {w : World} (h : OwnF e g n xs b w.heap[b]?) : ∀ j u, xs[j]? = some u → w.cell? ((⟨g, 0, none⟩ : Addr).add j) = some u := by
  intro j u hu
  obtain ⟨rfl, cur, fz, ho, -, hn, ht, hl⟩ := h
  have hadd : (⟨b, 0, none⟩ : Addr).add j = ⟨b, j, none⟩ := by unfold Addr.add; split <;> simp_all
  rw [hadd]
  rw [← ht, List.getElem?_take] at hu
  split at hu
  · simp [World.cell?, ho]; simpa using hu
  · cases hu
theorem store_front (P : Program) (g p : Nat) (t : TypeId) (fz : Nat × Nat) (v : Value) (cur : Array Value) (w : World) (hg : w.heap[g]? = some (.cells cur t fz)) (hf : p < fz.1) (hp : p < cur.size) (h1 : v.oneCell' = true) :
    (storeCells ⟨g, p, none⟩ [v] 0).run P w = .ok () (w.setRow g (cur.setIfInBounds p v)) := by
  have hadd : (⟨g, p, none⟩ : Addr).add 0 = ⟨g, p, none⟩ := by unfold Addr.add; split <;> simp_all
  have hcell : w.cell? ⟨g, p, none⟩ = some cur[p] := by simp [World.cell?, hg, hp]
  have hfro : w.frozen? ⟨g, p, none⟩ = false := by
    obtain ⟨lo, hi'⟩ := fz
    simp only [World.frozen?, hg, Bool.and_eq_false_iff, decide_eq_false_iff_not]
    left
    simp only at hf
    omega
  have hst : (store (⟨g, p, none⟩ : Addr) v).run P w = .ok () (w.setRow g (cur.setIfInBounds p v)) := by
    rw [run_store P w _ v _ h1, hcell]
    simp [hfro, setCell_eq_setRow w g p cur t fz v hg]
  simp only [storeCells, hadd, Sem.run_bind, hst, Result.andThen_ok]
  rfl
theorem Sat.setBlobF {base : Nat} {w0 : Base} {β : Nat → Nat} {a : Act} {w : World} {i : Nat} {Φ Φ' : Nat → Option Obj → Prop} {t : TypeId} {cs' : Array Value} {cs : Array Value} {fz : Nat × Nat} {fr : List (Nat × SV)} {rows : List (Nat × Bool × SRow)} {nx n : Nat} (hs : Sat base w0 ⟨fr, rows, nx, n⟩ β a w) (hi : get rows i = some (true, .blob Φ)) (hr : w.heap[β i]? = some (.cells cs t fz))
    (hΦ : Φ' (β i) (some (.cells cs' t fz))) :
    Sat base w0 ⟨fr, (i, true, .blob Φ') :: rows, nx, n⟩ β a (w.setRow (β i) cs') := by
  obtain ⟨h1, h2, h3, h4⟩ := hs
  obtain ⟨k1, k2, k3, k4⟩ := h4.row i true _ hi
  have k3 : i < nx := k3
  have k4 := k4 rfl
  refine ⟨h1, h2, h3, ?_⟩
  refine ⟨h4.below.trans ⟨rfl, rfl, rfl, by rw [setRow_size]; exact Nat.le_refl _, fun k hk => setRow_other _ (by omega)⟩, by rw [setRow_size]; exact h4.base_le, fun j ow r hj => ?_, fun j hj => by rw [setRow_size]; exact h4.lt j hj, fun j l r ol rl hj hl hlj => ?_, h4.n0, h4.ext⟩
  · rw [get_cons] at hj
    by_cases e : i = j
    · rw [if_pos e] at hj
      cases hj
      subst e
      refine ⟨⟨by rw [setRow_size]; exact k1.1, ?_⟩, trivial, k3, fun _ => k4⟩
      have : (w.setRow (β i) cs').heap[β i]? = some (.cells cs' t fz) := setRow_heap w _ _ _ _ _ hr
      rw [this]; exact hΦ
    · rw [if_neg e] at hj
      obtain ⟨m1, m2, m3, m4⟩ := h4.row j ow r hj
      have m3 : j < nx := m3
      have hne : β j ≠ β i := h4.inj i j _ ow r hi hj (fun e' => e e'.symm)
      refine ⟨?_, m2, m3, m4⟩
      cases r with
      | cells t2 c2 =>
        simp only [RowIs] at m1 ⊢
        unfold Row at m1 ⊢
        rw [setRow_other _ hne]; exact m1
      | blob Φ =>
        obtain ⟨q1, q2⟩ := m1
        exact ⟨by rw [setRow_size]; exact q1, by rw [setRow_other _ hne]; exact q2⟩
  · have hj' : ∃ r0, get rows j = some (true, r0) := by
      rw [get_cons] at hj
      by_cases e : i = j
      · subst e; exact ⟨_, hi⟩
      · rw [if_neg e] at hj; exact ⟨_, hj⟩
    have hl' : ∃ o0 r0, get rows l = some (o0, r0) := by
      rw [get_cons] at hl
      by_cases e : i = l
      · subst e; exact ⟨_, _, hi⟩
      · rw [if_neg e] at hl; exact ⟨_, _, hl⟩
    obtain ⟨r0, hj'⟩ := hj'
    obtain ⟨o1, r1, hl'⟩ := hl'
    exact h4.inj j l r0 o1 r1 hj' hl' hlj
theorem opx_storeF {C : Ctx} (hE : EnvOK C.P C.E) {ty : TypeId} {pos : String} {after : Array Edge} {gd : Option (Nat × Bool)} {fr : List (Nat × SV)} {rows : List (Nat × Bool × SRow)} {nx n : Nat} {K : St → Prop}
    {t e : TypeId} {x y : Operand} (i : Nat) {p g m : Nat} {xs : List Value} {v : SV} {u : Value} {kd : TK} {ag : Bool} {z : List SV}
    (hx : ev fr x = some (.any (.pointer (some ((⟨g, 0, none⟩ : Addr).add p))))) (hy : ev fr y = some v) (hc : cellsSV v = some [v]) (ho : v.one = true) (hu : ∀ β, v.den β = u) (ht : get C.E t = some ⟨kd, 1, ag, z⟩)
    (ri : get rows i = some (true, .blob (OwnF e g m xs))) (hp : p < m)
    (h : K ⟨fr, (i, true, .blob (OwnF e g m (xs.set p u))) :: rows, nx, n⟩) : OpX C ⟨none, .store t x y, ty, pos, after, gd⟩ ⟨fr, rows, nx, n⟩ K := by
  unfold OpX
  intro β a w hs next Q hn
  have ht' := env_get hE ht
  obtain ⟨ex, _⟩ := ev_sound hs hx
  obtain ⟨ey, oy⟩ := ev_sound hs hy
  obtain ⟨ec, oc⟩ := cells_sound (β := β) hc oy
  have hm := hs.mem
  obtain ⟨k1, k2, k3, k4⟩ := hm.row i true _ ri
  obtain ⟨q0, cur, fz, q1, q2, q3, q4, q5⟩ := k1.2
  have hrow : w.heap[g]? = some (.cells cur e fz) := by rw [← q0]; exact q1
  have h1 : u.oneCell' = true := by
    have := (allOne_sound (β := β) (n := nx) (vs := [v]) (by simp [allOne, ho]) ⟨oy, trivial⟩) u (by simp [SV.dens, hu])
    exact this
  have hst := store_front C.P g p e fz u cur w hrow (by omega) (by omega) h1
  have hst2 : (storeVar t ⟨g, p, none⟩ (v.den β)).run C.P w = .ok () (w.setRow g (cur.setIfInBounds p u)) := by
    simp only [storeVar, Sem.run_bind, ht'.size, Result.andThen_ok, ec]
    rw [if_neg (by simp [SV.dens])]
    simp only [SV.dens, hu]
    exact hst
  rw [add_at] at ex
  simp only [SV.den, Nat.zero_add] at ex
  unfold Oper.wp
  have : (execOp a.eval ⟨none, .store t x y, ty, pos, after, gd⟩).run C.P w = .ok .skip (w.setRow g (cur.setIfInBounds p u)) := by
    simp [execOp, Instr.storeAt, ex, ey, Instr.sureAddr, hst2]
  rw [this]
  show next (a.put none undef) _
  have hs2 := hs.setBlobF (Φ' := OwnF e g m (xs.set p u)) (cs' := cur.setIfInBounds p u) ri q1 ⟨q0, _, _, rfl, q2, by simpa using q3, by rw [Array.toList_setIfInBounds, ← q4, List.take_set], by simpa using q5⟩
  rw [q0] at hs2
  exact hn _ _ _ _ h hs2
theorem x_loadOF {C : Ctx} {G : Blobs} {x : Operand} {t e : TypeId} {g m p : Nat} {xs : List Value} (i : Nat) (v : SV) (hag : ∀ w, (isAgg t).run C.P w = .ok false w) (ri : G i = some (OwnF e g m xs)) (hv : ∀ β, xs[p]? = some (v.den β)) :
    ExtN C G (.load t x) [.any (.pointer (some ((⟨g, 0, none⟩ : Addr).add p)))] v := by
  unfold ExtN
  intro ρ β w dst ty pos after gd _ hG h
  have e1 : ρ x = .pointer (some ((⟨g, 0, none⟩ : Addr).add p)) := by simpa [opsX, SV.dens, SV.den] using h
  obtain ⟨hb, ho⟩ := hG i _ ri
  have hc := OwnF.cell ho p _ (hv β)
  simp [execOp, Instr.loadAt, Instr.sureAddr, e1, loadVar, hag, hc]
theorem x_bytesStrOF {C : Ctx} {G : Blobs} {x : Operand} {t u e e' : TypeId} {g cap n m : Nat} (i : Nat) (l : List UInt8) (hs : C.P.underlying t = some (.slice e)) (he : C.P.underlying e = some (.int .u8)) (hd : C.P.underlying u = some .string)
    (ri : G i = some (OwnF e' g m (bvals l))) (hn : n = l.length) : ExtN C G (.convert t u x) [.any (.slice (some ⟨g, 0, none⟩) n cap)] (.str l) := by
  unfold ExtN
  intro ρ β w dst ty pos after gd _ hG h
  have e1 : ρ x = .slice (some ⟨g, 0, none⟩) n cap := by simpa [opsX, SV.dens, SV.den] using h
  obtain ⟨hb, ho⟩ := hG i _ ri
  have hc := OwnF.cell ho
  subst hn
  have hr := run_convert_bytes_back (P := C.P) w t u e ⟨g, 0, none⟩ cap l hs he hd (fun j hj => hc j _ (by simp [bvals, hj]))
  simp [execOp, e1, hr, SV.den, bstr]
theorem opx_strOwnF {C : Ctx} {d : Nat} {ty : TypeId} {pos : String} {after : Array Edge} {gd : Option (Nat × Bool)} {fr : List (Nat × SV)} {rows : List (Nat × Bool × SRow)} {nx n : Nat} {K : St → Prop}
    {x : Operand} {src dst e : TypeId} (l : List UInt8) (hd : Nat.blt d n = true) (hx : ev fr x = some (.str l))
    (hs0 : C.P.underlying src = some .string) (hd0 : C.P.underlying dst = some (.slice e)) (he : C.P.underlying e = some (.int .u8))
    (h : ∀ g cap, K ⟨(d, .any (.slice (some ⟨g, 0, none⟩) l.length cap)) :: fr, (nx, true, .blob (OwnF e g l.length (bvals l))) :: rows, nx + 1, n⟩) :
    OpX C ⟨some d, .convert src dst x, ty, pos, after, gd⟩ ⟨fr, rows, nx, n⟩ K := by
  unfold OpX
  intro β a w hs next Q hn
  have e1 := (ev_sound hs hx).1
  have hlen : (bstr l).size = l.length := bstr_size l
  have hr := Lib.run_convert_string_bytes (P := C.P) w src dst e (bstr l) hs0 hd0 he
  rw [hlen] at hr
  unfold Oper.wp
  have hrun : (execOp a.eval ⟨some d, .convert src dst x, ty, pos, after, gd⟩).run C.P w = .ok (.value (.slice (some ⟨w.heap.size, 0, none⟩) l.length (grownCap w l.length 0 e))) (Lib.bytesWorld w e (bstr l)) := by
    simp only [execOp, e1, SV.den, Sem.run_bind, hr]; simp
  rw [hrun]
  have hm := hs.mem
  have hb : Below w.heap.size w (Lib.bytesWorld w e (bstr l)) := Go.Joins.below_bytesWorld w.heap.size w e _ (Nat.le_refl _)
  have hs' : Sat C.base C.w0 ⟨fr, rows, nx, n⟩ β a (Lib.bytesWorld w e (bstr l)) := ⟨hs.defers, hs.size, hs.slot, hm.belowNext hb⟩
  have hlc : l.length ≤ (Lib.bytesCells w e (bstr l)).size := by
    unfold Lib.bytesCells; simp [bstr]
  have htk : (Lib.bytesCells w e (bstr l)).toList.take l.length = bvals l := by
    unfold Lib.bytesCells
    rw [Array.toList_append, List.take_append_of_le_length (by simp [bstr])]
    simp only [bstr, bvals, Array.toList_map, List.toArray, List.map_map]
    exact List.take_of_length_le (by simp)
  have hown : OwnF e w.heap.size l.length (bvals l) w.heap.size (Lib.bytesWorld w e (bstr l)).heap[w.heap.size]? := ⟨rfl, _, _, Lib.bytesWorld_at_new w e (bstr l), hlc, hlc, htk, by simp [bvals]⟩
  have hs2 := hs'.learn (o := true) (b := w.heap.size) (Φ := OwnF e w.heap.size l.length (bvals l)) (by rw [Lib.bytesWorld_size]; exact Nat.lt_succ_self _) hown (fun _ => ⟨hm.base_le, fun i o' r hi => by have := hm.lt i (hm.row i o' r hi).2.2.1; omega⟩) (fun i r hi => by have := hm.lt i (hm.row i true r hi).2.2.1; omega)
  have hs3 := hs2.put (d := d) (by simpa [Nat.blt_eq] using hd) (v := .any (.slice (some ⟨w.heap.size, 0, none⟩) l.length (grownCap w l.length 0 e))) rfl
  exact hn _ _ _ _ (h w.heap.size _) hs3
end Sym
end Go.Proofs.YtdkhkfdenlabaaaGreatDoor
namespace Go.Proofs.YtdkhkfdenlabaaaGreatDoor
open Go.RowKit
open Sym
attribute [local irreducible] Calls Sym.AggEq ExP.nd ExP.dig ExP.upd ExP.writeF ExP.writeE
theorem VaP.low_len (s : List UInt8) : (VaP.low s).length = s.length := by simp [VaP.low]
theorem VaP.lowC_nat (c : UInt8) : (VaP.lowC c).toNat = if 65 ≤ c.toNat ∧ c.toNat ≤ 90 then c.toNat + 32 else c.toNat := by
  unfold VaP.lowC
  have h1 : (65 ≤ c ∧ c ≤ 90) ↔ (65 ≤ c.toNat ∧ c.toNat ≤ 90) := by rw [UInt8.le_iff_toNat_le, UInt8.le_iff_toNat_le]; rfl
  by_cases h : 65 ≤ c.toNat ∧ c.toNat ≤ 90
  · rw [if_pos (h1.2 h), if_pos h, UInt8.toNat_add]
    have : (32 : UInt8).toNat = 32 := rfl
    omega
  · rw [if_neg (fun h' => h (h1.1 h')), if_neg h]
/-- so many letters done -/
def VaP.mixL (s : List UInt8) (i : Nat) : List UInt8 := VaP.low (s.take i) ++ s.drop i
theorem VaP.mixL_len (s : List UInt8) (i : Nat) : (VaP.mixL s i).length = s.length := by
  unfold VaP.mixL; rw [List.length_append, VaP.low_len, List.length_take, List.length_drop]; omega
theorem VaP.mixL_at (s : List UInt8) (i : Nat) (h : i < s.length) : (VaP.mixL s i)[i]? = some (s.getD i 0) := by
  unfold VaP.mixL
  rw [List.getElem?_append_right (by rw [VaP.low_len, List.length_take]; omega), VaP.low_len, List.length_take, Nat.min_eq_left (by omega), Nat.sub_self, List.getElem?_drop]
  simp [List.getD, h]
theorem VaP.mixL_next (s : List UInt8) (i : Nat) (h : i < s.length) : VaP.mixL s (i + 1) = (VaP.mixL s i).set i (VaP.lowC (s.getD i 0)) := by
  unfold VaP.mixL
  have e : s.drop i = s.getD i 0 :: s.drop (i + 1) := by rw [List.drop_eq_getElem_cons h]; simp [List.getD, h]
  rw [e, take_next0 s i h]
  unfold VaP.low
  rw [List.map_append, List.set_append_right _ _ (by simp; omega)]
  have : i - ((s.take i).map VaP.lowC).length = 0 := by simp; omega
  rw [this]
  simp
set_option maxRecDepth 100000 in
set_option maxHeartbeats 4000000 in
theorem vlower_any (s : List UInt8) (w : World) (hs : s.length ≤ 1000000) : Calls Tryz.prog 55 #[.string (bstr s)] w fun e w' => e = .returned (.string (bstr (VaP.low s))) ∧ Below w.heap.size w w' := by
  refine enter env_ok Tryz.func55 rfl Tryz.results55 Tryz.ntmps55 [100007] [] [.str s] (by simp [SV.oks, SV.ok]) (Nat.le_of_ble_eq_true rfl) w _ 1000 ?_
  repeat' (first | ((with_reducible first | show wpS .. | show putD .. | show putW .. | show splitG .. | show wpQ .. | show wpD .. | show wpX .. | show expX .. | show stepX .. | show keepR .. | show wpY ..); conv => whnf) | ((with_reducible show RetN ..); refine retB fun β => ?_) | ((with_reducible show _ ∧ _); first | (refine ⟨fun h => absurd h (by first | omega | decide), fun _ => ?_⟩) | (refine ⟨fun _ => ?_, fun h => absurd h (by first | omega | decide)⟩) | (refine ⟨fun _ => ?_, fun _ => ?_⟩) | (apply And.intro; · kernel_rfl) | (apply And.intro; · (show inK _ _; unfold inK; omega)) | (apply And.intro; · (show (_ : Int) ≤ 9223372036854775807; (try simp only [lenS]); omega))) | ((with_reducible show AllBe ..); refine allBe fun βe => ?_; conv => whnf) | ((with_reducible show bothX ..); refine bothI ?_ ?_; conv => whnf) | (with_reducible exact trivial) | ((with_reducible show CallN ..); refine call_of env_ok rfl 1000 ?_) | ((with_reducible show XopN ..); refine xop_of env_ok rfl 1000 ?_) | ((with_reducible show CallX ..); first | fail) | ((with_reducible show OpX ..); first | (refine opx_strOwnF s rfl rfl Tryz.underlying9 Tryz.underlying113 Tryz.underlying5 (fun g cap => ?_))) | ((with_reducible show ∃ _ : SV, _); first | (refine ⟨_, ?ok, x_len Tryz.underlying113, ?_⟩; (case ok => exact fun _ _ => trivial))) | ((with_reducible show ∃ _, _); first | fail))
  refine loop env_ok rfl (T := {i : Nat // i ≤ s.length}) (fun t => ⟨[(3, .any (.slice (some ⟨g, 0, none⟩) s.length cap)), (8, .any (.slice (some ⟨g, 0, none⟩) s.length cap)), (9, .int .i64 (s.length : Nat)), (10, .int .i64 (t.1 : Nat))], [(0, true, .blob (OwnF 5 g s.length (bvals (VaP.mixL s t.1))))], 1, 30⟩) (fun t => s.length - t.1) ⟨0, Nat.zero_le _⟩ 1000 [] [] (fun _ => Nat.zero_le _) (by ((with_reducible show wk _ _); repeat' (first | exact trivial | exact eqSV_refl _ | (refine eqI ?_) | (refine eqS ?_) | (with_reducible exact rfl) | apply And.intro | exact Nat.zero_lt_one | exact Nat.le_of_ble_eq_true rfl | (with_reducible assumption) | ((show (_ : Int) = _); (try dsimp only); omega) | ((show eqSV _ _); simp [eqSV, isB, bval, *]; done) | rfl)); all_goals exact fun b x h => h) (fun t I hI => ?_)
  obtain ⟨i, hi⟩ := t
  dsimp only
  by_cases hlt : i < s.length
  · have hat := VaP.mixL_at s i hlt
    have hnx := VaP.mixL_next s i hlt
    have hln := VaP.lowC_nat (s.getD i 0)
    generalize s.getD i 0 = c at *
    have hv : (bvals (VaP.mixL s i))[i]? = some (.int .u8 (c.toNat : Int)) := by simp [bvals, hat]
    have hset : 65 ≤ c.toNat ∧ c.toNat ≤ 90 → (bvals (VaP.mixL s i)).set i (.int .u8 ((c.toNat + 32 : Nat) : Int)) = bvals (VaP.mixL s (i + 1)) := fun h => by
      rw [hnx]
      rw [if_pos h] at hln
      simp [bvals, List.map_set, hln]
    have hkeep : ¬ (65 ≤ c.toNat ∧ c.toNat ≤ 90) → bvals (VaP.mixL s i) = bvals (VaP.mixL s (i + 1)) := fun h => by
      rw [hnx]
      rw [if_neg h] at hln
      have : VaP.lowC c = c := UInt8.toNat_inj.1 hln
      rw [this]
      congr 1
      apply List.ext_getElem?
      intro j
      rw [List.getElem?_set]
      split
      · rename_i hj; subst hj; rw [hat]; simp; rw [VaP.mixL_len]; exact hlt
      · rfl
    have hc := c.toNat_lt
    generalize bvals (VaP.mixL s i) = XS at *
    generalize hYS : bvals (VaP.mixL s (i + 1)) = YS at *
    generalize c.toNat = k at *
    repeat' (first | ((with_reducible first | show wpS .. | show putD .. | show putW .. | show splitG .. | show wpQ .. | show wpD .. | show wpX .. | show expX .. | show stepX .. | show keepR .. | show wpY ..); conv => whnf) | ((with_reducible show RetN ..); refine retB fun β => ?_) | ((with_reducible show _ ∧ _); first | (refine ⟨fun h => absurd h (by first | omega | decide), fun _ => ?_⟩) | (refine ⟨fun _ => ?_, fun h => absurd h (by first | omega | decide)⟩) | (refine ⟨fun _ => ?_, fun _ => ?_⟩) | (apply And.intro; · kernel_rfl) | (apply And.intro; · (show inK _ _; unfold inK; omega)) | (apply And.intro; · (show (_ : Int) ≤ 9223372036854775807; (try simp only [lenS]); omega))) | ((with_reducible show AllBe ..); refine allBe fun βe => ?_; conv => whnf) | ((with_reducible show bothX ..); refine bothI ?_ ?_; conv => whnf) | (with_reducible exact trivial) | ((with_reducible show CallN ..); refine call_of env_ok rfl 1000 ?_) | ((with_reducible show XopN ..); refine xop_of env_ok rfl 1000 ?_) | ((with_reducible show CallX ..); first | fail) | ((with_reducible show OpX ..); first | (refine opx_storeF env_ok 0 (v := .int .u8 ((k : Int) + 32)) (u := .int .u8 ((k + 32 : Nat) : Int)) rfl rfl rfl rfl (fun β => by simp [SV.den]) rfl rfl (by omega) ?_)) | ((with_reducible show ∃ _ : SV, _); first | (refine ⟨_, ?ok, x_index (j := i) (by omega) Tryz.underlying113 (fun w => Tryz.sizeOf5 w) (by omega), ?_⟩; (case ok => exact fun _ _ => rfl)) | (refine ⟨.int .u8 (k : Int), fun _ _ => trivial, x_loadOF 0 (.int .u8 (k : Int)) (fun w => Tryz.isAgg5 w) rfl (fun β => by rw [Nat.mul_one]; exact hv), ?_⟩)) | ((with_reducible show ∃ _, _); first | fail))
    all_goals first | (exfalso; omega) | (rw [Nat.mul_one, hset (by omega)]; refine hI _ ⟨i + 1, by omega⟩ (by dsimp only; omega) (by ((with_reducible show wk _ _); repeat' (first | exact trivial | exact eqSV_refl _ | (refine eqI ?_) | (refine eqS ?_) | (with_reducible exact rfl) | apply And.intro | exact Nat.zero_lt_one | exact Nat.le_of_ble_eq_true rfl | (with_reducible assumption) | ((show (_ : Int) = _); (try dsimp only); omega) | ((show eqSV _ _); simp [eqSV, isB, bval, *]; done) | rfl)); all_goals exact fun b x h => by dsimp only; rw [hYS]; exact h); done) | (rw [hkeep (by omega)]; refine hI _ ⟨i + 1, by omega⟩ (by dsimp only; omega) (by ((with_reducible show wk _ _); repeat' (first | exact trivial | exact eqSV_refl _ | (refine eqI ?_) | (refine eqS ?_) | (with_reducible exact rfl) | apply And.intro | exact Nat.zero_lt_one | exact Nat.le_of_ble_eq_true rfl | (with_reducible assumption) | ((show (_ : Int) = _); (try dsimp only); omega) | ((show eqSV _ _); simp [eqSV, isB, bval, *]; done) | rfl)); all_goals exact fun b x h => by dsimp only; rw [hYS]; exact h); done) | trace_state
  · have e : VaP.mixL s i = VaP.low s := by
      unfold VaP.mixL
      rw [List.take_of_length_le (by omega), List.drop_eq_nil_of_le (by omega), List.append_nil]
    rw [e]
    repeat' (first | ((with_reducible first | show wpS .. | show putD .. | show putW .. | show splitG .. | show wpQ .. | show wpD .. | show wpX .. | show expX .. | show stepX .. | show keepR .. | show wpY ..); conv => whnf) | ((with_reducible show RetN ..); refine retB fun β => ?_) | ((with_reducible show _ ∧ _); first | (refine ⟨fun h => absurd h (by first | omega | decide), fun _ => ?_⟩) | (refine ⟨fun _ => ?_, fun h => absurd h (by first | omega | decide)⟩) | (refine ⟨fun _ => ?_, fun _ => ?_⟩) | (apply And.intro; · kernel_rfl) | (apply And.intro; · (show inK _ _; unfold inK; omega)) | (apply And.intro; · (show (_ : Int) ≤ 9223372036854775807; (try simp only [lenS]); omega))) | ((with_reducible show AllBe ..); refine allBe fun βe => ?_; conv => whnf) | ((with_reducible show bothX ..); refine bothI ?_ ?_; conv => whnf) | (with_reducible exact trivial) | ((with_reducible show CallN ..); refine call_of env_ok rfl 1000 ?_) | ((with_reducible show XopN ..); refine xop_of env_ok rfl 1000 ?_) | ((with_reducible show CallX ..); first | fail) | ((with_reducible show OpX ..); first | fail) | ((with_reducible show ∃ _ : SV, _); first | (refine ⟨_, ?ok, x_bytesStrOF 0 (VaP.low s) Tryz.underlying113 Tryz.underlying5 Tryz.underlying9 rfl (VaP.low_len s).symm, ?_⟩; (case ok => exact fun _ _ => trivial))) | ((with_reducible show ∃ _, _); first | fail))
    all_goals first | (exfalso; omega) | rfl | trace_state
end Go.Proofs.YtdkhkfdenlabaaaGreatDoor
namespace Go.Proofs.YtdkhkfdenlabaaaGreatDoor
open Go.RowKit
open Sym
attribute [local irreducible] Calls Sym.AggEq ExP.nd ExP.dig ExP.upd ExP.writeF ExP.writeE
/-- the place of a kind in the order of kinds -/
def VaP.rankP (k : Int) : Int := if k = 1 then 0 else if k = 2 then 1 else if k = 3 then 2 else if k = 4 then 3 else 4
set_option maxRecDepth 100000 in
theorem rank_any (t : VaP.VT) (a : Option Addr) (cap : Nat) (w : World) : Calls Tryz.prog 90 #[vtV t a cap] w fun e w' => e = .returned (.int .i64 (VaP.rankP t.kind)) ∧ Below w.heap.size w w' := by
  obtain ⟨k, ⟨n1, n2⟩, tx, on, cd, rw', cl, its⟩ := t
  unfold vtV VaP.rankP
  dsimp only
  refine enter env_ok Tryz.func90 rfl Tryz.results90 Tryz.ntmps90 [] [] [.agg [.int .i64 k, .str n1, .str n2, .str tx, .bool on, .int .i64 cd, .int .i64 rw', .int .i64 cl, .any (.slice a its.length cap)]] ⟨⟨trivial, trivial, trivial, trivial, trivial, trivial, trivial, trivial, rfl, trivial⟩, trivial⟩ (Nat.le_of_ble_eq_true rfl) w _ 1000 ?_
  repeat' (first | ((with_reducible first | show wpS .. | show putD .. | show putW .. | show splitG .. | show wpQ .. | show wpD .. | show wpX .. | show expX .. | show stepX .. | show keepR .. | show wpY ..); conv => whnf) | ((with_reducible show RetN ..); refine retB fun β => ?_) | ((with_reducible show _ ∧ _); first | (refine ⟨fun h => absurd h (by first | omega | decide), fun _ => ?_⟩) | (refine ⟨fun _ => ?_, fun h => absurd h (by first | omega | decide)⟩) | (refine ⟨fun _ => ?_, fun _ => ?_⟩) | (apply And.intro; · kernel_rfl) | (apply And.intro; · (show inK _ _; unfold inK; omega)) | (apply And.intro; · (show (_ : Int) ≤ 9223372036854775807; (try simp only [lenS]); omega))) | ((with_reducible show AllBe ..); refine allBe fun βe => ?_; conv => whnf) | ((with_reducible show bothX ..); refine bothI ?_ ?_; conv => whnf) | (with_reducible exact trivial) | ((with_reducible show CallN ..); refine call_of env_ok rfl 1000 ?_) | ((with_reducible show XopN ..); refine xop_of env_ok rfl 1000 ?_) | ((with_reducible show CallX ..); first | fail) | ((with_reducible show OpX ..); first | fail) | ((with_reducible show ∃ _ : SV, _); first | fail) | ((with_reducible show ∃ _, _); first | fail))
  all_goals first | (rw [if_pos (by assumption : k = 1)]; rfl) | (rw [if_neg (by assumption : ¬ k = 1), if_pos (by assumption : k = 2)]; rfl) | (rw [if_neg (by assumption : ¬ k = 1), if_neg (by assumption : ¬ k = 2), if_pos (by assumption : k = 3)]; rfl) | (rw [if_neg (by assumption : ¬ k = 1), if_neg (by assumption : ¬ k = 2), if_neg (by assumption : ¬ k = 3), if_pos (by assumption : k = 4)]; rfl) | (rw [if_neg (by assumption : ¬ k = 1), if_neg (by assumption : ¬ k = 2), if_neg (by assumption : ¬ k = 3), if_neg (by assumption : ¬ k = 4)]; rfl) | trace_state
set_option maxRecDepth 100000 in
theorem vwhole_any (n : Int) (w : World) (hw : XV w) (h0 : -9223372036854775808 ≤ n) (h1 : n ≤ 9223372036854775807) : Calls Tryz.prog 25 #[.int .i64 n] w (IsV (VaP.numF (Lib.itoa n, [49])) w) := by
  have O := fun (w' : World) (h : Below w.heap.size w w') => of_any n w' (hw.below h).xw h0 h1
  generalize Lib.itoa n = L at *
  refine enter env_ok Tryz.func25 rfl Tryz.results25 Tryz.ntmps25 [] [] [.int .i64 n] (by simp [SV.oks, SV.ok]) (Nat.le_of_ble_eq_true rfl) w _ 1000 ?_
  repeat' (first | ((with_reducible first | show wpS .. | show putD .. | show putW .. | show splitG .. | show wpQ .. | show wpD .. | show wpX .. | show expX .. | show stepX .. | show keepR .. | show wpY ..); conv => whnf) | ((with_reducible show RetN ..); refine retB fun β => ?_) | ((with_reducible show _ ∧ _); first | (refine ⟨fun h => absurd h (by first | omega | decide), fun _ => ?_⟩) | (refine ⟨fun _ => ?_, fun h => absurd h (by first | omega | decide)⟩) | (refine ⟨fun _ => ?_, fun _ => ?_⟩) | (apply And.intro; · kernel_rfl) | (apply And.intro; · (show inK _ _; unfold inK; omega)) | (apply And.intro; · (show (_ : Int) ≤ 9223372036854775807; (try simp only [lenS]); omega))) | ((with_reducible show AllBe ..); refine allBe fun βe => ?_; conv => whnf) | ((with_reducible show bothX ..); refine bothI ?_ ?_; conv => whnf) | (with_reducible exact trivial) | ((with_reducible show CallN ..); refine call_of env_ok rfl 1000 ?_) | ((with_reducible show XopN ..); refine xop_of env_ok rfl 1000 ?_) | ((with_reducible show CallX ..); first | (refine callX (.agg [.str L, .str [49]]) (by kernel_rfl) rfl (⟨trivial, trivial, trivial⟩) (fun β w hm => O w hm.below) ?_)) | ((with_reducible show OpX ..); first | fail) | ((with_reducible show ∃ _ : SV, _); first | fail) | ((with_reducible show ∃ _, _); first | fail))
  all_goals first | rfl | trace_state
/-- nothing as a value of another kind -/
def VaP.likeV (t o : VaP.VT) : VaP.VT := if t.kind ≠ 0 then t else if o.kind = 1 then VaP.numF ([48], [49]) else if o.kind = 2 ∨ o.kind = 3 then ⟨o.kind, ([], []), [], false, 0, 0, 0, []⟩ else t
end Go.Proofs.YtdkhkfdenlabaaaGreatDoor
namespace Go.Proofs.YtdkhkfdenlabaaaGreatDoor
open Go.RowKit
open Sym
attribute [local irreducible] Calls Sym.AggEq ExP.nd ExP.dig ExP.upd ExP.writeF ExP.writeE
namespace Sym
theorem x_strLss {C : Ctx} {G : Blobs} {x y : Operand} {t u : TypeId} (a b : List UInt8) : ExtN C G (.binOp .lss t x y u) [.any (.string (bstr a)), .any (.string (bstr b))] (.bool (Op.bytesLess a b)) := by
  unfold ExtN
  intro ρ β w dst ty pos after g _ _ h
  have h' : ρ x = .string (bstr a) ∧ ρ y = .string (bstr b) := by simpa [opsX, SV.dens, SV.den] using h
  simp [execOp, eqGuard, binOp, Op.stringOp, h'.1, h'.2, SV.den, bstr_list]
theorem x_strGtr {C : Ctx} {G : Blobs} {x y : Operand} {t u : TypeId} (a b : List UInt8) : ExtN C G (.binOp .gtr t x y u) [.any (.string (bstr a)), .any (.string (bstr b))] (.bool (!(Op.bytesLess a b || a == b))) := by
  unfold ExtN
  intro ρ β w dst ty pos after g _ _ h
  have h' : ρ x = .string (bstr a) ∧ ρ y = .string (bstr b) := by simpa [opsX, SV.dens, SV.den] using h
  simp [execOp, eqGuard, binOp, Op.stringOp, h'.1, h'.2, SV.den, bstr_list]
theorem x_strNeq {C : Ctx} {G : Blobs} {x y : Operand} {t u : TypeId} (a : List UInt8) : ExtN C G (.binOp .neq t x y u) [.any (.string (bstr a)), .any (.string (bstr a))] (.lit false) := by
  unfold ExtN
  intro ρ β w dst ty pos after g _ _ h
  have h' : ρ x = .string (bstr a) ∧ ρ y = .string (bstr a) := by simpa [opsX, SV.dens, SV.den] using h
  simp [execOp, eqGuard, binOp, Op.stringOp, h'.1, h'.2, SV.den, bstr_list]
end Sym
/-- texts compared as the library does -/
def VaP.cmpL (a b : List UInt8) : Int := if Op.bytesLess a b then -1 else if (!(Op.bytesLess a b || a == b)) then 1 else 0
theorem VaP.cmpL_unit (a b : List UInt8) : VaP.cmpL a b = VaP.unitP (VaP.cmpT a b) := by
  induction a generalizing b with
  | nil =>
    cases b with
    | nil => rfl
    | cons y b => simp [VaP.cmpL, VaP.cmpT, VaP.unitP, Op.bytesLess] <;> omega
  | cons x a ih =>
    cases b with
    | nil => simp [VaP.cmpL, VaP.cmpT, VaP.unitP, Op.bytesLess]; omega
    | cons y b =>
      rw [VaP.cmpT]
      by_cases h : x = y
      · subst h
        rw [if_neg (fun e => e rfl), ← ih]
        have : ¬ x < x := by rw [UInt8.lt_iff_toNat_lt]; omega
        simp [VaP.cmpL, Op.bytesLess, this]
      · rw [if_pos h]
        have hn : x.toNat ≠ y.toNat := fun e => h (UInt8.toNat_inj.1 e)
        by_cases hl : x.toNat < y.toNat
        · have : x < y := by rw [UInt8.lt_iff_toNat_lt]; exact hl
          simp [VaP.cmpL, VaP.unitP, Op.bytesLess, this]; omega
        · have : ¬ x < y := by rw [UInt8.lt_iff_toNat_lt]; exact hl
          simp [VaP.cmpL, VaP.unitP, Op.bytesLess, this, h]; omega
theorem VaP.cmpI_unit (a b : Int) : Lib.compareInt a b = VaP.unitP (a - b) := by
  unfold Lib.compareInt VaP.unitP
  split <;> split <;> first | rfl | omega | (split <;> first | rfl | omega)
set_option maxRecDepth 100000 in
theorem nanS_any (a : List UInt8) (w : World) : Calls Tryz.prog 152 #[.string (bstr a)] w fun e w' => e = .returned (.bool false) ∧ Below w.heap.size w w' := by
  refine enter env_ok Tryz.func152 rfl Tryz.results152 Tryz.ntmps152 [] [] [.any (.string (bstr a))] ⟨rfl, trivial⟩ (Nat.le_of_ble_eq_true rfl) w _ 1000 ?_
  repeat' (first | ((with_reducible first | show wpS .. | show putD .. | show putW .. | show splitG .. | show wpQ .. | show wpD .. | show wpX .. | show expX .. | show stepX .. | show keepR .. | show wpY ..); conv => whnf) | ((with_reducible show RetN ..); refine retB fun β => ?_) | ((with_reducible show _ ∧ _); first | (refine ⟨fun h => absurd h (by first | omega | decide), fun _ => ?_⟩) | (refine ⟨fun _ => ?_, fun h => absurd h (by first | omega | decide)⟩) | (refine ⟨fun _ => ?_, fun _ => ?_⟩) | (apply And.intro; · kernel_rfl) | (apply And.intro; · (show inK _ _; unfold inK; omega)) | (apply And.intro; · (show (_ : Int) ≤ 9223372036854775807; (try simp only [lenS]); omega))) | ((with_reducible show AllBe ..); refine allBe fun βe => ?_; conv => whnf) | ((with_reducible show bothX ..); refine bothI ?_ ?_; conv => whnf) | (with_reducible exact trivial) | ((with_reducible show CallN ..); refine call_of env_ok rfl 1000 ?_) | ((with_reducible show XopN ..); refine xop_of env_ok rfl 1000 ?_) | ((with_reducible show CallX ..); first | fail) | ((with_reducible show OpX ..); first | fail) | ((with_reducible show ∃ _ : SV, _); first | (refine ⟨.lit false, fun _ _ => trivial, x_strNeq a, ?_⟩)) | ((with_reducible show ∃ _, _); first | fail))
  all_goals first | rfl | trace_state
set_option maxRecDepth 100000 in
theorem cmpS_any (a b : List UInt8) (w : World) : Calls Tryz.prog 93 #[.string (bstr a), .string (bstr b)] w fun e w' => e = .returned (.int .i64 (VaP.cmpL a b)) ∧ Below w.heap.size w w' := by
  unfold VaP.cmpL
  refine enter env_ok Tryz.func93 rfl Tryz.results93 Tryz.ntmps93 [] [] [.any (.string (bstr a)), .any (.string (bstr b))] ⟨rfl, rfl, trivial⟩ (Nat.le_of_ble_eq_true rfl) w _ 1000 ?_
  repeat' (first | ((with_reducible first | show wpS .. | show putD .. | show putW .. | show splitG .. | show wpQ .. | show wpD .. | show wpX .. | show expX .. | show stepX .. | show keepR .. | show wpY ..); conv => whnf) | ((with_reducible show RetN ..); refine retB fun β => ?_) | ((with_reducible show _ ∧ _); first | (refine ⟨fun h => absurd h (by first | omega | decide), fun _ => ?_⟩) | (refine ⟨fun _ => ?_, fun h => absurd h (by first | omega | decide)⟩) | (refine ⟨fun _ => ?_, fun _ => ?_⟩) | (apply And.intro; · kernel_rfl) | (apply And.intro; · (show inK _ _; unfold inK; omega)) | (apply And.intro; · (show (_ : Int) ≤ 9223372036854775807; (try simp only [lenS]); omega))) | ((with_reducible show AllBe ..); refine allBe fun βe => ?_; conv => whnf) | ((with_reducible show bothX ..); refine bothI ?_ ?_; conv => whnf) | (with_reducible exact trivial) | ((with_reducible show CallN ..); refine call_of env_ok rfl 1000 ?_) | ((with_reducible show XopN ..); refine xop_of env_ok rfl 1000 ?_) | ((with_reducible show CallX ..); first | (refine callX (.lit false) (by kernel_rfl) rfl (trivial) (fun β w hm => nanS_any a w) ?_) | (refine callX (.lit false) (by kernel_rfl) rfl (trivial) (fun β w hm => nanS_any b w) ?_)) | ((with_reducible show OpX ..); first | fail) | ((with_reducible show ∃ _ : SV, _); first | (refine ⟨.bool (Op.bytesLess a b), fun _ _ => trivial, x_strLss a b, ?_⟩) | (refine ⟨.bool (!(Op.bytesLess a b || a == b)), fun _ _ => trivial, x_strGtr a b, ?_⟩)) | ((with_reducible show ∃ _, _); first | fail))
  all_goals first | (simp_all [SV.den]; done) | rfl | trace_state
set_option maxRecDepth 100000 in
theorem vflag_any (o : Bool) (w : World) : Calls Tryz.prog 151 #[.bool o] w fun e w' => e = .returned (.int .i64 (if o then 1 else 0)) ∧ Below w.heap.size w w' := by
  refine enter env_ok Tryz.func151 rfl Tryz.results151 Tryz.ntmps151 [] [] [.bool o] (by simp [SV.oks, SV.ok]) (Nat.le_of_ble_eq_true rfl) w _ 1000 ?_
  repeat' (first | ((with_reducible first | show wpS .. | show putD .. | show putW .. | show splitG .. | show wpQ .. | show wpD .. | show wpX .. | show expX .. | show stepX .. | show keepR .. | show wpY ..); conv => whnf) | ((with_reducible show RetN ..); refine retB fun β => ?_) | ((with_reducible show _ ∧ _); first | (refine ⟨fun h => absurd h (by first | omega | decide), fun _ => ?_⟩) | (refine ⟨fun _ => ?_, fun h => absurd h (by first | omega | decide)⟩) | (refine ⟨fun _ => ?_, fun _ => ?_⟩) | (apply And.intro; · kernel_rfl) | (apply And.intro; · (show inK _ _; unfold inK; omega)) | (apply And.intro; · (show (_ : Int) ≤ 9223372036854775807; (try simp only [lenS]); omega))) | ((with_reducible show AllBe ..); refine allBe fun βe => ?_; conv => whnf) | ((with_reducible show bothX ..); refine bothI ?_ ?_; conv => whnf) | (with_reducible exact trivial) | ((with_reducible show CallN ..); refine call_of env_ok rfl 1000 ?_) | ((with_reducible show XopN ..); refine xop_of env_ok rfl 1000 ?_) | ((with_reducible show CallX ..); first | fail) | ((with_reducible show OpX ..); first | fail) | ((with_reducible show ∃ _ : SV, _); first | fail) | ((with_reducible show ∃ _, _); first | fail))
  all_goals first | (simp_all [SV.den]; done) | trace_state
end Go.Proofs.YtdkhkfdenlabaaaGreatDoor
namespace Go.Proofs.YtdkhkfdenlabaaaGreatDoor
open Go.RowKit
open Sym
attribute [local irreducible] Calls Sym.AggEq ExP.nd ExP.dig ExP.upd ExP.writeF ExP.writeE
/-- fractions compared, or 0 -/
def VaP.cmpF (f g : ExP.Fr) : Int := if ExP.bothE f g = 0 then ExP.sgn (ExP.sumN (ExP.readN f) (ExP.negN (ExP.readN g))) else 0
/-- values of one kind compared -/
def VaP.cmpdV (a b : VaP.VT) : Int := if a.kind = 1 then VaP.cmpF a.num b.num else if a.kind = 2 then VaP.cmpL (VaP.low a.text) (VaP.low b.text) else if a.kind = 3 then (if a.on then 1 else 0) - (if b.on then 1 else 0) else Lib.compareInt a.code b.code
set_option maxRecDepth 100000 in
set_option maxHeartbeats 4000000 in
theorem compared_any (t o : VaP.VT) (a b : Option Addr) (cap cap' : Nat) (w : World) (hw : XV w) (ht : t.Fit) (ho : o.Fit) (h1 : t.text.length ≤ 1000000) (h2 : o.text.length ≤ 1000000) : Calls Tryz.prog 91 #[vtV t a cap, vtV o b cap'] w fun e w' => e = .returned (.int .i64 (VaP.cmpdV t o)) ∧ Below w.heap.size w w' := by
  have F := fun (w' : World) (h : Below w.heap.size w w') => fcompare_any t.num o.num w' (hw.below h).pos ht.n1 ht.n2 ho.n1 ho.n2
  have L1 := fun (w' : World) => vlower_any t.text w' h1
  have L2 := fun (w' : World) => vlower_any o.text w' h2
  have G1 := fun (w' : World) => vflag_any t.on w'
  have G2 := fun (w' : World) => vflag_any o.on w'
  have S := fun (w' : World) => cmpS_any (VaP.low t.text) (VaP.low o.text) w'
  have I := fun (w' : World) => (Tryz.cmp_Compare_int t.code o.code w').mono (fun e w'' (h : _ ∧ _) => (⟨h.1, by rw [h.2]; exact Below.refl _ _⟩ : e = .returned (.int .i64 (Lib.compareInt t.code o.code)) ∧ Below w'.heap.size w' w''))
  have hC : VaP.cmpdV t o = if t.kind = 1 then VaP.cmpF t.num o.num else if t.kind = 2 then VaP.cmpL (VaP.low t.text) (VaP.low o.text) else if t.kind = 3 then (if t.on then 1 else 0) - (if o.on then 1 else 0) else Lib.compareInt t.code o.code := rfl
  rw [hC]
  clear hC ht ho h1 h2
  obtain ⟨k, ⟨n1, n2⟩, tx, on, cd, rw', cl, its⟩ := t
  obtain ⟨k2, ⟨m1, m2⟩, tx2, on2, cd2, rw2, cl2, its2⟩ := o
  unfold vtV at *
  dsimp only at *
  change ∀ w', _ → Calls _ _ _ w' (fun e w'' => e = .returned (.tuple #[.int .i64 (VaP.cmpF (n1, n2) (m1, m2)), .int .i64 (ExP.bothE (n1, n2) (m1, m2))]) ∧ Below w'.heap.size w' w'') at F
  generalize VaP.cmpF (n1, n2) (m1, m2) = FF at *
  generalize ExP.bothE (n1, n2) (m1, m2) = FE at *
  generalize VaP.low tx = l1 at *
  generalize VaP.low tx2 = l2 at *
  generalize VaP.cmpL l1 l2 = LL at *
  generalize hII : Lib.compareInt cd cd2 = II at *
  have hb1 : (if on = true then (1 : Int) else 0) = 0 ∨ (if on = true then (1 : Int) else 0) = 1 := by cases on <;> simp
  have hb2 : (if on2 = true then (1 : Int) else 0) = 0 ∨ (if on2 = true then (1 : Int) else 0) = 1 := by cases on2 <;> simp
  generalize (if on = true then (1 : Int) else 0) = B1 at *
  generalize (if on2 = true then (1 : Int) else 0) = B2 at *
  refine enter env_ok Tryz.func91 rfl Tryz.results91 Tryz.ntmps91 [] [] [.agg [.int .i64 k, .str n1, .str n2, .str tx, .bool on, .int .i64 cd, .int .i64 rw', .int .i64 cl, .any (.slice a its.length cap)], .agg [.int .i64 k2, .str m1, .str m2, .str tx2, .bool on2, .int .i64 cd2, .int .i64 rw2, .int .i64 cl2, .any (.slice b its2.length cap')]] ⟨⟨trivial, trivial, trivial, trivial, trivial, trivial, trivial, trivial, rfl, trivial⟩, ⟨trivial, trivial, trivial, trivial, trivial, trivial, trivial, trivial, rfl, trivial⟩, trivial⟩ (Nat.le_of_ble_eq_true rfl) w _ 1000 ?_
  repeat' (first | ((with_reducible first | show wpS .. | show putD .. | show putW .. | show splitG .. | show wpQ .. | show wpD .. | show wpX .. | show expX .. | show stepX .. | show keepR .. | show wpY ..); conv => whnf) | ((with_reducible show RetN ..); refine retB fun β => ?_) | ((with_reducible show _ ∧ _); first | (refine ⟨fun h => absurd h (by first | omega | decide), fun _ => ?_⟩) | (refine ⟨fun _ => ?_, fun h => absurd h (by first | omega | decide)⟩) | (refine ⟨fun _ => ?_, fun _ => ?_⟩) | (apply And.intro; · kernel_rfl) | (apply And.intro; · (show inK _ _; unfold inK; omega)) | (apply And.intro; · (show (_ : Int) ≤ 9223372036854775807; (try simp only [lenS]); omega))) | ((with_reducible show AllBe ..); refine allBe fun βe => ?_; conv => whnf) | ((with_reducible show bothX ..); refine bothI ?_ ?_; conv => whnf) | (with_reducible exact trivial) | ((with_reducible show CallN ..); refine call_of env_ok rfl 1000 ?_) | ((with_reducible show XopN ..); refine xop_of env_ok rfl 1000 ?_) | ((with_reducible show CallX ..); first | (refine callX (.tup [.int .i64 FF, .int .i64 FE]) (by kernel_rfl) rfl (⟨trivial, trivial, trivial⟩) (fun β w hm => F w hm.below) ?_) | (refine callX (.str l1) (by kernel_rfl) rfl (trivial) (fun β w hm => L1 w) ?_) | (refine callX (.str l2) (by kernel_rfl) rfl (trivial) (fun β w hm => L2 w) ?_) | (refine callX (.int .i64 LL) (by kernel_rfl) rfl (trivial) (fun β w hm => S w) ?_) | (refine callX (.int .i64 B1) (by kernel_rfl) rfl (trivial) (fun β w hm => G1 w) ?_) | (refine callX (.int .i64 B2) (by kernel_rfl) rfl (trivial) (fun β w hm => G2 w) ?_) | (refine callX (.int .i64 II) (by kernel_rfl) rfl (trivial) (fun β w hm => I w) ?_)) | ((with_reducible show OpX ..); first | fail) | ((with_reducible show ∃ _ : SV, _); first | (refine ⟨.str l1, by kernel_rfl, trivial, fun β w hm => L1 w, ?_⟩) | (refine ⟨.str l2, by kernel_rfl, trivial, fun β w hm => L2 w, ?_⟩) | (refine ⟨.int .i64 LL, by kernel_rfl, trivial, fun β w hm => S w, ?_⟩) | (refine ⟨.int .i64 B1, by kernel_rfl, trivial, fun β w hm => G1 w, ?_⟩) | (refine ⟨.int .i64 B2, by kernel_rfl, trivial, fun β w hm => G2 w, ?_⟩)) | ((with_reducible show ∃ _, _); first | fail))
  all_goals first | (exfalso; omega) | (rw [if_pos (by assumption : k = 1)]; rfl) | (rw [if_neg (by assumption : ¬ k = 1), if_pos (by assumption : k = 2)]; rfl) | (rw [if_neg (by assumption : ¬ k = 1), if_neg (by assumption : ¬ k = 2), if_pos (by assumption : k = 3)]; rfl) | (rw [if_neg (by assumption : ¬ k = 1), if_neg (by assumption : ¬ k = 2), if_neg (by assumption : ¬ k = 3)]; rfl) | trace_state
end Go.Proofs.YtdkhkfdenlabaaaGreatDoor
namespace Go.Proofs.YtdkhkfdenlabaaaGreatDoor
open Go.RowKit
open Sym
attribute [local irreducible] Calls Sym.AggEq ExP.nd ExP.dig ExP.upd ExP.writeF ExP.writeE
/-- values of one kind compared, as the reference does -/
def VaP.oneP (t o : VaP.VT) : Int := if t.kind = 1 then ExP.sgn (ExP.sumN (ExP.readN t.num) (ExP.negN (ExP.readN o.num))) else if t.kind = 2 then VaP.unitP (VaP.cmpT (VaP.low t.text) (VaP.low o.text)) else if t.on ≠ o.on then (if t.on then 1 else -1) else VaP.unitP (t.code - o.code)
theorem VaP.lowC_pick {c : UInt8} {v : Int} (h : ((65 : Int) ≤ c.toNat ∧ (c.toNat : Int) ≤ 90 ∧ v = (c.toNat : Int) + 32) ∨ (¬ ((65 : Int) ≤ c.toNat ∧ (c.toNat : Int) ≤ 90) ∧ v = (c.toNat : Int))) : [Value.int .u8 v] = bvals [VaP.lowC c] := by
  have hc := VaP.lowC_nat c
  rcases h with ⟨h1, h2, rfl⟩ | ⟨h1, rfl⟩
  · rw [if_pos (by omega)] at hc
    simp [bvals, hc]
  · rw [if_neg (by omega)] at hc
    simp [bvals, hc]
theorem VaP.low_take {s : List UInt8} {n : Nat} (h : n < s.length) : VaP.low (s.take n) ++ [VaP.lowC (s.getD n 0)] = VaP.low (s.take (n + 1)) := by
  rw [take_next0 s n h]; simp [VaP.low]
set_option maxRecDepth 100000 in
set_option maxHeartbeats 4000000 in
/-- the reference's small letters -/
theorem rlowV_any (s : List UInt8) (w : World) (hs : s.length ≤ 1000000) : Calls Tryz.prog 62 #[.string (bstr s)] w fun e w' => e = .returned (.string (bstr (VaP.low s))) ∧ Below w.heap.size w w' := by
  refine enter env_ok Tryz.func62 rfl Tryz.results62 Tryz.ntmps62 [] [] [.str s] (by simp [SV.oks, SV.ok]) (Nat.le_of_ble_eq_true rfl) w _ 1000 ?_
  repeat' (first | ((with_reducible first | show wpS .. | show putD .. | show putW .. | show splitG .. | show wpQ .. | show wpD .. | show wpX .. | show expX .. | show stepX .. | show keepR .. | show wpY ..); conv => whnf) | ((with_reducible show RetN ..); refine retB fun β => ?_) | ((with_reducible show _ ∧ _); first | (refine ⟨fun h => absurd h (by first | omega | decide), fun _ => ?_⟩) | (refine ⟨fun _ => ?_, fun h => absurd h (by first | omega | decide)⟩) | (refine ⟨fun _ => ?_, fun _ => ?_⟩) | (apply And.intro; · kernel_rfl) | (apply And.intro; · (show inK _ _; unfold inK; omega)) | (apply And.intro; · (show (_ : Int) ≤ 9223372036854775807; (try simp only [lenS]); omega))) | ((with_reducible show AllBe ..); refine allBe fun βe => ?_; conv => whnf) | ((with_reducible show bothX ..); refine bothI ?_ ?_; conv => whnf) | (with_reducible exact trivial) | ((with_reducible show CallN ..); refine call_of env_ok rfl 1000 ?_) | ((with_reducible show XopN ..); refine xop_of env_ok rfl 1000 ?_) | ((with_reducible show CallX ..); first | fail) | ((with_reducible show OpX ..); first | fail) | ((with_reducible show ∃ _ : SV, _); first | fail) | ((with_reducible show ∃ _, _); first | fail))
  refine loop env_ok rfl (T := {r : Nat × List UInt8 // r.1 ≤ s.length ∧ r.2 = VaP.low (s.take r.1)}) (fun t => ⟨[(0, .str s), (3, .str t.1.2), (7, .int .i64 (s.length : Nat)), (8, .int .i64 (t.1.1 : Nat))], [], 0, 29⟩) (fun t => s.length - t.1.1) ⟨(0, []), Nat.zero_le _, rfl⟩ 1000 [] [] (fun _ => Nat.zero_le _) (by ((with_reducible show wk _ _); repeat' (first | exact trivial | exact eqSV_refl _ | (refine eqI ?_) | (refine eqS ?_) | (with_reducible exact rfl) | apply And.intro | exact Nat.zero_lt_one | exact Nat.le_of_ble_eq_true rfl | (with_reducible assumption) | ((show (_ : Int) = _); (try dsimp only); omega) | ((show eqSV _ _); simp [eqSV, isB, bval, *]; done) | rfl))) (fun t I hI => ?_)
  obtain ⟨⟨n, out⟩, hn, hr⟩ := t
  dsimp only at hn hr ⊢
  have hl : out.length ≤ 1000000 := by rw [hr, VaP.low_len]; simp; omega
  have h1 := (s.getD n 0).toNat_lt
  repeat' (first | ((with_reducible first | show wpS .. | show putD .. | show putW .. | show splitG .. | show wpQ .. | show wpD .. | show wpX .. | show expX .. | show stepX .. | show keepR .. | show wpY ..); conv => whnf) | ((with_reducible show RetN ..); refine retB fun β => ?_) | ((with_reducible show _ ∧ _); first | (refine ⟨fun h => absurd h (by first | omega | decide), fun _ => ?_⟩) | (refine ⟨fun _ => ?_, fun h => absurd h (by first | omega | decide)⟩) | (refine ⟨fun _ => ?_, fun _ => ?_⟩) | (apply And.intro; · kernel_rfl) | (apply And.intro; · (show inK _ _; unfold inK; omega)) | (apply And.intro; · (show (_ : Int) ≤ 9223372036854775807; (try simp only [lenS]); omega))) | ((with_reducible show AllBe ..); refine allBe fun βe => ?_; conv => whnf) | ((with_reducible show bothX ..); refine bothI ?_ ?_; conv => whnf) | (with_reducible exact trivial) | ((with_reducible show CallN ..); refine call_of env_ok rfl 1000 ?_) | ((with_reducible show XopN ..); refine xop_of env_ok rfl 1000 ?_) | ((with_reducible show CallX ..); first | fail) | ((with_reducible show OpX ..); first | (refine opx_one rfl rfl Tryz.underlying113 (fun w => Tryz.sizeOf5 w) (fun w => Tryz.zeroValue5 w) rfl (fun g => ?_))) | ((with_reducible show ∃ _ : SV, _); first | (refine ⟨_, ?ok, x_bytesStr 0 [VaP.lowC (s.getD n 0)] Tryz.underlying113 Tryz.underlying5 Tryz.underlying9 rfl (VaP.lowC_pick (by omega)), ?_⟩; (case ok => exact fun _ _ => trivial))) | ((with_reducible show ∃ _, _); first | (refine ⟨n, rfl, by omega, ?_⟩)))
  · refine hI _ ⟨(n + 1, out ++ [VaP.lowC (s.getD n 0)]), by dsimp only; omega, by dsimp only; rw [← VaP.low_take (by omega), hr]⟩ (by dsimp only; omega) (by ((with_reducible show wk _ _); repeat' (first | exact trivial | exact eqSV_refl _ | (refine eqI ?_) | (refine eqS ?_) | (with_reducible exact rfl) | apply And.intro | exact Nat.zero_lt_one | exact Nat.le_of_ble_eq_true rfl | (with_reducible assumption) | ((show (_ : Int) = _); (try dsimp only); omega) | ((show eqSV _ _); simp [eqSV, isB, bval, *]; done) | rfl)))
  · refine hI _ ⟨(n + 1, out ++ [VaP.lowC (s.getD n 0)]), by dsimp only; omega, by dsimp only; rw [← VaP.low_take (by omega), hr]⟩ (by dsimp only; omega) (by ((with_reducible show wk _ _); repeat' (first | exact trivial | exact eqSV_refl _ | (refine eqI ?_) | (refine eqS ?_) | (with_reducible exact rfl) | apply And.intro | exact Nat.zero_lt_one | exact Nat.le_of_ble_eq_true rfl | (with_reducible assumption) | ((show (_ : Int) = _); (try dsimp only); omega) | ((show eqSV _ _); simp [eqSV, isB, bval, *]; done) | rfl)))
  · refine hI _ ⟨(n + 1, out ++ [VaP.lowC (s.getD n 0)]), by dsimp only; omega, by dsimp only; rw [← VaP.low_take (by omega), hr]⟩ (by dsimp only; omega) (by ((with_reducible show wk _ _); repeat' (first | exact trivial | exact eqSV_refl _ | (refine eqI ?_) | (refine eqS ?_) | (with_reducible exact rfl) | apply And.intro | exact Nat.zero_lt_one | exact Nat.le_of_ble_eq_true rfl | (with_reducible assumption) | ((show (_ : Int) = _); (try dsimp only); omega) | ((show eqSV _ _); simp [eqSV, isB, bval, *]; done) | rfl)))
  · rw [hr, List.take_of_length_le (by omega)]; rfl
end Go.Proofs.YtdkhkfdenlabaaaGreatDoor
namespace Go.Proofs.YtdkhkfdenlabaaaGreatDoor
open Go.RowKit
open Sym
attribute [local irreducible] Calls Sym.AggEq ExP.nd ExP.dig ExP.upd ExP.writeF ExP.writeE
section
variable (t o : VaP.VT) (a b : Option Addr) (cap cap' : Nat) (w : World)
set_option maxRecDepth 100000 in
set_option maxHeartbeats 4000000 in
theorem rone_text (hk : t.kind = 2) (h1 : t.text.length ≤ 1000000) (h2 : o.text.length ≤ 1000000) : Calls Tryz.prog 95 #[vtV t a cap, vtV o b cap'] w fun e w' => e = .returned (.int .i64 (VaP.oneP t o)) ∧ Below w.heap.size w w' := by
  have hC : VaP.oneP t o = VaP.unitP (VaP.cmpT (VaP.low t.text) (VaP.low o.text)) := by unfold VaP.oneP; rw [if_neg (by omega), if_pos hk]
  rw [hC]
  have L1 := fun (w' : World) => rlowV_any t.text w' h1
  have L2 := fun (w' : World) => rlowV_any o.text w' h2
  have S := fun (w' : World) => rcmpT_any (VaP.low t.text) (VaP.low o.text) w' (by rw [VaP.low_len]; omega) (by rw [VaP.low_len]; omega)
  generalize VaP.low t.text = l1 at *
  generalize VaP.low o.text = l2 at *
  generalize VaP.cmpT l1 l2 = c at *
  have U := fun (w' : World) => runit_any c w'
  generalize VaP.unitP c = u at *
  clear hC h1 h2
  obtain ⟨k, ⟨n1, n2⟩, tx, on, cd, rw', cl, its⟩ := t
  obtain ⟨k2, ⟨m1, m2⟩, tx2, on2, cd2, rw2, cl2, its2⟩ := o
  unfold vtV at *
  dsimp only at *
  subst hk
  refine enter env_ok Tryz.func95 rfl Tryz.results95 Tryz.ntmps95 [] [] [.agg [.int .i64 2, .str n1, .str n2, .str tx, .bool on, .int .i64 cd, .int .i64 rw', .int .i64 cl, .any (.slice a its.length cap)], .agg [.int .i64 k2, .str m1, .str m2, .str tx2, .bool on2, .int .i64 cd2, .int .i64 rw2, .int .i64 cl2, .any (.slice b its2.length cap')]] ⟨⟨trivial, trivial, trivial, trivial, trivial, trivial, trivial, trivial, rfl, trivial⟩, ⟨trivial, trivial, trivial, trivial, trivial, trivial, trivial, trivial, rfl, trivial⟩, trivial⟩ (Nat.le_of_ble_eq_true rfl) w _ 1000 ?_
  repeat' (first | ((with_reducible first | show wpS .. | show putD .. | show putW .. | show splitG .. | show wpQ .. | show wpD .. | show wpX .. | show expX .. | show stepX .. | show keepR .. | show wpY ..); conv => whnf) | ((with_reducible show RetN ..); refine retB fun β => ?_) | ((with_reducible show _ ∧ _); first | (refine ⟨fun h => absurd h (by first | omega | decide), fun _ => ?_⟩) | (refine ⟨fun _ => ?_, fun h => absurd h (by first | omega | decide)⟩) | (refine ⟨fun _ => ?_, fun _ => ?_⟩) | (apply And.intro; · kernel_rfl) | (apply And.intro; · (show inK _ _; unfold inK; omega)) | (apply And.intro; · (show (_ : Int) ≤ 9223372036854775807; (try simp only [lenS]); omega))) | ((with_reducible show AllBe ..); refine allBe fun βe => ?_; conv => whnf) | ((with_reducible show bothX ..); refine bothI ?_ ?_; conv => whnf) | (with_reducible exact trivial) | ((with_reducible show CallN ..); refine call_of env_ok rfl 1000 ?_) | ((with_reducible show XopN ..); refine xop_of env_ok rfl 1000 ?_) | ((with_reducible show CallX ..); first | (refine callX (.str l1) (by kernel_rfl) rfl (trivial) (fun β w hm => L1 w) ?_) | (refine callX (.str l2) (by kernel_rfl) rfl (trivial) (fun β w hm => L2 w) ?_) | (refine callX (.int .i64 c) (by kernel_rfl) rfl (trivial) (fun β w hm => S w) ?_) | (refine callX (.int .i64 u) (by kernel_rfl) rfl (trivial) (fun β w hm => U w) ?_)) | ((with_reducible show OpX ..); first | fail) | ((with_reducible show ∃ _ : SV, _); first | (refine ⟨.str l1, by kernel_rfl, trivial, fun β w hm => L1 w, ?_⟩) | (refine ⟨.str l2, by kernel_rfl, trivial, fun β w hm => L2 w, ?_⟩) | (refine ⟨.int .i64 c, by kernel_rfl, trivial, fun β w hm => S w, ?_⟩) | (refine ⟨.int .i64 u, by kernel_rfl, trivial, fun β w hm => U w, ?_⟩)) | ((with_reducible show ∃ _, _); first | fail))
  all_goals first | (exfalso; omega) | rfl | trace_state
set_option maxRecDepth 100000 in
set_option maxHeartbeats 4000000 in
theorem rone_other (h1 : t.kind ≠ 1) (h2 : t.kind ≠ 2) (h3 : -1000000 ≤ t.code ∧ t.code ≤ 1000000) (h4 : -1000000 ≤ o.code ∧ o.code ≤ 1000000) : Calls Tryz.prog 95 #[vtV t a cap, vtV o b cap'] w fun e w' => e = .returned (.int .i64 (VaP.oneP t o)) ∧ Below w.heap.size w w' := by
  have hC : VaP.oneP t o = if t.on ≠ o.on then (if t.on then 1 else -1) else VaP.unitP (t.code - o.code) := by unfold VaP.oneP; rw [if_neg h1, if_neg h2]
  rw [hC]
  have U := fun (w' : World) => runit_any (t.code - o.code) w'
  generalize VaP.unitP (t.code - o.code) = u at *
  clear hC
  obtain ⟨k, ⟨n1, n2⟩, tx, on, cd, rw', cl, its⟩ := t
  obtain ⟨k2, ⟨m1, m2⟩, tx2, on2, cd2, rw2, cl2, its2⟩ := o
  unfold vtV at *
  dsimp only at *
  refine enter env_ok Tryz.func95 rfl Tryz.results95 Tryz.ntmps95 [] [] [.agg [.int .i64 k, .str n1, .str n2, .str tx, .bool on, .int .i64 cd, .int .i64 rw', .int .i64 cl, .any (.slice a its.length cap)], .agg [.int .i64 k2, .str m1, .str m2, .str tx2, .bool on2, .int .i64 cd2, .int .i64 rw2, .int .i64 cl2, .any (.slice b its2.length cap')]] ⟨⟨trivial, trivial, trivial, trivial, trivial, trivial, trivial, trivial, rfl, trivial⟩, ⟨trivial, trivial, trivial, trivial, trivial, trivial, trivial, trivial, rfl, trivial⟩, trivial⟩ (Nat.le_of_ble_eq_true rfl) w _ 1000 ?_
  repeat' (first | ((with_reducible first | show wpS .. | show putD .. | show putW .. | show splitG .. | show wpQ .. | show wpD .. | show wpX .. | show expX .. | show stepX .. | show keepR .. | show wpY ..); conv => whnf) | ((with_reducible show RetN ..); refine retB fun β => ?_) | ((with_reducible show _ ∧ _); first | (refine ⟨fun h => absurd h (by first | omega | decide), fun _ => ?_⟩) | (refine ⟨fun _ => ?_, fun h => absurd h (by first | omega | decide)⟩) | (refine ⟨fun _ => ?_, fun _ => ?_⟩) | (apply And.intro; · kernel_rfl) | (apply And.intro; · (show inK _ _; unfold inK; omega)) | (apply And.intro; · (show (_ : Int) ≤ 9223372036854775807; (try simp only [lenS]); omega))) | ((with_reducible show AllBe ..); refine allBe fun βe => ?_; conv => whnf) | ((with_reducible show bothX ..); refine bothI ?_ ?_; conv => whnf) | (with_reducible exact trivial) | ((with_reducible show CallN ..); refine call_of env_ok rfl 1000 ?_) | ((with_reducible show XopN ..); refine xop_of env_ok rfl 1000 ?_) | ((with_reducible show CallX ..); first | (refine callX (.int .i64 u) (by kernel_rfl) rfl (trivial) (fun β w hm => U w) ?_)) | ((with_reducible show OpX ..); first | fail) | ((with_reducible show ∃ _ : SV, _); first | (refine ⟨.bool (on != on2), fun _ _ => trivial, x_neBB on on2 (fun _ => rfl) (fun _ => rfl) Tryz.underlying4, ?_⟩)) | ((with_reducible show ∃ _, _); first | fail))
  all_goals first | (exfalso; omega) | (cases on <;> cases on2 <;> simp_all [SV.den]; done) | trace_state
set_option maxRecDepth 100000 in
set_option maxHeartbeats 4000000 in
theorem rone_num (hk : t.kind = 1) (hw0 : 0 < w.heap.size) (h1 : ExP.readE t.num = 0) (h2 : ExP.readE o.num = 0) : Calls Tryz.prog 95 #[vtV t a cap, vtV o b cap'] w fun e w' => e = .returned (.int .i64 (VaP.oneP t o)) ∧ Below w.heap.size w w' := by
  have hC : VaP.oneP t o = ExP.sgn (ExP.sumN (ExP.readN t.num) (ExP.negN (ExP.readN o.num))) := by unfold VaP.oneP; rw [if_pos hk]
  rw [hC]
  have R1 := fun (w' : World) (h : Below w.heap.size w w') => ratOf_any t.num w' (Nat.lt_of_lt_of_le hw0 h.size) h1
  have R2 := fun (w' : World) (h : Below w.heap.size w w') => ratOf_any o.num w' (Nat.lt_of_lt_of_le hw0 h.size) h2
  have RC := fun (x y : FrV) (w' : World) (h : Below w.heap.size w w') => rcmp_any x y w' (Nat.lt_of_lt_of_le hw0 h.size)
  obtain ⟨q1, q2, q3⟩ := ExP.read_nd h1 (b := 10) (by omega)
  obtain ⟨q4, q5, q6⟩ := ExP.read_nd h2 (b := 10) (by omega)
  clear hC h1 h2
  generalize ExP.readN t.num = X at *
  generalize ExP.readN o.num = Y at *
  obtain ⟨xm, xn, xd⟩ := X
  obtain ⟨ym, yn, yd⟩ := Y
  have RC1 := fun a1 c1 a2 c2 b1 e1 b2 e2 => RC ⟨xm, xn, xd, a1, c1, a2, c2⟩ ⟨ym, yn, yd, b1, e1, b2, e2⟩
  clear RC
  dsimp only [FrV.num, FrV.val, ExP.negN] at *
  generalize ExP.sgn (ExP.sumN ⟨xm, xn, xd⟩ ⟨!ym, yn, yd⟩) = cm at *
  obtain ⟨k, ⟨n1, n2⟩, tx, on, cd, rw', cl, its⟩ := t
  obtain ⟨k2, ⟨m1, m2⟩, tx2, on2, cd2, rw2, cl2, its2⟩ := o
  unfold vtV at *
  dsimp only at *
  subst hk
  refine enter env_ok Tryz.func95 rfl Tryz.results95 Tryz.ntmps95 [] [200002] [.agg [.int .i64 1, .str n1, .str n2, .str tx, .bool on, .int .i64 cd, .int .i64 rw', .int .i64 cl, .any (.slice a its.length cap)], .agg [.int .i64 k2, .str m1, .str m2, .str tx2, .bool on2, .int .i64 cd2, .int .i64 rw2, .int .i64 cl2, .any (.slice b its2.length cap')]] ⟨⟨trivial, trivial, trivial, trivial, trivial, trivial, trivial, trivial, rfl, trivial⟩, ⟨trivial, trivial, trivial, trivial, trivial, trivial, trivial, trivial, rfl, trivial⟩, trivial⟩ (Nat.le_of_ble_eq_true rfl) w _ 1000 ?_
  repeat' (first | ((with_reducible first | show wpS .. | show putD .. | show putW .. | show splitG .. | show wpQ .. | show wpD .. | show wpX .. | show expX .. | show stepX .. | show keepR .. | show wpY ..); conv => whnf) | ((with_reducible show RetN ..); refine retB fun β => ?_) | ((with_reducible show _ ∧ _); first | (refine ⟨fun h => absurd h (by first | omega | decide), fun _ => ?_⟩) | (refine ⟨fun _ => ?_, fun h => absurd h (by first | omega | decide)⟩) | (refine ⟨fun _ => ?_, fun _ => ?_⟩) | (apply And.intro; · kernel_rfl) | (apply And.intro; · (show inK _ _; unfold inK; omega)) | (apply And.intro; · (show (_ : Int) ≤ 9223372036854775807; (try simp only [lenS]); omega))) | ((with_reducible show AllBe ..); refine allBe fun βe => ?_; conv => whnf) | ((with_reducible show bothX ..); refine bothI ?_ ?_; conv => whnf) | (with_reducible exact trivial) | ((with_reducible show CallN ..); refine call_of env_ok rfl 1000 ?_) | ((with_reducible show XopN ..); refine xop_of env_ok rfl 1000 ?_) | ((with_reducible show CallX ..); first | (refine callFr .i64 10 ⟨xm, xn, xd⟩ hw0 (by kernel_rfl) rfl (fun β w' hm => R1 w' hm.below) (fun a1 c1 a2 c2 hcx => ?_)) | (refine callFr .i64 10 ⟨ym, yn, yd⟩ hw0 (by kernel_rfl) rfl (fun β w' hm => R2 w' hm.below) (fun b1 e1 b2 e2 hcy => ?_)) | (refine callX (.int .i64 cm) (by kernel_rfl) rfl (trivial) (fun β w hm => RC1 _ _ _ _ _ _ _ _ w hm.below (FrIn.of (hm.slF 2 rfl) (hm.slF 3 rfl) hcx) (FrIn.of (hm.slF 4 rfl) (hm.slF 5 rfl) hcy) (by omega) (by omega) (by omega) (by omega)) ?_) | (refine callX (.int .i64 cm) (by kernel_rfl) rfl (trivial) (fun β w hm => RC1 _ _ _ _ _ _ _ _ w hm.below (FrIn.of (hm.slF 4 rfl) (hm.slF 5 rfl) hcx) (FrIn.of (hm.slF 2 rfl) (hm.slF 3 rfl) hcy) (by omega) (by omega) (by omega) (by omega)) ?_)) | ((with_reducible show OpX ..); first | fail) | ((with_reducible show ∃ _ : SV, _); first | fail) | ((with_reducible show ∃ _, _); first | fail))
  all_goals first | (exfalso; omega) | rfl | trace_state
end
end Go.Proofs.YtdkhkfdenlabaaaGreatDoor
