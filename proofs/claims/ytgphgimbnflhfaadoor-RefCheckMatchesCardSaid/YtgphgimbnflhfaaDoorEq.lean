/- Equality of structs, field by field. -/
import Derived.Test.YtgphgimbnflhfaaDoorStr
import Derived.ChangeKeysEq
set_option linter.unusedSimpArgs false
set_option linter.unusedVariables false
namespace Go.Proofs.YtgphgimbnflhfaaDoor
open Go.RowKit
theorem eqF_cons {P : Program} {w : World} {d : Nat} {xs ys : Array Value} {f : Field} {fs : List Field} {r r2 : Bool} (a b : Value) (hn : f.name ≠ "_") (ha : (part f.type xs f.offset).run P w = .ok a w) (hb : (part f.type ys f.offset).run P w = .ok b w)
    (he : (Op.equalIn d f.type a b).run P w = .ok r w) (hr : (Op.eqFields d xs ys fs).run P w = .ok r2 w) : (Op.eqFields d xs ys (f :: fs)).run P w = .ok (r && r2) w := by
  unfold Op.eqFields
  rw [if_pos hn]
  simp only [Sem.run_bind, ha, hb, he, Result.andThen_ok]
  cases r
  · simp
  · simp [hr]
theorem eqF_nil {P : Program} {w : World} {d : Nat} {xs ys : Array Value} : (Op.eqFields d xs ys []).run P w = .ok true w := rfl
/-- two cells of one kind -/
def ceq : Value → Value → Bool
  | .int _ a, .int _ b => a == b
  | .bool a, .bool b => a == b
  | .string a, .string b => a.toList == b.toList
  | _, _ => false
def ceqs : List Value → List Value → Bool
  | a :: ra, b :: rb => ceq a b && ceqs ra rb
  | _, _ => true
inductive CK where
  | int (k : IntKind)
  | bool
  | str
def ckOf : Value → Option CK
  | .int k _ => some (.int k)
  | .bool _ => some .bool
  | .string _ => some .str
  | _ => none
def CK.fits (P : Program) (t : TypeId) : CK → Prop
  | .int k => P.underlying t = some (.int k)
  | .bool => P.underlying t = some .bool
  | .str => P.underlying t = some .string
def Flat (P : Program) : List Field → List CK → Nat → Prop
  | [], [], _ => True
  | f :: fs, k :: ks, i => f.name ≠ "_" ∧ f.offset = i ∧ P.plainKey f.type = true ∧ k.fits P f.type ∧ Flat P fs ks (i + 1)
  | _, _, _ => False
def CK.ok (P : Program) (t : TypeId) (k : CK) : Bool := match k, P.underlying t with
  | .int k, some (.int k') => decide (k = k')
  | .bool, some .bool => true
  | .str, some .string => true
  | _, _ => false
theorem CK.ok_fits {P : Program} {t : TypeId} {k : CK} (h : k.ok P t = true) : k.fits P t := by
  unfold CK.ok at h
  split at h
  · rename_i e; have := of_decide_eq_true h; subst this; exact e
  · rename_i e; exact e
  · rename_i e; exact e
  · cases h
def flatB (P : Program) : List Field → List CK → Nat → Bool
  | [], [], _ => true
  | f :: fs, k :: ks, i => f.name != "_" && (f.offset == i && (P.plainKey f.type && (k.ok P f.type && flatB P fs ks (i + 1))))
  | _, _, _ => false
theorem flat_of {P : Program} : ∀ (fs : List Field) (ks : List CK) (i : Nat), flatB P fs ks i = true → Flat P fs ks i
  | [], [], _, _ => trivial
  | f :: fs, k :: ks, i, h => by
    simp only [flatB, Bool.and_eq_true, bne_iff_ne, beq_iff_eq] at h
    exact ⟨h.1, h.2.1, h.2.2.1, CK.ok_fits h.2.2.2.1, flat_of fs ks (i + 1) h.2.2.2.2⟩
  | [], _ :: _, _, h => by cases h
  | _ :: _, [], _, h => by cases h
theorem ceq_run {P : Program} {w : World} {d : Nat} {t : TypeId} {k : CK} {a b : Value} (h : k.fits P t) (ha : ckOf a = some k) (hb : ckOf b = some k) : (Op.equalIn (d + 1) t a b).run P w = .ok (ceq a b) w := by
  cases a <;> simp only [ckOf] at ha <;> cases b <;> simp only [ckOf] at hb <;> first | (cases ha; done) | (cases hb; done) | skip
  all_goals (injection ha with ha; injection hb with hb; subst ha)
  all_goals (try (cases hb; done))
  · exact run_equalIn_bool' w d t _ _ h
  · injection hb with hb; subst hb; exact run_equalIn_int w d t _ _ _ _ h
  · exact run_equalIn_string w d t _ _ h
theorem flat_eq {P : Program} {w : World} {d : Nat} {xs ys : Array Value} : ∀ (fs : List Field) (ks : List CK) (i : Nat), Flat P fs ks i → (xs.toList.drop i).map ckOf = ks.map some → (ys.toList.drop i).map ckOf = ks.map some →
    (Op.eqFields (d + 1) xs ys fs).run P w = .ok (ceqs (xs.toList.drop i) (ys.toList.drop i)) w
  | [], [], i, _, hx, hy => by
    have h1 : xs.toList.drop i = [] := by simpa using hx
    rw [h1]; exact eqF_nil
  | f :: fs, k :: ks, i, hf, hx, hy => by
    obtain ⟨h1, h2, h3, h4, h5⟩ := hf
    cases ex : xs.toList.drop i with
    | nil => rw [ex] at hx; simp at hx
    | cons a ra =>
      cases ey : ys.toList.drop i with
      | nil => rw [ey] at hy; simp at hy
      | cons b rb =>
        rw [ex] at hx; rw [ey] at hy
        simp only [List.map_cons, List.cons.injEq] at hx hy
        have dx : xs.toList.drop (i + 1) = ra := by rw [← List.drop_drop, ex]; rfl
        have dy : ys.toList.drop (i + 1) = rb := by rw [← List.drop_drop, ey]; rfl
        have gx : xs[i]? = some a := by rw [← Array.getElem?_toList, ← List.head?_drop, ex]; rfl
        have gy : ys[i]? = some b := by rw [← Array.getElem?_toList, ← List.head?_drop, ey]; rfl
        have ih := flat_eq (w := w) (d := d) (xs := xs) (ys := ys) fs ks (i + 1) h5 (by rw [dx]; exact hx.2) (by rw [dy]; exact hy.2)
        rw [dx, dy] at ih
        exact eqF_cons a b h1 (by rw [h2]; exact run_part_plain w h3 gx) (by rw [h2]; exact run_part_plain w h3 gy) (ceq_run h4 hx.1 hy.1) ih
  | [], _ :: _, _, hf, _, _ => hf.elim
  | _ :: _, [], _, hf, _, _ => hf.elim
theorem agg_eq {P : Program} (w : World) (t : TypeId) (xs ys : Array Value) (ks : List CK) (ht : P.underlying t = some (.struct (P.fieldsOf t))) (hp : P.stoodInHeld t = false) (hf : Flat P (P.fieldsOf t).toList ks 0) (hx : xs.toList.map ckOf = ks.map some) (hy : ys.toList.map ckOf = ks.map some) :
    (Op.equalIn 10000 t (.agg xs) (.agg ys)).run P w = .ok (ceqs xs.toList ys.toList) w := by
  rw [run_equalIn_agg w 9999 t xs ys ht hp]
  exact flat_eq (d := 9998) _ ks 0 hf hx hy
end Go.Proofs.YtgphgimbnflhfaaDoor
