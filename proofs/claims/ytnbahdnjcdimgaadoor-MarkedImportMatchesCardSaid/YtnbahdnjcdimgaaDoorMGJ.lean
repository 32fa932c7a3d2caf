/- Marked-down texts, the reference: runs of a byte, one digit. Equality of structs, field by field. Marked-down texts: attributes, flows and losses held together. Marked-down texts, plain: the lines as the reference divides them. A walk that reckons: any slice put behind a slice of one's own, or behind none; a block under another number at a loop's end. -/
import Derived.Test.YtnbahdnjcdimgaaDoorMMkR5
import Derived.Test.YtnbahdnjcdimgaaDoorMGA
import Derived.ChangeKeysEq
import Derived.Test.YtnbahdnjcdimgaaDoorMGI
import Derived.Test.YtnbahdnjcdimgaaDoorMSz33
set_option linter.unusedSimpArgs false
set_option linter.unusedVariables false
namespace Go.Proofs.YtnbahdnjcdimgaaDoor
open Go.RowKit
open Sym
attribute [local irreducible] Calls Sym.AggEq
theorem isHash (c : UInt8) (w : World) : QC 15 #[.int .u8 (c.toNat : Int)] w (.bool (c == 35)) := by
  refine yE Tryd.func15 rfl Tryd.results15 Tryd.ntmps15 [] [] [.int .u8 (c.toNat : Int)] w ?_
  repeat' (first | refine yX ?_ | (apply And.intro <;> intro _) | apply bothI | refine retB fun β => ?_ | intro βe | fail | exact trivial)
  have e : decide ((c.toNat : Int) = 35) = (c == 35) := by
    rw [Bool.eq_iff_iff, decide_eq_true_eq, beq_iff_eq, ← UInt8.toNat_inj]
    show _ ↔ c.toNat = 35
    omega
  simp only [SV.den]; rw [← e]
theorem isBlank (c : UInt8) (w : World) : QC 16 #[.int .u8 (c.toNat : Int)] w (.bool (c == 32)) := by
  refine yE Tryd.func16 rfl Tryd.results16 Tryd.ntmps16 [] [] [.int .u8 (c.toNat : Int)] w ?_
  repeat' (first | refine yX ?_ | (apply And.intro <;> intro _) | apply bothI | refine retB fun β => ?_ | intro βe | fail | exact trivial)
  have e : decide ((c.toNat : Int) = 32) = (c == 32) := by
    rw [Bool.eq_iff_iff, decide_eq_true_eq, beq_iff_eq, ← UInt8.toNat_inj]
    show _ ↔ c.toNat = 32
    omega
  simp only [SV.den]; rw [← e]
theorem MkP.lead_end {s : List UInt8} {n : Nat} {c : UInt8} (h : s.length ≤ n) : MkP.leadN c (s.drop n) = 0 := by rw [List.drop_eq_nil_of_le h]; rfl
theorem MkP.lead_in {s : List UInt8} {n : Nat} {c : UInt8} (h : n < s.length) (hc : (s.getD n 0 == c) = true) : MkP.leadN c (s.drop n) = 1 + MkP.leadN c (s.drop (n + 1)) := by
  have e : s.drop n = s.getD n 0 :: s.drop (n + 1) := by rw [List.drop_eq_getElem_cons h]; simp [List.getD, h]
  unfold MkP.leadN
  rw [e, List.takeWhile_cons_of_pos (p := (· == c)) hc, List.length_cons, Nat.add_comm]
theorem MkP.lead_out {s : List UInt8} {n : Nat} {c : UInt8} (h : n < s.length) (hc : (s.getD n 0 == c) = false) : MkP.leadN c (s.drop n) = 0 := by
  have e : s.drop n = s.getD n 0 :: s.drop (n + 1) := by rw [List.drop_eq_getElem_cons h]; simp [List.getD, h]
  unfold MkP.leadN
  rw [e, List.takeWhile_cons_of_neg (p := (· == c)) (by rw [hc]; simp)]; rfl
set_option maxRecDepth 100000 in
theorem rspan_any {f : FuncId} {c : UInt8} (he : entersB Tryd.prog f = true) (HF : ∀ (x : UInt8) (w : World), QC f #[.int .u8 (x.toNat : Int)] w (.bool (x == c))) (s : List UInt8) (w : World) (hs : s.length ≤ 100000) : QC 14 #[.string (bstr s), .func (.func f) #[] #[]] w (.int .i64 (MkP.leadN c s : Nat)) := by
  refine yE Tryd.func14 rfl Tryd.results14 Tryd.ntmps14 [] [] [.str s, .fn f []] w ?_
  repeat' (first | ((with_reducible first | show wpS _ _ _ _ | show putD _ _ _ _ | show putW _ _ _ _ | show splitG _ _ _ | show wpQ _ _ _ _ _ _ | show wpD _ _ _ _ _ _ _ | show wpX _ _ _ _ _ _ _ | show expX _ _ _ _ _ _ | show stepX _ _ _ _ | show keepR _ _ _ | show wpY _ _ _ _); conv => whnf) | ((with_reducible show RetN _ _ _); refine retB fun β => ?_) | ((with_reducible show _ ∧ _); first | (apply And.intro; (· intro h; exfalso; first | omega | (revert h; decide)); intro _) | (apply And.intro; rotate_left; (· intro h; exfalso; first | omega | (revert h; decide)); intro _) | (refine ⟨fun _ => ?_, fun _ => ?_⟩) | (apply And.intro; · kernel_rfl) | (apply And.intro; · (show inK _ _; unfold inK; omega)) | (apply And.intro; · (show (_ : Int) ≤ 9223372036854775807; (try simp only [List.length_append, List.length_drop, List.length_take, List.length_cons, List.length_nil]); omega))) | ((with_reducible show AllBe _); refine allBe fun βe => ?_; conv => whnf) | ((with_reducible show bothX _ _); refine bothI ?_ ?_; conv => whnf) | (with_reducible exact trivial) | ((with_reducible show CallN _ _ _ _ _ _ _ _); first | fail | refine call_of env_ok rfl 1000 ?_) | ((with_reducible show XopN _ _ _ _ _ _); refine xop_of env_ok rfl 1000 ?_) | ((with_reducible show CallX _ _ _ _ _ _); first | fail) | ((with_reducible show OpX _ _ _ _); first | fail) | ((with_reducible show ∃ _ : SV, _); first | fail) | ((with_reducible show ∃ _, _); first | fail))
  refine yZ (T := {n : Nat // n ≤ s.length ∧ MkP.leadN c s = n + MkP.leadN c (s.drop n)}) (fun t => ⟨[(0, .str s), (1, .fn f []), (7, .int .i64 (s.length : Nat)), (8, .int .i64 (t.1 : Nat))], [], 0, 21⟩) (fun t => s.length - t.1) ⟨0, Nat.zero_le _, by simp⟩ [] [] (fun t I hI => ?_) (by ((with_reducible show wk _ _); repeat' (first | exact trivial | exact eqSV_refl _ | refine eqI ?_ | refine eqS ?_ | apply And.intro | exact yV | fail)))
  obtain ⟨n, hn, hr⟩ := t
  dsimp only
  repeat' (first | ((with_reducible first | show wpS _ _ _ _ | show putD _ _ _ _ | show putW _ _ _ _ | show splitG _ _ _ | show wpQ _ _ _ _ _ _ | show wpD _ _ _ _ _ _ _ | show wpX _ _ _ _ _ _ _ | show expX _ _ _ _ _ _ | show stepX _ _ _ _ | show keepR _ _ _ | show wpY _ _ _ _); conv => whnf) | ((with_reducible show RetN _ _ _); refine retB fun β => ?_) | ((with_reducible show _ ∧ _); first | (apply And.intro; (· intro h; exfalso; first | omega | (revert h; decide)); intro _) | (apply And.intro; rotate_left; (· intro h; exfalso; first | omega | (revert h; decide)); intro _) | (refine ⟨fun _ => ?_, fun _ => ?_⟩) | (apply And.intro; · kernel_rfl) | (apply And.intro; · (show inK _ _; unfold inK; omega)) | (apply And.intro; · (show (_ : Int) ≤ 9223372036854775807; (try simp only [List.length_append, List.length_drop, List.length_take, List.length_cons, List.length_nil]); omega))) | ((with_reducible show AllBe _); refine allBe fun βe => ?_; conv => whnf) | ((with_reducible show bothX _ _); refine bothI ?_ ?_; conv => whnf) | (with_reducible exact trivial) | ((with_reducible show CallN _ _ _ _ _ _ _ _); first | fail | refine call_of env_ok rfl 1000 ?_) | ((with_reducible show XopN _ _ _ _ _ _); refine xop_of env_ok rfl 1000 ?_) | ((with_reducible show CallX _ _ _ _ _ _); first | (refine callX (.bool (s.getD n 0 == c)) he rfl trivial (fun β w hm => HF _ w) ?_)) | ((with_reducible show OpX _ _ _ _); first | fail) | ((with_reducible show ∃ _ : SV, _); first | fail) | ((with_reducible show ∃ _, _); first | (refine ⟨n, rfl, by omega, ?_⟩)))
  · rw [MkP.lead_out (by omega) (by simpa using ‹(!(s.getD n 0 == c)) = true›)] at hr; rw [hr]; rfl
  · refine hI _ ⟨n + 1, by omega, by rw [hr, MkP.lead_in (by omega) (by simpa using ‹(!(s.getD n 0 == c)) = false›)]; omega⟩ (by dsimp only; omega) (by ((with_reducible show wk _ _); repeat' (first | exact trivial | exact eqSV_refl _ | refine eqI ?_ | refine eqS ?_ | apply And.intro | exact yV | fail)))
  · rw [MkP.lead_end (by omega)] at hr
    have : n = s.length := by omega
    rw [hr, this]; rfl
set_option maxRecDepth 100000 in
theorem rdig_any (n : Nat) (w : World) (hn : n ≤ 9) : QC 18 #[.int .i64 (n : Nat)] w (.string (bstr [UInt8.ofNat (48 + n)])) := by
  have hb : [Value.int .u8 (48 + (n : Int))] = bvals [UInt8.ofNat (48 + n)] := by
    have e : (UInt8.ofNat (48 + n)).toNat = 48 + n := by rw [UInt8.toNat_ofNat']; omega
    show _ = [Value.int .u8 (((UInt8.ofNat (48 + n)).toNat : Nat) : Int)]
    rw [e, Int.natCast_add]; rfl
  refine yE Tryd.func18 rfl Tryd.results18 Tryd.ntmps18 [] [] [.int .i64 (n : Nat)] w ?_
  repeat' (first | refine yX ?_ | (apply And.intro <;> intro _) | apply bothI | refine retB fun β => ?_ | intro βe | (refine opx_build1 (sz := 1) rfl rfl rfl (xs := [.int .u8 (48 + (n : Int))]) (fun β => rfl) rfl (by omega) (by omega) Tryd.underlying62 (fun w => Tryd.sizeOf5 w) (fun w => Tryd.zeroValue5 w) (fun g1 => ?_)) | refine yO (x_bytesStrS 0 [UInt8.ofNat (48 + n)] Tryd.underlying62 Tryd.underlying5 Tryd.underlying9 rfl hb) ?_ | exact trivial)
  all_goals first | (exfalso; omega) | skip
  all_goals rfl
end Go.Proofs.YtnbahdnjcdimgaaDoor
namespace Go.Proofs.YtnbahdnjcdimgaaDoor
open Go.RowKit
theorem eqF_cons {P : Program} {w : World} {d : Nat} {xs ys : Array Value} {f : Field} {fs : List Field} {r r2 : Bool} (a b : Value) (hn : f.name ≠ "_") (ha : (part f.type xs f.offset).run P w = .ok a w) (hb : (part f.type ys f.offset).run P w = .ok b w)
    (he : (Op.equalIn d f.type a b).run P w = .ok r w) (hr : (Op.eqFields d xs ys fs).run P w = .ok r2 w) : (Op.eqFields d xs ys (f :: fs)).run P w = .ok (r && r2) w := by
  unfold Op.eqFields
  rw [if_pos hn]
  simp only [Sem.run_bind, ha, hb, he, Result.andThen_ok]
  cases r
  · simp
  · simp [hr]
theorem eqF_nil {P : Program} {w : World} {d : Nat} {xs ys : Array Value} : (Op.eqFields d xs ys []).run P w = .ok true w := rfl
/-- two cells of one kind -/
def ceq : Value → Value → Bool
  | .int _ a, .int _ b => a == b
  | .bool a, .bool b => a == b
  | .string a, .string b => a.toList == b.toList
  | _, _ => false
def ceqs : List Value → List Value → Bool
  | a :: ra, b :: rb => ceq a b && ceqs ra rb
  | _, _ => true
inductive CK where
  | int (k : IntKind)
  | bool
  | str
def ckOf : Value → Option CK
  | .int k _ => some (.int k)
  | .bool _ => some .bool
  | .string _ => some .str
  | _ => none
def CK.fits (P : Program) (t : TypeId) : CK → Prop
  | .int k => P.underlying t = some (.int k)
  | .bool => P.underlying t = some .bool
  | .str => P.underlying t = some .string
def Flat (P : Program) : List Field → List CK → Nat → Prop
  | [], [], _ => True
  | f :: fs, k :: ks, i => f.name ≠ "_" ∧ f.offset = i ∧ P.plainKey f.type = true ∧ k.fits P f.type ∧ Flat P fs ks (i + 1)
  | _, _, _ => False
def CK.ok (P : Program) (t : TypeId) (k : CK) : Bool := match k, P.underlying t with
  | .int k, some (.int k') => decide (k = k')
  | .bool, some .bool => true
  | .str, some .string => true
  | _, _ => false
theorem CK.ok_fits {P : Program} {t : TypeId} {k : CK} (h : k.ok P t = true) : k.fits P t := by
  unfold CK.ok at h
  split at h
  · rename_i e; have := of_decide_eq_true h; subst this; exact e
  · rename_i e; exact e
  · rename_i e; exact e
  · cases h
def flatB (P : Program) : List Field → List CK → Nat → Bool
  | [], [], _ => true
  | f :: fs, k :: ks, i => f.name != "_" && (f.offset == i && (P.plainKey f.type && (k.ok P f.type && flatB P fs ks (i + 1))))
  | _, _, _ => false
theorem flat_of {P : Program} : ∀ (fs : List Field) (ks : List CK) (i : Nat), flatB P fs ks i = true → Flat P fs ks i
  | [], [], _, _ => trivial
  | f :: fs, k :: ks, i, h => by
    simp only [flatB, Bool.and_eq_true, bne_iff_ne, beq_iff_eq] at h
    exact ⟨h.1, h.2.1, h.2.2.1, CK.ok_fits h.2.2.2.1, flat_of fs ks (i + 1) h.2.2.2.2⟩
  | [], _ :: _, _, h => by cases h
  | _ :: _, [], _, h => by cases h
theorem ceq_run {P : Program} {w : World} {d : Nat} {t : TypeId} {k : CK} {a b : Value} (h : k.fits P t) (ha : ckOf a = some k) (hb : ckOf b = some k) : (Op.equalIn (d + 1) t a b).run P w = .ok (ceq a b) w := by
  cases a <;> simp only [ckOf] at ha <;> cases b <;> simp only [ckOf] at hb <;> first | (cases ha; done) | (cases hb; done) | skip
  all_goals (injection ha with ha; injection hb with hb; subst ha)
  all_goals (try (cases hb; done))
  · exact run_equalIn_bool' w d t _ _ h
  · injection hb with hb; subst hb; exact run_equalIn_int w d t _ _ _ _ h
  · exact run_equalIn_string w d t _ _ h
theorem flat_eq {P : Program} {w : World} {d : Nat} {xs ys : Array Value} : ∀ (fs : List Field) (ks : List CK) (i : Nat), Flat P fs ks i → (xs.toList.drop i).map ckOf = ks.map some → (ys.toList.drop i).map ckOf = ks.map some →
    (Op.eqFields (d + 1) xs ys fs).run P w = .ok (ceqs (xs.toList.drop i) (ys.toList.drop i)) w
  | [], [], i, _, hx, hy => by
    have h1 : xs.toList.drop i = [] := by simpa using hx
    rw [h1]; exact eqF_nil
  | f :: fs, k :: ks, i, hf, hx, hy => by
    obtain ⟨h1, h2, h3, h4, h5⟩ := hf
    cases ex : xs.toList.drop i with
    | nil => rw [ex] at hx; simp at hx
    | cons a ra =>
      cases ey : ys.toList.drop i with
      | nil => rw [ey] at hy; simp at hy
      | cons b rb =>
        rw [ex] at hx; rw [ey] at hy
        simp only [List.map_cons, List.cons.injEq] at hx hy
        have dx : xs.toList.drop (i + 1) = ra := by rw [← List.drop_drop, ex]; rfl
        have dy : ys.toList.drop (i + 1) = rb := by rw [← List.drop_drop, ey]; rfl
        have gx : xs[i]? = some a := by rw [← Array.getElem?_toList, ← List.head?_drop, ex]; rfl
        have gy : ys[i]? = some b := by rw [← Array.getElem?_toList, ← List.head?_drop, ey]; rfl
        have ih := flat_eq (w := w) (d := d) (xs := xs) (ys := ys) fs ks (i + 1) h5 (by rw [dx]; exact hx.2) (by rw [dy]; exact hy.2)
        rw [dx, dy] at ih
        exact eqF_cons a b h1 (by rw [h2]; exact run_part_plain w h3 gx) (by rw [h2]; exact run_part_plain w h3 gy) (ceq_run h4 hx.1 hy.1) ih
  | [], _ :: _, _, hf, _, _ => hf.elim
  | _ :: _, [], _, hf, _, _ => hf.elim
theorem agg_eq {P : Program} (w : World) (t : TypeId) (xs ys : Array Value) (ks : List CK) (ht : P.underlying t = some (.struct (P.fieldsOf t))) (hp : P.stoodInHeld t = false) (hf : Flat P (P.fieldsOf t).toList ks 0) (hx : xs.toList.map ckOf = ks.map some) (hy : ys.toList.map ckOf = ks.map some) :
    (Op.equalIn 10000 t (.agg xs) (.agg ys)).run P w = .ok (ceqs xs.toList ys.toList) w := by
  rw [run_equalIn_agg w 9999 t xs ys ht hp]
  exact flat_eq (d := 9998) _ ks 0 hf hx hy
end Go.Proofs.YtnbahdnjcdimgaaDoor
namespace Go.Proofs.YtnbahdnjcdimgaaDoor
open Go.RowKit
open Sym
attribute [local irreducible] Calls
set_option maxRecDepth 100000 in
theorem flatAttr : Flat Tryd.prog (Tryd.prog.fieldsOf 32).toList [.str, .str] 0 := flat_of _ _ _ (by kernel_rfl)
set_option maxRecDepth 100000 in
theorem attr_eq (a b : List UInt8) (w : World) : (Op.equalIn 10000 32 (.agg #[.string (bstr a), .string (bstr b)]) (.agg #[.string (bstr a), .string (bstr b)])).run Tryd.prog w = .ok true w := by
  rw [agg_eq w 32 _ _ _ (by kernel_rfl) (by kernel_rfl) flatAttr rfl rfl]
  simp [ceqs, ceq, bstr_list]
set_option maxRecDepth 100000 in
theorem attrAgg (a b : List UInt8) : AggEq Tryd.prog 32 [.str a, .str b] [.str a, .str b] true := ⟨by kernel_rfl, fun _ w => attr_eq a b w⟩
set_option maxRecDepth 100000 in
theorem flatLoss : Flat Tryd.prog (Tryd.prog.fieldsOf 38).toList [.int .i64, .int .i64, .int .i64, .int .i64, .str] 0 := flat_of _ _ _ (by kernel_rfl)
set_option maxRecDepth 100000 in
theorem loss_eq (r : Int) (w : World) : (Op.equalIn 10000 38 (.agg #[.int .i64 5, .int .i64 0, .int .i64 r, .int .i64 0, .string (bstr [])]) (.agg #[.int .i64 5, .int .i64 0, .int .i64 r, .int .i64 0, .string (bstr [])])).run Tryd.prog w = .ok true w := by
  rw [agg_eq w 38 _ _ _ (by kernel_rfl) (by kernel_rfl) flatLoss rfl rfl]
  simp [ceqs, ceq, bstr_list]
set_option maxRecDepth 100000 in
theorem lossAgg (r : Int) : AggEq Tryd.prog 38 [.int .i64 5, .int .i64 0, .int .i64 r, .int .i64 0, .str []] [.int .i64 5, .int .i64 0, .int .i64 r, .int .i64 0, .str []] true := ⟨by kernel_rfl, fun _ w => loss_eq r w⟩
section
attribute [local irreducible] Sym.AggEq
/-- a slice of whole structs is read -/
theorem MkP.sl_ld {α : Type} {f : α → List Value} {sz : Nat} (hf : ∀ x, (f x).length = sz) {a : Option Addr} {l : List α} {w : World} (h : SlAt a (l.flatMap f) w) (h0 : 0 < sz) {k : Nat} {x : α} (hk : l[k]? = some x) : ∃ ad, a = some ad ∧ ∀ w', Below w.heap.size w w' → ∀ j v, (f x)[j]? = some v → w'.cell? ((ad.add (k * sz)).add j) = some v := by
  have e : ∀ j v, (f x)[j]? = some v → (l.flatMap f)[k * sz + j]? = some v := fun j v hv => (flat_at hf l k j x hk (by have := (List.getElem?_eq_some_iff.1 hv).1; rw [hf] at this; exact this)).trans hv
  obtain ⟨v0, hv0⟩ : ∃ v, (f x)[0]? = some v := ⟨_, List.getElem?_eq_getElem (by rw [hf]; exact h0)⟩
  obtain ⟨ad, rfl, hb, _⟩ := h _ _ (e 0 v0 hv0)
  refine ⟨ad, rfl, fun w' hw j v hv => ?_⟩
  obtain ⟨ad', e1, _, hc⟩ := h _ _ (e j v hv)
  cases e1
  rw [Go.Deep.add_add]
  exact (World.cell?_of_block (w := w) (by rw [add_block]; exact hw.block _ hb)).trans hc
set_option maxRecDepth 100000 in
set_option maxHeartbeats 4000000 in
theorem sameA_any (l : List (MkP.Str × MkP.Str)) (a b : Option Addr) (c1 c2 : Nat) (w : World) (h1 : SlAt a (MkP.atv l) w) (h2 : SlAt b (MkP.atv l) w) (hl : l.length ≤ 1000) : QC 5 #[.slice a l.length c1, .slice b l.length c2] w (.bool true) := by
  have hu := Tryd.underlying28
  have hsz := fun w => Tryd.sizeOf32 w
  refine yE Tryd.func5 rfl Tryd.results5 Tryd.ntmps5 [] [] [.any (.slice a l.length c1), .any (.slice b l.length c2)] w ?_
  repeat' (first | refine yX ?_ | (apply And.intro <;> intro _) | apply bothI | refine retB fun β => ?_ | intro βe | refine yO (x_len hu) ?_ | exact trivial)
  all_goals first | (exfalso; omega) | skip
  refine yZ (T := {k : Nat // k ≤ l.length}) (fun k => ⟨[(0, .any (.slice a l.length c1)), (1, .any (.slice b l.length c2)), (12, .int .i64 (l.length : Nat)), (13, .int .i64 (k.1 : Nat))], [], 0, 26⟩) (fun k => l.length - k.1) ⟨0, Nat.zero_le _⟩ [] [] (fun k I hI => ?_) (by ((with_reducible show wk _ _); repeat' (first | exact trivial | exact eqSV_refl _ | refine eqI ?_ | refine eqS ?_ | apply And.intro | exact yV | fail)))
  obtain ⟨k, hk⟩ := k
  dsimp only
  by_cases hlt : k < l.length
  · obtain ⟨p, hp⟩ : ∃ p, l[k]? = some p := ⟨_, List.getElem?_eq_getElem hlt⟩
    obtain ⟨ad, rfl, ld1⟩ := MkP.sl_ld (sz := 2) (fun _ => rfl) h1 (by decide) hp
    obtain ⟨ad2, rfl, ld2⟩ := MkP.sl_ld (sz := 2) (fun _ => rfl) h2 (by decide) hp
    repeat' (first | refine yX ?_ | (apply And.intro <;> intro _) | apply bothI | refine retB fun β => ?_ | intro βe | refine yO (x_len hu) ?_ | refine yN (j := k) hu hsz ?_ | (refine ⟨_, ?ok, x_loadAgg (vs := [.str p.1, .str p.2]) (fun w => Tryd.isAgg32 w) (fun w => Tryd.sizeOf32 w) (fun w' hb β => ld1 w' hb), ?_⟩; (case ok => exact fun _ _ => ⟨trivial, trivial, trivial⟩)) | (refine ⟨_, ?ok, x_loadAgg (vs := [.str p.1, .str p.2]) (fun w => Tryd.isAgg32 w) (fun w => Tryd.sizeOf32 w) (fun w' hb β => ld2 w' hb), ?_⟩; (case ok => exact fun _ _ => ⟨trivial, trivial, trivial⟩)) | (refine ⟨true, attrAgg p.1 p.2, ?_⟩) | exact trivial)
    all_goals first | (exfalso; omega) | (exfalso; simp_all; done) | skip
    all_goals exact hI _ ⟨k + 1, hlt⟩ (by dsimp only; omega) (by ((with_reducible show wk _ _); repeat' (first | exact trivial | exact eqSV_refl _ | refine eqI ?_ | refine eqS ?_ | apply And.intro | exact yV | fail)))
  · repeat' (first | refine yX ?_ | (apply And.intro <;> intro _) | apply bothI | refine retB fun β => ?_ | intro βe | refine yO (x_len hu) ?_ | exact trivial)
    all_goals first | (exfalso; omega) | rfl | skip
set_option maxRecDepth 100000 in
set_option maxHeartbeats 4000000 in
theorem requal_any (l : List Nat) (a b : Option Addr) (c1 c2 : Nat) (w : World) (h1 : SlAt a (MkP.lovs l) w) (h2 : SlAt b (MkP.lovs l) w) (hl : l.length ≤ 1000) : QC 8 #[.slice a l.length c1, .slice b l.length c2] w (.bool true) := by
  have hu := Tryd.underlying23
  have hsz := fun w => Tryd.sizeOf38 w
  refine yE Tryd.func8 rfl Tryd.results8 Tryd.ntmps8 [] [] [.any (.slice a l.length c1), .any (.slice b l.length c2)] w ?_
  repeat' (first | refine yX ?_ | (apply And.intro <;> intro _) | apply bothI | refine retB fun β => ?_ | intro βe | refine yO (x_len hu) ?_ | exact trivial)
  all_goals first | (exfalso; omega) | skip
  refine yZ (T := {k : Nat // k ≤ l.length}) (fun k => ⟨[(0, .any (.slice a l.length c1)), (1, .any (.slice b l.length c2)), (12, .int .i64 (l.length : Nat)), (13, .int .i64 (k.1 : Nat))], [], 0, 26⟩) (fun k => l.length - k.1) ⟨0, Nat.zero_le _⟩ [] [] (fun k I hI => ?_) (by ((with_reducible show wk _ _); repeat' (first | exact trivial | exact eqSV_refl _ | refine eqI ?_ | refine eqS ?_ | apply And.intro | exact yV | fail)))
  obtain ⟨k, hk⟩ := k
  dsimp only
  by_cases hlt : k < l.length
  · obtain ⟨p, hp⟩ : ∃ p, l[k]? = some p := ⟨_, List.getElem?_eq_getElem hlt⟩
    obtain ⟨ad, rfl, ld1⟩ := MkP.sl_ld (sz := 5) (fun _ => rfl) h1 (by decide) hp
    obtain ⟨ad2, rfl, ld2⟩ := MkP.sl_ld (sz := 5) (fun _ => rfl) h2 (by decide) hp
    repeat' (first | refine yX ?_ | (apply And.intro <;> intro _) | apply bothI | refine retB fun β => ?_ | intro βe | refine yO (x_len hu) ?_ | refine yN (j := k) hu hsz ?_ | (refine ⟨_, ?ok, x_loadAgg (vs := [.int .i64 5, .int .i64 0, .int .i64 (p : Nat), .int .i64 0, .str []]) (fun w => Tryd.isAgg38 w) (fun w => Tryd.sizeOf38 w) (fun w' hb β => ld1 w' hb), ?_⟩; (case ok => exact fun _ _ => ⟨trivial, trivial, trivial, trivial, trivial, trivial⟩)) | (refine ⟨_, ?ok, x_loadAgg (vs := [.int .i64 5, .int .i64 0, .int .i64 (p : Nat), .int .i64 0, .str []]) (fun w => Tryd.isAgg38 w) (fun w => Tryd.sizeOf38 w) (fun w' hb β => ld2 w' hb), ?_⟩; (case ok => exact fun _ _ => ⟨trivial, trivial, trivial, trivial, trivial, trivial⟩)) | (refine ⟨true, lossAgg (p : Nat), ?_⟩) | exact trivial)
    all_goals first | (exfalso; omega) | (exfalso; simp_all; done) | skip
    all_goals exact hI _ ⟨k + 1, hlt⟩ (by dsimp only; omega) (by ((with_reducible show wk _ _); repeat' (first | exact trivial | exact eqSV_refl _ | refine eqI ?_ | refine eqS ?_ | apply And.intro | exact yV | fail)))
  · repeat' (first | refine yX ?_ | (apply And.intro <;> intro _) | apply bothI | refine retB fun β => ?_ | intro βe | refine yO (x_len hu) ?_ | exact trivial)
    all_goals first | (exfalso; omega) | rfl | skip
set_option maxRecDepth 100000 in
set_option maxHeartbeats 4000000 in
theorem sameF_any (E F : List MkP.El) (a b : Option Addr) (c1 c2 : Nat) (w : World) (h1 : SlAt a (MkP.elvs E) w) (h2 : SlAt b (MkP.elvs F) w) (hE : ∀ x ∈ E, SlAt x.a (MkP.atv x.at_) w ∧ x.at_.length ≤ 1000) (hF : ∀ x ∈ F, SlAt x.a (MkP.atv x.at_) w) (he : E.map MkP.ec = F.map MkP.ec) (hl : E.length ≤ 100000) : QC 7 #[.slice a E.length c1, .slice b F.length c2] w (.bool true) := by
  have hu := Tryd.underlying22
  have hsz := fun w => Tryd.sizeOf30 w
  have hEF : F.length = E.length := by have := congrArg List.length he; simpa using this.symm
  rw [hEF]
  refine yE Tryd.func7 rfl Tryd.results7 Tryd.ntmps7 [] [] [.any (.slice a E.length c1), .any (.slice b E.length c2)] w ?_
  repeat' (first | refine yX ?_ | (apply And.intro <;> intro _) | apply bothI | refine retB fun β => ?_ | intro βe | refine yO (x_len hu) ?_ | exact trivial)
  all_goals first | (exfalso; omega) | skip
  refine yZ (T := {k : Nat // k ≤ E.length}) (fun k => ⟨[(0, .any (.slice a E.length c1)), (1, .any (.slice b E.length c2)), (12, .int .i64 (E.length : Nat)), (13, .int .i64 (k.1 : Nat))], [], 0, 55⟩) (fun k => E.length - k.1) ⟨0, Nat.zero_le _⟩ [] [] (fun k I hI => ?_) (by ((with_reducible show wk _ _); repeat' (first | exact trivial | exact eqSV_refl _ | refine eqI ?_ | refine eqS ?_ | apply And.intro | exact yV | fail)))
  obtain ⟨k, hk⟩ := k
  dsimp only
  by_cases hlt : k < E.length
  · obtain ⟨x, hx⟩ : ∃ x, E[k]? = some x := ⟨_, List.getElem?_eq_getElem hlt⟩
    obtain ⟨y, hy⟩ : ∃ y, F[k]? = some y := ⟨_, List.getElem?_eq_getElem (by omega)⟩
    have hxy : MkP.ec x = MkP.ec y := by
      have := congrArg (fun l => l[k]?) he
      simp only [List.getElem?_map, hx, hy, Option.map_some, Option.some.injEq] at this
      exact this
    have hxE := List.mem_of_getElem? hx
    have hyF := List.mem_of_getElem? hy
    obtain ⟨ad, rfl, ld1⟩ := MkP.sl_ld (sz := 3) (fun _ => rfl) h1 (by decide) hx
    obtain ⟨ad2, rfl, ld2⟩ := MkP.sl_ld (sz := 3) (fun _ => rfl) h2 (by decide) hy
    obtain ⟨xc, xa, xcap, xat⟩ := x
    obtain ⟨yc, ya, ycap, yat⟩ := y
    obtain ⟨rfl, rfl⟩ : xc = yc ∧ xat = yat := by
      unfold MkP.ec at hxy
      exact ⟨congrArg Prod.fst hxy, congrArg Prod.snd hxy⟩
    have SA := fun (w' : World) (hb : Below w.heap.size w w') => sameA_any xat xa ya xcap ycap w' ((hE _ hxE).1.below hb) ((hF _ hyF).below hb) (hE _ hxE).2
    repeat' (first | refine yX ?_ | (apply And.intro <;> intro _) | apply bothI | refine retB fun β => ?_ | intro βe | refine yO (x_len hu) ?_ | refine yN (j := k) hu hsz ?_ | refine yO (x_field Tryd.underlying30 rfl (fun w => Tryd.sizeOf3 w) (by decide)) ?_ | refine yO (x_field Tryd.underlying30 rfl (fun w => Tryd.sizeOf28 w) (by decide)) ?_ | refine yO (x_load1 (v := .int .i64 (xc : Nat)) (fun w => Tryd.isAgg3 w) (fun w' hb β => ld1 w' hb 0 _ rfl)) ?_ | refine yO (x_load1 (v := .int .i64 (xc : Nat)) (fun w => Tryd.isAgg3 w) (fun w' hb β => ld2 w' hb 0 _ rfl)) ?_ | refine yO (x_load1 (v := .int .i64 0) (fun w => Tryd.isAgg3 w) (fun w' hb β => ld1 w' hb 1 _ rfl)) ?_ | refine yO (x_load1 (v := .int .i64 0) (fun w => Tryd.isAgg3 w) (fun w' hb β => ld2 w' hb 1 _ rfl)) ?_ | refine yO (x_load1 (v := .any (.slice xa xat.length xcap)) (fun w => Tryd.isAgg28 w) (fun w' hb β => ld1 w' hb 2 _ rfl)) ?_ | refine yO (x_load1 (v := .any (.slice ya xat.length ycap)) (fun w => Tryd.isAgg28 w) (fun w' hb β => ld2 w' hb 2 _ rfl)) ?_ | refine yK (.lit true) (fun β w hm => SA w hm.below) ?_ | (refine ⟨.lit true, by kernel_rfl, trivial, fun β w hm => SA w hm.below, ?_⟩) | exact trivial)
    all_goals first | (exfalso; omega) | (exfalso; simp_all; done) | skip
    all_goals exact hI _ ⟨k + 1, hlt⟩ (by dsimp only; omega) (by ((with_reducible show wk _ _); repeat' (first | exact trivial | exact eqSV_refl _ | refine eqI ?_ | refine eqS ?_ | apply And.intro | exact yV | fail)))
  · repeat' (first | refine yX ?_ | (apply And.intro <;> intro _) | apply bothI | refine retB fun β => ?_ | intro βe | refine yO (x_len hu) ?_ | exact trivial)
    all_goals first | (exfalso; omega) | rfl | skip
end
end Go.Proofs.YtnbahdnjcdimgaaDoor
namespace Go.Proofs.YtnbahdnjcdimgaaDoor
namespace MkP
open VaP
theorem suf_one {l : Str} (h : l ≠ []) : Lib.hasSuffix l [13] = decide ((l.getD (l.length - 1) 0).toNat = 13) := by
  have e : l = l.take (l.length - 1) ++ [l.getD (l.length - 1) 0] := by
    have hp := List.length_pos_iff.2 h
    have := take_next0 l (l.length - 1) (by omega)
    rw [show l.length - 1 + 1 = l.length by omega, List.take_length] at this
    exact this
  generalize l.take (l.length - 1) = a at *
  generalize l.getD (l.length - 1) 0 = c at *
  subst e
  unfold Lib.hasSuffix
  rw [Bool.eq_iff_iff, decide_eq_true_eq]
  simp only [List.isSuffixOf, List.reverse_append, List.reverse_cons, List.reverse_nil, List.nil_append, List.singleton_append, List.isPrefixOf, Bool.and_true, beq_iff_eq]
  rw [← UInt8.toNat_inj]
  exact ⟨fun h => h.symm, fun h => h.symm⟩
theorem cr_nil : cr [] = [] := rfl
theorem cr_yes {l : Str} (h : l ≠ []) (h1 : (l.getD (l.length - 1) 0).toNat = 13) : cr l = l.take (l.length - 1) := by
  unfold cr Lib.trimSuffix
  rw [suf_one h, decide_eq_true h1, if_pos rfl]; rfl
theorem cr_no {l : Str} (h : l ≠ []) (h1 : ¬ (l.getD (l.length - 1) 0).toNat = 13) : cr l = l := by
  unfold cr Lib.trimSuffix
  rw [suf_one h, decide_eq_false h1, if_neg (by simp)]
theorem trim_lo {L : List Str} {i j : Nat} (h : i < j) (hj : j ≤ L.length) : (trimTo j L).getD i [] = cr (L.getD i []) := by
  have e1 : ((L.take j).map cr).length = j := by simp; omega
  unfold trimTo
  rw [List.getD_eq_getElem?_getD, List.getElem?_append_left (by omega), List.getElem?_map, List.getElem?_take, if_pos h, List.getD_eq_getElem?_getD, List.getElem?_eq_getElem (show i < L.length by omega)]
  rfl
theorem trim_hi {L : List Str} {i j : Nat} (h : j ≤ i) (hj : j ≤ L.length) : (trimTo j L).getD i [] = L.getD i [] := by
  have e1 : ((L.take j).map cr).length = j := by simp; omega
  unfold trimTo
  rw [List.getD_eq_getElem?_getD, List.getElem?_append_right (by omega), e1, List.getElem?_drop, show j + (i - j) = i by omega, List.getD_eq_getElem?_getD]
/-- the lines by their places -/
structure LN (S LL : List Str) (M N : Nat) : Prop where
  m : S.length = M
  m1 : 1 ≤ M
  n : LL.length = N
  lo : ∀ i, i < M - 1 → i < N ∧ LL.getD i [] = cr (S.getD i [])
  hi : S.getD (M - 1) [] = [] → 1 < M → N = M - 1
  hi2 : ¬ (S.getD (M - 1) [] = [] ∧ 1 < M) → N = M ∧ LL.getD (M - 1) [] = S.getD (M - 1) []
theorem lines_LN (s : Str) : LN (splitC 10 s) (lines s) (splitC 10 s).length (lines s).length := by
  obtain ⟨M, hM⟩ : ∃ M, (splitC 10 s).length = M := ⟨_, rfl⟩
  have hm1 : 1 ≤ M := by rw [← hM]; exact List.length_pos_iff.2 (split_ne 10 s)
  have hal : (allL s).length = M := by unfold allL; rw [trimTo_len _ _ (by omega), hM]
  have hlo : ∀ i, i < M - 1 → (allL s).getD i [] = cr ((splitC 10 s).getD i []) := fun i hi => by unfold allL; rw [hM]; exact trim_lo hi (by omega)
  have hhi : (allL s).getD (M - 1) [] = (splitC 10 s).getD (M - 1) [] := by unfold allL; rw [hM]; exact trim_hi (Nat.le_refl _) (by omega)
  have hL : lines s = if 1 < M ∧ (splitC 10 s).getD (M - 1) [] = [] then (allL s).take (M - 1) else allL s := by unfold lines; rw [hal, hhi]
  rw [hM]
  by_cases hc : 1 < M ∧ (splitC 10 s).getD (M - 1) [] = []
  · rw [if_pos hc] at hL
    have hN : (lines s).length = M - 1 := by rw [hL, List.length_take, hal]; omega
    refine ⟨hM, hm1, rfl, fun i hi => ⟨by omega, ?_⟩, fun _ _ => hN, fun h => absurd ⟨hc.2, hc.1⟩ h⟩
    rw [hL, List.getD_eq_getElem?_getD, List.getElem?_take, if_pos hi, ← List.getD_eq_getElem?_getD]
    exact hlo i hi
  · rw [if_neg hc] at hL
    have hN : (lines s).length = M := by rw [hL, hal]
    exact ⟨hM, hm1, rfl, fun i hi => ⟨by omega, by rw [hL]; exact hlo i hi⟩, fun h1 h2 => absurd ⟨h2, h1⟩ hc, fun _ => ⟨hN, by rw [hL]; exact hhi⟩⟩
theorem pre_get {s p : Str} {i : Nat} {c : UInt8} (h : Lib.hasPrefix s p = true) (hi : p[i]? = some c) : s.getD i 0 = c := by
  obtain ⟨t, rfl⟩ := List.isPrefixOf_iff_prefix.1 h
  rw [List.getD_eq_getElem?_getD, List.getElem?_append_left (List.getElem?_eq_some_iff.1 hi).1, hi]; rfl
end MkP
end Go.Proofs.YtnbahdnjcdimgaaDoor
namespace Go.Proofs.YtnbahdnjcdimgaaDoor
open Go.RowKit
namespace Sym
/-- the first append, of any slice, to no slice at all -/
theorem opx_append0W {C : Ctx} {d : Nat} {ty : TypeId} {pos : String} {after : Array Edge} {gd : Option (Nat × Bool)} {fr : List (Nat × SV)} {rows : List (Nat × Bool × SRow)} {nx n : Nat} {K : St → Prop}
    {x y : Operand} {t e : TypeId} {sz : Nat} {ad : Addr} {m c2 : Nat} {ys : List Value} {inf : TypeInfo} {z : Value} (hd : Nat.blt d n = true)
    (ht : C.P.underlying t = some (.slice e)) (hi : C.P.info? e = some inf) (hz : inf.zero = some z) (hsize : inf.size = sz) (hzs : z.cells.size = sz) (h0 : 0 < sz)
    (hx : ev fr x = some (.any (.slice none 0 0))) (hy : ev fr y = some (.any (.slice (some ad) m c2)))
    (hyl : ys.length = m * sz) (hys : ∀ β w, Mem C.base C.w0 rows nx β w → SlAt (some ad) ys w)
    (h63 : m ≤ maxLen) (hbytes : m * inf.bytes ≤ 140737488355328) (h1 : ∀ u ∈ ys, u.oneCell' = true) (hm0 : 0 < m)
    (h : ∀ g' cap', K ⟨(d, .any (.slice (some ⟨g', 0, none⟩) m cap')) :: fr, (nx, true, .blob (OwnS e sz g' m cap' ys)) :: rows, nx + 1, n⟩) :
    OpX C ⟨some d, .call ⟨.builtin .append, ⟨[x, y]⟩, ⟨[t, t]⟩⟩, ty, pos, after, gd⟩ ⟨fr, rows, nx, n⟩ K := by
  unfold OpX
  intro β a w hs next Q hnn0
  have hm := hs.mem
  have hyw := hys β w hm
  obtain ⟨v', w', hr, h2, h3, h4, h5⟩ := run_append_own_at (P := C.P) w C.base t ty e inf z sz inf.bytes ht hi hz hsize rfl hzs h0 _ 0 [] (owns_nil w C.base e sz) ad m c2 ys hyl (fun j u hj => by obtain ⟨ad', e0, -, hc⟩ := hyw j u hj; cases e0; exact hc) h1 (by omega) (by rw [Nat.zero_add]; exact hbytes) hm.base_le
  have hnn : ¬ v' = .slice none 0 0 := fun e0 => by have := (h4.1 e0).2; omega
  obtain ⟨hlen, hor⟩ := h2
  rcases hor with ⟨e0, e1⟩ | ⟨g', cap', cur, rfl, hb', hc', hn', hm', hs', ht'⟩
  · exact absurd e0 hnn
  have hblk : g' = w.heap.size := by simpa [Value.ownBlock] using h5
  unfold Oper.wp
  have e1 := (ev_sound hs hx).1
  have e2 := (ev_sound hs hy).1
  have hrun : (execOp a.eval ⟨some d, .call ⟨.builtin .append, ⟨[x, y]⟩, ⟨[t, t]⟩⟩, ty, pos, after, gd⟩).run C.P w = .ok (.value (.slice (some ⟨g', 0, none⟩) (0 + m) cap')) w' := by
    unfold execOp
    simp only [resolve, invoke, builtin, Sem.run_bind, Sem.run_pure, Result.andThen_ok, List.map_toArray, List.map_cons, List.map_nil, e1, e2, SV.den, hr]
  rw [hrun]
  simp only [Nat.zero_add, List.nil_append] at *
  have hsz' : g' < w'.heap.size := by
    rcases Nat.lt_or_ge g' w'.heap.size with h0 | h0
    · exact h0
    · rw [Array.getElem?_eq_none h0] at hc'; cases hc'
  have hbel : Below w.heap.size w w' := ⟨h3.os, h3.tape, h3.output, h3.size, fun k hk => h3.block k hk (by simp [Value.ownBlock])⟩
  have hs' : Sat C.base C.w0 ⟨fr, rows, nx, n⟩ β a w' := ⟨hs.defers, hs.size, hs.slot, hm.belowNext hbel⟩
  have hs2 := hs'.learn (o := true) (b := g') (Φ := OwnS e sz g' m cap' ys) hsz' ⟨rfl, cur, hc', hn', hm', by assumption, ht', hlen⟩ (fun _ => ⟨hb', fun i o' r hi => by have := hm.lt i (hm.row i o' r hi).2.2.1; omega⟩) (fun i r hi => by have := hm.lt i (hm.row i true r hi).2.2.1; omega) (fun _ q hq => by have := (hm.pr q hq).1; omega)
  have hs3 := hs2.put (d := d) (by simpa [Nat.blt_eq] using hd) (v := .any (.slice (some ⟨g', 0, none⟩) m cap')) rfl
  exact hnn0 _ _ _ _ (h g' cap') hs3
/-- any slice is put behind a slice of one's own, or behind none -/
theorem opx_appendV {C : Ctx} {d : Nat} {ty : TypeId} {pos : String} {after : Array Edge} {gd : Option (Nat × Bool)} {fr : List (Nat × SV)} {rows : List (Nat × Bool × SRow)} {nx n : Nat} {K : St → Prop}
    {x y : Operand} {t e : TypeId} {sz : Nat} (i : Nat) {ob : Bool} {a y0 : Option Addr} {n1 cap1 m c2 : Nat} {xs ys : List Value} {inf : TypeInfo} {z : Value} (hd : Nat.blt d n = true)
    (ht : C.P.underlying t = some (.slice e)) (hi : C.P.info? e = some inf) (hz : inf.zero = some z) (hsize : inf.size = sz) (hzs : z.cells.size = sz) (h0 : 0 < sz)
    (hx : ev fr x = some (.any (.slice a n1 cap1))) (hy : ev fr y = some (.any (.slice y0 m c2)))
    (ri : get rows i = some (ob, .blob (OwnZ ob e sz a n1 cap1 xs))) (hyn : y0 = none → c2 = 0) (hyl : ys.length = m * sz) (hys : ∀ β w, Mem C.base C.w0 rows nx β w → SlAt y0 ys w)
    (h63 : n1 + m ≤ maxLen) (hbytes : (n1 + m) * inf.bytes ≤ 140737488355328) (h1 : ∀ u ∈ ys, u.oneCell' = true) (hno : (mentF i fr || mentR i rows) = false) (hni : C.w0.n0 ≤ i) (hnx : noneB rows nx = true) (hin : Nat.blt i nx = true) (hb0 : 0 < C.base)
    (h : ∀ ob' a' cap', K ⟨(d, .any (.slice a' (n1 + m) cap')) :: fr, (i, ob', .blob (OwnZ ob' e sz a' (n1 + m) cap' (xs ++ ys))) :: rows, nx + 1, n⟩) :
    OpX C ⟨some d, .call ⟨.builtin .append, ⟨[x, y]⟩, ⟨[t, t]⟩⟩, ty, pos, after, gd⟩ ⟨fr, rows, nx, n⟩ K := by
  cases ob with
  | true =>
    unfold OpX
    intro β act w hs next Q hn
    obtain ⟨k1, -, -, -⟩ := hs.mem.row i _ _ ri
    obtain ⟨g, rfl, ho⟩ := k1.2
    have hs2 := hs.rerow ri (r' := .blob (OwnS e sz g n1 cap1 xs)) ⟨k1.1, ho⟩ trivial
    have ri2 : get ((i, true, SRow.blob (OwnS e sz g n1 cap1 xs)) :: rows) i = some (true, .blob (OwnS e sz g n1 cap1 xs)) := by rw [get_cons, if_pos rfl]
    have hys2 : ∀ β w, Mem C.base C.w0 ((i, true, SRow.blob (OwnS e sz g n1 cap1 xs)) :: rows) nx β w → SlAt y0 ys w := fun β' w2 hm2 => by
      have hq : Sat C.base C.w0 ⟨[], (i, true, SRow.blob (OwnS e sz g n1 cap1 xs)) :: rows, nx, 0⟩ β' ⟨#[], []⟩ w2 := ⟨rfl, rfl, fun s v hv => by simp [get] at hv, hm2⟩
      obtain ⟨p1, -, -, -⟩ := hm2.row i _ _ ri2
      have h3' := hq.rerow ri2 (r' := .blob (OwnZ true e sz (some ⟨g, 0, none⟩) n1 cap1 xs)) ⟨p1.1, _, rfl, p1.2⟩ trivial
      exact hys β' w2 (h3'.someRows (ro := rows) fun q v hq => by
        rw [get_cons]
        by_cases e0 : i = q
        · subst e0; rw [if_pos rfl, ri] at *; cases hq; rfl
        · rw [if_neg e0, get_cons, if_neg e0]; exact hq).mem
    have key : OpX C ⟨some d, .call ⟨.builtin .append, ⟨[x, y]⟩, ⟨[t, t]⟩⟩, ty, pos, after, gd⟩ ⟨fr, (i, true, .blob (OwnS e sz g n1 cap1 xs)) :: rows, nx, n⟩ K := by
      refine (opx_appendW i hd ht hi hz hsize hzs h0 hx hy ri2 hyn hyl hys2 h63 hbytes h1 (by simpa [mentR, ments] using hno) hni (K := fun st => ∃ g' cap', st = ⟨(d, .any (.slice (some ⟨g', 0, none⟩) (n1 + m) cap')) :: fr, (i, true, .blob (OwnS e sz g' (n1 + m) cap' (xs ++ ys))) :: (i, true, .blob (OwnS e sz g n1 cap1 xs)) :: rows, nx, n⟩) (fun g' cap' => ⟨g', cap', rfl⟩)).mono fun st' β' a' w' h1' h2' => ?_
      obtain ⟨g', cap', rfl⟩ := h1'
      have ri3 : get ((i, true, SRow.blob (OwnS e sz g' (n1 + m) cap' (xs ++ ys))) :: (i, true, SRow.blob (OwnS e sz g n1 cap1 xs)) :: rows) i = some (true, .blob (OwnS e sz g' (n1 + m) cap' (xs ++ ys))) := by rw [get_cons, if_pos rfl]
      obtain ⟨p1, -, -, -⟩ := h2'.mem.row i _ _ ri3
      have h3' := h2'.rerow ri3 (r' := .blob (OwnZ true e sz (some ⟨g', 0, none⟩) (n1 + m) cap' (xs ++ ys))) ⟨p1.1, _, rfl, p1.2⟩ trivial
      have h4' := h3'.someRows (ro := (i, true, .blob (OwnZ true e sz (some ⟨g', 0, none⟩) (n1 + m) cap' (xs ++ ys))) :: rows) fun q v hq => by
        rw [get_cons] at hq ⊢
        by_cases e0 : i = q
        · rw [if_pos e0] at hq ⊢; exact hq
        · rw [if_neg e0] at hq ⊢; rw [get_cons, if_neg e0, get_cons, if_neg e0]; exact hq
      exact ⟨_, _, h true (some ⟨g', 0, none⟩) cap', h4'.reserve 1 hb0⟩
    unfold OpX at key
    exact key β act w hs2 next Q hn
  | false =>
    unfold OpX
    intro β act w hs next Q hn
    obtain ⟨k1, -, k3, -⟩ := hs.mem.row i _ _ ri
    obtain ⟨rfl, rfl, rfl, rfl⟩ := k1.2
    have hm := hs.mem
    have hyw := hys β w hm
    rcases Nat.eq_zero_or_pos m with rfl | hm0
    · have hys0 : ys = [] := List.eq_nil_of_length_eq_zero (by rw [hyl, Nat.zero_mul])
      subst hys0
      have e1 := (ev_sound hs hx).1
      have e2 := (ev_sound hs hy).1
      have key : ∃ w', (Builtin.append_ #[t, t] ty #[.slice none 0 0, .slice y0 0 c2]).run C.P w = .ok (.slice none 0 0) w' ∧ Below w.heap.size w w' := by
        cases y0 with
        | none =>
          have hc2 := hyn rfl
          subst hc2
          exact ⟨w, run_append_owned_none (P := C.P) (w := w) C.base t ty e inf sz ht hi _ 0 [] (owns_nil w C.base e sz), Below.refl _ _⟩
        | some ad =>
          obtain ⟨v', w', hr, h2, h3, h4, h5⟩ := run_append_own_at (P := C.P) w C.base t ty e inf z sz inf.bytes ht hi hz hsize rfl hzs h0 _ 0 [] (owns_nil w C.base e sz) ad 0 c2 [] (by simp) (fun j u hj => by simp at hj) h1 (by omega) (by simp) hm.base_le
          have hv : v' = .slice none 0 0 := h4.2 ⟨rfl, rfl⟩
          subst hv
          exact ⟨w', hr, ⟨h3.os, h3.tape, h3.output, h3.size, fun k hk => h3.block k hk (by simp [Value.ownBlock])⟩⟩
      obtain ⟨w', hr, hbel⟩ := key
      have hrun : (execOp act.eval ⟨some d, .call ⟨.builtin .append, ⟨[x, y]⟩, ⟨[t, t]⟩⟩, ty, pos, after, gd⟩).run C.P w = .ok (.value (.slice none 0 0)) w' := by
        unfold execOp
        simp only [resolve, invoke, builtin, Sem.run_bind, Sem.run_pure, Result.andThen_ok, List.map_toArray, List.map_cons, List.map_nil, e1, e2, SV.den, hr]
      unfold Oper.wp
      rw [hrun]
      have hs' : Sat C.base C.w0 ⟨fr, rows, nx, n⟩ β act w' := ⟨hs.defers, hs.size, hs.slot, hm.belowNext hbel⟩
      have hs1 : Sat C.base C.w0 ⟨fr, (i, false, .blob (OwnZ false e sz none (0 + 0) 0 ([] ++ []))) :: rows, nx, n⟩ β act w' := hs'.someRows fun q v hq => by
        rw [get_cons] at hq
        by_cases e0 : i = q
        · subst e0; rw [if_pos rfl] at hq; cases hq; exact ri
        · rw [if_neg e0] at hq; exact hq
      have hs3 := (hs1.reserve 1 hb0).put (d := d) (by simpa [Nat.blt_eq] using hd) (v := .any (.slice none (0 + 0) 0)) rfl
      exact hn _ _ _ _ (h false none 0) hs3
    obtain ⟨ad, rfl⟩ : ∃ ad, y0 = some ad := SlAt.some hyw (fun e0 => by subst e0; have := Nat.mul_pos hm0 h0; simp at hyl; omega)
    have key : OpX C ⟨some d, .call ⟨.builtin .append, ⟨[x, y]⟩, ⟨[t, t]⟩⟩, ty, pos, after, gd⟩ ⟨fr, rows, nx, n⟩ K := by
      refine (opx_append0W hd ht hi hz hsize hzs h0 hx hy hyl hys (by omega) (by simpa using hbytes) h1 hm0 (K := fun st => ∃ g' cap', st = ⟨(d, .any (.slice (some ⟨g', 0, none⟩) m cap')) :: fr, (nx, true, .blob (OwnS e sz g' m cap' ys)) :: rows, nx + 1, n⟩) (fun g' cap' => ⟨g', cap', rfl⟩)).mono fun st' β' a' w' h1' h2' => ?_
      obtain ⟨g', cap', rfl⟩ := h1'
      have ri3 : get ((nx, true, SRow.blob (OwnS e sz g' m cap' ys)) :: rows) nx = some (true, .blob (OwnS e sz g' m cap' ys)) := by rw [get_cons, if_pos rfl]
      obtain ⟨p1, -, -, -⟩ := h2'.mem.row nx _ _ ri3
      have h3' := h2'.rerow ri3 (r' := .blob (OwnZ true e sz (some ⟨g', 0, none⟩) (0 + m) cap' ([] ++ ys))) ⟨p1.1, _, rfl, by rw [Nat.zero_add, List.nil_append]; exact p1.2⟩ trivial
      have h4' := h3'.someRows (ro := (nx, true, .blob (OwnZ true e sz (some ⟨g', 0, none⟩) (0 + m) cap' ([] ++ ys))) :: rows) fun q v hq => by
          rw [get_cons] at hq ⊢
          by_cases e0 : nx = q
          · rw [if_pos e0] at hq ⊢; exact hq
          · rw [if_neg e0] at hq ⊢; rw [get_cons, if_neg e0]; exact hq
      have hin' : i < nx := by simpa [Nat.blt_eq] using hin
      have h5' := h4'.mv i nx (by omega) (by omega) (noneB_get rows nx hnx) hni (by simpa [mentF, ment] using hno)
      have h6 := h true (some ⟨g', 0, none⟩) cap'
      rw [show SV.any (.slice (some ⟨g', 0, none⟩) m cap') = .any (.slice (some ⟨g', 0, none⟩) (0 + m) cap') by rw [Nat.zero_add]] at h5'
      exact ⟨_, _, h6, h5'⟩
    unfold OpX at key
    exact key β act w hs next Q hn
theorem back_mv {C : Ctx} {I : Act → World → Prop} {fr : List (Nat × SV)} {rows : List (Nat × Bool × SRow)} {nx n : Nat} (i j : Nat) {Φ : Nat → Option Obj → Prop} (hi : Nat.blt i nx = true) (hij : Nat.beq i j = false) (hj : noneB rows j = true) (hn0 : C.w0.n0 ≤ i) (hno : (mentF i fr || mentR i rows) = false) (h : BackN C I ⟨fr, (i, true, .blob Φ) :: rows, nx, n⟩) : BackN C I ⟨fr, (j, true, .blob Φ) :: rows, nx, n⟩ := by
  unfold BackN at h ⊢
  exact fun β a w hs => h _ a w (hs.mv i j (by simpa [Nat.blt_eq] using hi) (Nat.ne_of_beq_eq_false hij) (noneB_get rows j hj) hn0 hno)
end Sym
end Go.Proofs.YtnbahdnjcdimgaaDoor
