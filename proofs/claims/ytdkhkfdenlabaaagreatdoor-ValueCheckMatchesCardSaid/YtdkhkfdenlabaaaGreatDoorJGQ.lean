/- Fractions of the reference: RatOf, Frac. Equality of structs, field by field. Fractions of the reference: sums, products, signs; equality of fractions. The law of operations: its helpers, and the law itself. Whole numbers as texts and fractions: the reference's Decimal, unsigned, Whole; the program's Of, Ratio. Whole numbers as fractions: the reference's unsigned, Whole; the program's Of, Ratio. -/
import Derived.Test.YtdkhkfdenlabaaaGreatDoorJGP
import Derived.Test.YtdkhkfdenlabaaaGreatDoorJGA
import Derived.ChangeKeysEq
set_option linter.unusedSimpArgs false
set_option linter.unusedVariables false
namespace Go.Proofs.YtdkhkfdenlabaaaGreatDoor
open Go.RowKit
open Sym
attribute [local irreducible] Calls Sym.AggEq ExP.nd ExP.dig ExP.upd
set_option maxRecDepth 100000 in
set_option maxHeartbeats 4000000 in
theorem rfrac_any (x : FrV) (w : World) (hw0 : 0 < w.heap.size) (hx : FrIn .i64 10 x w) (hd : 0 < x.d)
    (hxn : ExP.nd 10 x.n ≤ 1000000) (hxd : ExP.nd 10 x.d ≤ 1000000) :
    Calls Tryz.prog 103 #[x.val 10] w (WrOut (ExP.writeF x.num) (ExP.writeE x.num) w) := by
  obtain ⟨m, n, d, a, c, b, e⟩ := x
  obtain ⟨hx1, hx2, ⟨hx3, hx4, hx5, hx6⟩⟩ := hx
  dsimp only [FrV.num, FrV.val] at *
  have hF : ExP.writeF ⟨m, n, d⟩ = if n = 0 then ([48], [49]) else if (300 < (Lib.decDigits (n / Nat.gcd n d)).length ∨ 300 < (Lib.decDigits (d / Nat.gcd n d)).length) then ([], []) else (ExP.signP m (Lib.decDigits (n / Nat.gcd n d)), Lib.decDigits (d / Nat.gcd n d)) := rfl
  have hE : ExP.writeE ⟨m, n, d⟩ = if n = 0 then 0 else if (300 < (Lib.decDigits (n / Nat.gcd n d)).length ∨ 300 < (Lib.decDigits (d / Nat.gcd n d)).length) then 19 else 0 := rfl
  have hrp := fun h => ExP.red_pos (x := ⟨m, n, d⟩) h hd
  simp only [ExP.redN, ExP.redD] at hrp
  generalize ExP.writeF ⟨m, n, d⟩ = F at *
  generalize ExP.writeE ⟨m, n, d⟩ = E at *
  by_cases hn : n = 0
  · rw [if_pos hn] at hF hE
    have h0 := ExP.nd_zero 10
    subst hF hE hn
    refine enter env_ok Tryz.func103 rfl Tryz.results103 Tryz.ntmps103 [] [] [.agg [.bool m, .any (.slice a (ExP.nd 10 0) c), .any (.slice b (ExP.nd 10 d) e)]] ⟨⟨trivial, rfl, rfl, trivial⟩, trivial⟩ (Nat.le_of_ble_eq_true rfl) w _ 1000 ?_
    repeat' (first | ((with_reducible first | show wpS .. | show putD .. | show putW .. | show splitG .. | show wpQ .. | show wpD .. | show wpX .. | show expX .. | show stepX .. | show keepR .. | show wpY ..); conv => whnf) | ((with_reducible show RetN ..); refine retB fun β => ?_) | ((with_reducible show _ ∧ _); first | (refine ⟨fun h => absurd h (by first | omega | decide), fun _ => ?_⟩) | (refine ⟨fun _ => ?_, fun h => absurd h (by first | omega | decide)⟩) | (refine ⟨fun _ => ?_, fun _ => ?_⟩) | (apply And.intro; · kernel_rfl) | (apply And.intro; · (show inK _ _; unfold inK; omega)) | (apply And.intro; · (show (_ : Int) ≤ 9223372036854775807; (try simp only [lenS]); omega))) | ((with_reducible show AllBe ..); refine allBe fun βe => ?_; conv => whnf) | ((with_reducible show bothX ..); refine bothI ?_ ?_; conv => whnf) | (with_reducible exact trivial) | ((with_reducible show CallN ..); refine call_of env_ok rfl 1000 ?_) | ((with_reducible show XopN ..); refine xop_of env_ok rfl 1000 ?_) | ((with_reducible show CallX ..); first | fail) | ((with_reducible show OpX ..); first | fail) | ((with_reducible show ∃ _ : SV, _); first | (refine ⟨_, ?ok, x_len Tryz.underlying70, ?_⟩; (case ok => exact fun _ _ => trivial))) | ((with_reducible show ∃ _, _); first | fail))
    all_goals first | rfl | (exfalso; omega)
  · rw [if_neg hn] at hF hE
    have hnp := Nat.pos_of_ne_zero hn
    have hnn := (ExP.nd_pos (b := 10) (by omega)).2 hnp
    obtain ⟨hr1, hr2⟩ := hrp hnp
    have hg := Nat.gcd_pos_of_pos_left d hnp
    have hgn := ExP.nd_mono (b := 10) (by omega) (Nat.gcd_le_right n hd)
    have hG := fun (w' : World) (h : Below w.heap.size w w') => rgcd_any (Lz n a (Lz d b [])) a b c e n d w' (Nat.lt_of_lt_of_le hw0 h.size) (by omega) (by omega) hx3 hx5 hx4 hx6 Lz_in (fun h => Lz_mem (Lz_in h)) (hx1.below h) (hx2.below h)
    generalize Nat.gcd n d = g at *
    have hq1 := ExP.nd_mono (b := 10) (by omega) (Nat.div_le_self n g)
    have hq2 := ExP.nd_mono (b := 10) (by omega) (Nat.div_le_self d g)
    have hD1 := fun (a3 : Option Addr) c3 (w' : World) (h : Below w.heap.size w w') h2 => rdivide_any a a3 c c3 n g w' (Nat.lt_of_lt_of_le hw0 h.size) (by omega) (by omega) hg (hx1.below h) h2
    have hD2 := fun (a3 : Option Addr) c3 (w' : World) (h : Below w.heap.size w w') h2 => rdivide_any b a3 e c3 d g w' (Nat.lt_of_lt_of_le hw0 h.size) (by omega) (by omega) hg (hx2.below h) h2
    rw [ExP.nd_dec hr1, ExP.nd_dec hr2] at hF hE
    clear hrp
    generalize n / g = q1 at *
    generalize d / g = q2 at *
    generalize n % g = r1 at *
    generalize d % g = r2 at *
    have hT1 := fun a cap w' => rtext_any a cap q1 w' (by omega)
    have hT2 := fun a cap w' => rtext_any a cap q2 w' (by omega)
    have hl1 := ExP.nd_dec hr1
    generalize Lib.decDigits q1 = s1 at *
    generalize Lib.decDigits q2 = s2 at *
    refine enter env_ok Tryz.func103 rfl Tryz.results103 Tryz.ntmps103 [] [200008] [.agg [.bool m, .any (.slice a (ExP.nd 10 n) c), .any (.slice b (ExP.nd 10 d) e)]] ⟨⟨trivial, rfl, rfl, trivial⟩, trivial⟩ (Nat.le_of_ble_eq_true rfl) w _ 1000 ?_
    repeat' (first | ((with_reducible first | show wpS .. | show putD .. | show putW .. | show splitG .. | show wpQ .. | show wpD .. | show wpX .. | show expX .. | show stepX .. | show keepR .. | show wpY ..); conv => whnf) | ((with_reducible show RetN ..); refine retB fun β => ?_) | ((with_reducible show _ ∧ _); first | (refine ⟨fun h => absurd h (by first | omega | decide), fun _ => ?_⟩) | (refine ⟨fun _ => ?_, fun h => absurd h (by first | omega | decide)⟩) | (refine ⟨fun _ => ?_, fun _ => ?_⟩) | (apply And.intro; · kernel_rfl) | (apply And.intro; · (show inK _ _; unfold inK; omega)) | (apply And.intro; · (show (_ : Int) ≤ 9223372036854775807; (try simp only [lenS]); omega))) | ((with_reducible show AllBe ..); refine allBe fun βe => ?_; conv => whnf) | ((with_reducible show bothX ..); refine bothI ?_ ?_; conv => whnf) | (with_reducible exact trivial) | ((with_reducible show CallN ..); refine call_of env_ok rfl 1000 ?_) | ((with_reducible show XopN ..); refine xop_of env_ok rfl 1000 ?_) | ((with_reducible show CallX ..); first | (refine callNatL (Lz n a (Lz d b [])) .i64 10 g hw0 (by kernel_rfl) rfl (apart_old (Nat.le_of_ble_eq_true rfl) hx1 rfl (apart_old (Nat.le_of_ble_eq_true rfl) hx2 rfl apart_nil)) (fun β w' hm => hG w' hm.below) (fun a3 c3 h1 h2 h3 => ?_)) | (refine callNat2 .i64 10 q1 r1 hw0 (by kernel_rfl) rfl (fun β w' hm => hD1 a3 c3 w' hm.below (hm.slB 2 rfl)) (fun qa qc ra rc k1 k2 k3 k4 k5 k6 => ?_)) | (refine callNat2 .i64 10 q2 r2 hw0 (by kernel_rfl) rfl (fun β w' hm => hD2 a3 c3 w' hm.below (hm.slB 2 rfl)) (fun qb qd rb rd k7 k8 k9 k10 k11 k12 => ?_)) | (refine callX (.str s1) (by kernel_rfl) rfl (trivial) (fun β w hm => hT1 qa qc w (hm.slF 3 rfl)) ?_) | (refine callX (.str s2) (by kernel_rfl) rfl (trivial) (fun β w hm => hT2 qb qd w (hm.slF 5 rfl)) ?_)) | ((with_reducible show OpX ..); first | fail) | ((with_reducible show ∃ _ : SV, _); first | (refine ⟨_, ?ok, x_len Tryz.underlying70, ?_⟩; (case ok => exact fun _ _ => trivial))) | ((with_reducible show ∃ _, _); first | fail))
    all_goals first | (exfalso; omega) | skip
    all_goals first
      | (rw [if_pos (by omega)] at hF hE; subst hF hE; rfl)
      | (rw [if_neg (by omega)] at hF hE; subst hF hE; simp_all [SV.den, SV.dens, ExP.signP]; done)
end Go.Proofs.YtdkhkfdenlabaaaGreatDoor
namespace Go.Proofs.YtdkhkfdenlabaaaGreatDoor
open Go.RowKit
theorem eqF_cons {P : Program} {w : World} {d : Nat} {xs ys : Array Value} {f : Field} {fs : List Field} {r r2 : Bool} (a b : Value) (hn : f.name ≠ "_") (ha : (part f.type xs f.offset).run P w = .ok a w) (hb : (part f.type ys f.offset).run P w = .ok b w)
    (he : (Op.equalIn d f.type a b).run P w = .ok r w) (hr : (Op.eqFields d xs ys fs).run P w = .ok r2 w) : (Op.eqFields d xs ys (f :: fs)).run P w = .ok (r && r2) w := by
  unfold Op.eqFields
  rw [if_pos hn]
  simp only [Sem.run_bind, ha, hb, he, Result.andThen_ok]
  cases r
  · simp
  · simp [hr]
theorem eqF_nil {P : Program} {w : World} {d : Nat} {xs ys : Array Value} : (Op.eqFields d xs ys []).run P w = .ok true w := rfl
/-- two cells of one kind -/
def ceq : Value → Value → Bool
  | .int _ a, .int _ b => a == b
  | .bool a, .bool b => a == b
  | .string a, .string b => a.toList == b.toList
  | _, _ => false
def ceqs : List Value → List Value → Bool
  | a :: ra, b :: rb => ceq a b && ceqs ra rb
  | _, _ => true
inductive CK where
  | int (k : IntKind)
  | bool
  | str
def ckOf : Value → Option CK
  | .int k _ => some (.int k)
  | .bool _ => some .bool
  | .string _ => some .str
  | _ => none
def CK.fits (P : Program) (t : TypeId) : CK → Prop
  | .int k => P.underlying t = some (.int k)
  | .bool => P.underlying t = some .bool
  | .str => P.underlying t = some .string
def Flat (P : Program) : List Field → List CK → Nat → Prop
  | [], [], _ => True
  | f :: fs, k :: ks, i => f.name ≠ "_" ∧ f.offset = i ∧ P.plainKey f.type = true ∧ k.fits P f.type ∧ Flat P fs ks (i + 1)
  | _, _, _ => False
def CK.ok (P : Program) (t : TypeId) (k : CK) : Bool := match k, P.underlying t with
  | .int k, some (.int k') => decide (k = k')
  | .bool, some .bool => true
  | .str, some .string => true
  | _, _ => false
theorem CK.ok_fits {P : Program} {t : TypeId} {k : CK} (h : k.ok P t = true) : k.fits P t := by
  unfold CK.ok at h
  split at h
  · rename_i e; have := of_decide_eq_true h; subst this; exact e
  · rename_i e; exact e
  · rename_i e; exact e
  · cases h
def flatB (P : Program) : List Field → List CK → Nat → Bool
  | [], [], _ => true
  | f :: fs, k :: ks, i => f.name != "_" && (f.offset == i && (P.plainKey f.type && (k.ok P f.type && flatB P fs ks (i + 1))))
  | _, _, _ => false
theorem flat_of {P : Program} : ∀ (fs : List Field) (ks : List CK) (i : Nat), flatB P fs ks i = true → Flat P fs ks i
  | [], [], _, _ => trivial
  | f :: fs, k :: ks, i, h => by
    simp only [flatB, Bool.and_eq_true, bne_iff_ne, beq_iff_eq] at h
    exact ⟨h.1, h.2.1, h.2.2.1, CK.ok_fits h.2.2.2.1, flat_of fs ks (i + 1) h.2.2.2.2⟩
  | [], _ :: _, _, h => by cases h
  | _ :: _, [], _, h => by cases h
theorem ceq_run {P : Program} {w : World} {d : Nat} {t : TypeId} {k : CK} {a b : Value} (h : k.fits P t) (ha : ckOf a = some k) (hb : ckOf b = some k) : (Op.equalIn (d + 1) t a b).run P w = .ok (ceq a b) w := by
  cases a <;> simp only [ckOf] at ha <;> cases b <;> simp only [ckOf] at hb <;> first | (cases ha; done) | (cases hb; done) | skip
  all_goals (injection ha with ha; injection hb with hb; subst ha)
  all_goals (try (cases hb; done))
  · exact run_equalIn_bool' w d t _ _ h
  · injection hb with hb; subst hb; exact run_equalIn_int w d t _ _ _ _ h
  · exact run_equalIn_string w d t _ _ h
theorem flat_eq {P : Program} {w : World} {d : Nat} {xs ys : Array Value} : ∀ (fs : List Field) (ks : List CK) (i : Nat), Flat P fs ks i → (xs.toList.drop i).map ckOf = ks.map some → (ys.toList.drop i).map ckOf = ks.map some →
    (Op.eqFields (d + 1) xs ys fs).run P w = .ok (ceqs (xs.toList.drop i) (ys.toList.drop i)) w
  | [], [], i, _, hx, hy => by
    have h1 : xs.toList.drop i = [] := by simpa using hx
    rw [h1]; exact eqF_nil
  | f :: fs, k :: ks, i, hf, hx, hy => by
    obtain ⟨h1, h2, h3, h4, h5⟩ := hf
    cases ex : xs.toList.drop i with
    | nil => rw [ex] at hx; simp at hx
    | cons a ra =>
      cases ey : ys.toList.drop i with
      | nil => rw [ey] at hy; simp at hy
      | cons b rb =>
        rw [ex] at hx; rw [ey] at hy
        simp only [List.map_cons, List.cons.injEq] at hx hy
        have dx : xs.toList.drop (i + 1) = ra := by rw [← List.drop_drop, ex]; rfl
        have dy : ys.toList.drop (i + 1) = rb := by rw [← List.drop_drop, ey]; rfl
        have gx : xs[i]? = some a := by rw [← Array.getElem?_toList, ← List.head?_drop, ex]; rfl
        have gy : ys[i]? = some b := by rw [← Array.getElem?_toList, ← List.head?_drop, ey]; rfl
        have ih := flat_eq (w := w) (d := d) (xs := xs) (ys := ys) fs ks (i + 1) h5 (by rw [dx]; exact hx.2) (by rw [dy]; exact hy.2)
        rw [dx, dy] at ih
        exact eqF_cons a b h1 (by rw [h2]; exact run_part_plain w h3 gx) (by rw [h2]; exact run_part_plain w h3 gy) (ceq_run h4 hx.1 hy.1) ih
  | [], _ :: _, _, hf, _, _ => hf.elim
  | _ :: _, [], _, hf, _, _ => hf.elim
theorem agg_eq {P : Program} (w : World) (t : TypeId) (xs ys : Array Value) (ks : List CK) (ht : P.underlying t = some (.struct (P.fieldsOf t))) (hp : P.stoodInHeld t = false) (hf : Flat P (P.fieldsOf t).toList ks 0) (hx : xs.toList.map ckOf = ks.map some) (hy : ys.toList.map ckOf = ks.map some) :
    (Op.equalIn 10000 t (.agg xs) (.agg ys)).run P w = .ok (ceqs xs.toList ys.toList) w := by
  rw [run_equalIn_agg w 9999 t xs ys ht hp]
  exact flat_eq (d := 9998) _ ks 0 hf hx hy
end Go.Proofs.YtdkhkfdenlabaaaGreatDoor
namespace Go.Proofs.YtdkhkfdenlabaaaGreatDoor
open Go.RowKit
open Sym
attribute [local irreducible] Calls Sym.AggEq ExP.nd ExP.dig ExP.upd
end Go.Proofs.YtdkhkfdenlabaaaGreatDoor
namespace Go.Proofs.YtdkhkfdenlabaaaGreatDoor
open Go.RowKit
open Sym
attribute [local irreducible] Calls Sym.AggEq ExP.nd ExP.dig ExP.upd
set_option maxRecDepth 100000 in
theorem flatFrac : Flat Tryz.prog (Tryz.prog.fieldsOf 25).toList [.str, .str] 0 := flat_of _ _ _ (by kernel_rfl)
set_option maxRecDepth 100000 in
theorem frac_eq (a b c d : List UInt8) (w : World) : (Op.equalIn 10000 25 (.agg #[.string (bstr a), .string (bstr b)]) (.agg #[.string (bstr c), .string (bstr d)])).run Tryz.prog w = .ok (a == c && b == d) w := by
  rw [agg_eq w 25 _ _ _ (by kernel_rfl) (by kernel_rfl) flatFrac rfl rfl]
  simp [ceqs, ceq, bstr_list]
section
attribute [local semireducible] Sym.AggEq
set_option maxRecDepth 100000 in
theorem fracAgg (a b c d : List UInt8) : AggEq Tryz.prog 25 [.str a, .str b] [.str c, .str d] (a == c && b == d) := ⟨by kernel_rfl, fun _ w => frac_eq a b c d w⟩
theorem fracAggT (a b : List UInt8) : AggEq Tryz.prog 25 [.str a, .str b] [.str a, .str b] true := by
  have := fracAgg a b a b
  simpa using this
end
end Go.Proofs.YtdkhkfdenlabaaaGreatDoor
namespace Go.Proofs.YtdkhkfdenlabaaaGreatDoor
open Go.RowKit
open Sym
attribute [local irreducible] Calls Sym.AggEq ExP.nd ExP.dig ExP.upd
theorem Sym.x_remT {C : Ctx} {G : Blobs} {x y : Operand} {t u : TypeId} {k : IntKind} {a b r : Int} (hb : b ≠ 0) (hr : Int.tmod a b = r) : ExtN C G (.binOp .rem t x y u) [.int k a, .int k b] (.int k r) := by
  unfold ExtN
  intro ρ β w dst ty pos after g _ _ h
  have h' : ρ x = .int k a ∧ ρ y = .int k b := by simpa [opsX, SV.dens, SV.den] using h
  simp [execOp, eqGuard, binOp, Op.intDiv, h'.1, h'.2, hb, SV.den, hr]
theorem Sym.x_quoT {C : Ctx} {G : Blobs} {x y : Operand} {t u : TypeId} {k : IntKind} {a b q : Int} (hb : b ≠ 0) (hq : Int.tdiv a b = q) (hk : inK k q) : ExtN C G (.binOp .quo t x y u) [.int k a, .int k b] (.int k q) := by
  unfold ExtN
  intro ρ β w dst ty pos after g _ _ h
  have h' : ρ x = .int k a ∧ ρ y = .int k b := by simpa [opsX, SV.dens, SV.den] using h
  have hw : k.wrap q = q := inK_wrap hk
  simp [execOp, eqGuard, binOp, Op.intDiv, h'.1, h'.2, hb, SV.den, hq, hw]
theorem digit_byte (k : Nat) (h : k < 10) {v : Int} (hv : v = 48 + (k : Int)) : [Value.int .u8 v] = bvals [UInt8.ofNat (48 + k)] := by
  have : (UInt8.ofNat (48 + k)).toNat = 48 + k := by simp; omega
  subst hv
  simp [bvals, this]
  omega
theorem dec_le (x : Nat) (h : x < 100000000000000000000) : (Lib.decDigits x).length ≤ 20 := by
  rcases Nat.eq_zero_or_pos x with rfl | h0
  · rw [Lib.decDigits_one (by omega)]; simp
  · rw [ExP.nd_dec h0]; exact ExP.nd_le (by omega) (by simpa using h)
theorem tdiv_neg10 (m : Nat) : Int.tdiv (-(m : Int)) 10 = -((m / 10 : Nat) : Int) := by rw [Int.neg_tdiv]; simp [Int.tdiv_eq_ediv_of_nonneg]
theorem tmod_neg10 (m : Nat) : Int.tmod (-(m : Int)) 10 = -((m % 10 : Nat) : Int) := by rw [Int.neg_tmod]; simp [Int.tmod_eq_emod_of_nonneg]
set_option maxRecDepth 100000 in
set_option maxHeartbeats 2000000 in
theorem decimal_pos (n : Nat) : n < 9223372036854775808 → ∀ w, Calls Tryz.prog 141 #[.int .i64 (n : Int)] w fun e w' => e = .returned (.string (bstr (Lib.decDigits n))) ∧ Below w.heap.size w w' := by
  induction n using Nat.strongRecOn with
  | _ n ih =>
  intro hn w
  by_cases h : n < 10
  · rw [Lib.decDigits_one h]
    refine enter env_ok Tryz.func141 rfl Tryz.results141 Tryz.ntmps141 [] [] [.int .i64 (n : Int)] (by simp [SV.oks, SV.ok]) (Nat.le_of_ble_eq_true rfl) w _ 1000 ?_
    repeat' (first | ((with_reducible first | show wpS .. | show putD .. | show putW .. | show splitG .. | show wpQ .. | show wpD .. | show wpX .. | show expX .. | show stepX .. | show keepR .. | show wpY ..); conv => whnf) | ((with_reducible show RetN ..); refine retB fun β => ?_) | ((with_reducible show _ ∧ _); first | (refine ⟨fun h => absurd h (by first | omega | decide), fun _ => ?_⟩) | (refine ⟨fun _ => ?_, fun h => absurd h (by first | omega | decide)⟩) | (refine ⟨fun _ => ?_, fun _ => ?_⟩) | (apply And.intro; · kernel_rfl) | (apply And.intro; · (show inK _ _; unfold inK; omega)) | (apply And.intro; · (show (_ : Int) ≤ 9223372036854775807; (try simp only [lenS]); omega))) | ((with_reducible show AllBe ..); refine allBe fun βe => ?_; conv => whnf) | ((with_reducible show bothX ..); refine bothI ?_ ?_; conv => whnf) | (with_reducible exact trivial) | ((with_reducible show CallN ..); refine call_of env_ok rfl 1000 ?_) | ((with_reducible show XopN ..); refine xop_of env_ok rfl 1000 ?_) | ((with_reducible show CallX ..); first | fail) | ((with_reducible show OpX ..); first | (refine opx_one rfl rfl Tryz.underlying113 (fun w => Tryz.sizeOf5 w) (fun w => Tryz.zeroValue5 w) rfl (fun g => ?_))) | ((with_reducible show ∃ _ : SV, _); first | (refine ⟨_, ?ok, x_bytesStr 0 [UInt8.ofNat (48 + n)] Tryz.underlying113 Tryz.underlying5 Tryz.underlying9 rfl (digit_byte n h rfl), ?_⟩; (case ok => exact fun _ _ => trivial))) | ((with_reducible show ∃ _, _); first | fail))
    all_goals first | rfl | (exfalso; omega)
  · have hD : Lib.decDigits n = Lib.decDigits (n / 10) ++ [UInt8.ofNat (48 + n % 10)] := by rw [Lib.decDigits, dif_neg h]
    have HI := ih (n / 10) (by omega) (by omega)
    have hL := dec_le (n / 10) (by omega)
    have hq : (n : Int) / 10 = ((n / 10 : Nat) : Int) := by omega
    have hr : (n : Int) % 10 = ((n % 10 : Nat) : Int) := by omega
    have hm := fun v => digit_byte (n % 10) (by omega) (v := v)
    rw [hD]
    clear ih hD
    generalize Lib.decDigits (n / 10) = L at *
    refine enter env_ok Tryz.func141 rfl Tryz.results141 Tryz.ntmps141 [] [] [.int .i64 (n : Int)] (by simp [SV.oks, SV.ok]) (Nat.le_of_ble_eq_true rfl) w _ 1000 ?_
    repeat' (first | ((with_reducible first | show wpS .. | show putD .. | show putW .. | show splitG .. | show wpQ .. | show wpD .. | show wpX .. | show expX .. | show stepX .. | show keepR .. | show wpY ..); conv => whnf) | ((with_reducible show RetN ..); refine retB fun β => ?_) | ((with_reducible show _ ∧ _); first | (refine ⟨fun h => absurd h (by first | omega | decide), fun _ => ?_⟩) | (refine ⟨fun _ => ?_, fun h => absurd h (by first | omega | decide)⟩) | (refine ⟨fun _ => ?_, fun _ => ?_⟩) | (apply And.intro; · kernel_rfl) | (apply And.intro; · (show inK _ _; unfold inK; omega)) | (apply And.intro; · (show (_ : Int) ≤ 9223372036854775807; (try simp only [lenS]); omega))) | ((with_reducible show AllBe ..); refine allBe fun βe => ?_; conv => whnf) | ((with_reducible show bothX ..); refine bothI ?_ ?_; conv => whnf) | (with_reducible exact trivial) | ((with_reducible show CallN ..); refine call_of env_ok rfl 1000 ?_) | ((with_reducible show XopN ..); refine xop_of env_ok rfl 1000 ?_) | ((with_reducible show CallX ..); first | (refine callX (.str L) (by kernel_rfl) rfl (trivial) (fun β w hm => by simp only [SV.dens, SV.den]; rw [hq]; exact HI w) ?_)) | ((with_reducible show OpX ..); first | (refine opx_one rfl rfl Tryz.underlying113 (fun w => Tryz.sizeOf5 w) (fun w => Tryz.zeroValue5 w) rfl (fun g => ?_))) | ((with_reducible show ∃ _ : SV, _); first | (refine ⟨_, ?ok, x_bytesStr 0 [UInt8.ofNat (48 + n % 10)] Tryz.underlying113 Tryz.underlying5 Tryz.underlying9 rfl (hm _ (by rw [hr])), ?_⟩; (case ok => exact fun _ _ => trivial)) | (refine ⟨_, ?ok, x_quo (by omega) (by omega) (by unfold inK; omega), ?_⟩; (case ok => exact fun _ _ => trivial)) | (refine ⟨_, ?ok, x_rem (by omega) (by omega), ?_⟩; (case ok => exact fun _ _ => trivial))) | ((with_reducible show ∃ _, _); first | fail))
    all_goals rfl
set_option maxRecDepth 100000 in
set_option maxHeartbeats 2000000 in
theorem decimal_neg (n : Nat) : 0 < n → n ≤ 9223372036854775808 → ∀ w, Calls Tryz.prog 141 #[.int .i64 (-(n : Int))] w fun e w' => e = .returned (.string (bstr (45 :: Lib.decDigits n))) ∧ Below w.heap.size w w' := by
  induction n using Nat.strongRecOn with
  | _ n ih =>
  intro hn0 hn w
  by_cases h : n < 10
  · rw [Lib.decDigits_one h]
    refine enter env_ok Tryz.func141 rfl Tryz.results141 Tryz.ntmps141 [] [] [.int .i64 (-(n : Int))] (by simp [SV.oks, SV.ok]) (Nat.le_of_ble_eq_true rfl) w _ 1000 ?_
    repeat' (first | ((with_reducible first | show wpS .. | show putD .. | show putW .. | show splitG .. | show wpQ .. | show wpD .. | show wpX .. | show expX .. | show stepX .. | show keepR .. | show wpY ..); conv => whnf) | ((with_reducible show RetN ..); refine retB fun β => ?_) | ((with_reducible show _ ∧ _); first | (refine ⟨fun h => absurd h (by first | omega | decide), fun _ => ?_⟩) | (refine ⟨fun _ => ?_, fun h => absurd h (by first | omega | decide)⟩) | (refine ⟨fun _ => ?_, fun _ => ?_⟩) | (apply And.intro; · kernel_rfl) | (apply And.intro; · (show inK _ _; unfold inK; omega)) | (apply And.intro; · (show (_ : Int) ≤ 9223372036854775807; (try simp only [lenS]); omega))) | ((with_reducible show AllBe ..); refine allBe fun βe => ?_; conv => whnf) | ((with_reducible show bothX ..); refine bothI ?_ ?_; conv => whnf) | (with_reducible exact trivial) | ((with_reducible show CallN ..); refine call_of env_ok rfl 1000 ?_) | ((with_reducible show XopN ..); refine xop_of env_ok rfl 1000 ?_) | ((with_reducible show CallX ..); first | fail) | ((with_reducible show OpX ..); first | (refine opx_one rfl rfl Tryz.underlying113 (fun w => Tryz.sizeOf5 w) (fun w => Tryz.zeroValue5 w) rfl (fun g => ?_))) | ((with_reducible show ∃ _ : SV, _); first | (refine ⟨_, ?ok, x_bytesStr 0 [UInt8.ofNat (48 + n)] Tryz.underlying113 Tryz.underlying5 Tryz.underlying9 rfl (digit_byte n h (by omega)), ?_⟩; (case ok => exact fun _ _ => trivial))) | ((with_reducible show ∃ _, _); first | fail))
    all_goals first | rfl | (exfalso; omega)
  · have hD : Lib.decDigits n = Lib.decDigits (n / 10) ++ [UInt8.ofNat (48 + n % 10)] := by rw [Lib.decDigits, dif_neg h]
    have HI := ih (n / 10) (by omega) (by omega) (by omega)
    have hL := dec_le (n / 10) (by omega)
    have hq := tdiv_neg10 n
    have hr := tmod_neg10 n
    have hm := fun v => digit_byte (n % 10) (by omega) (v := v)
    rw [hD]
    clear ih hD
    generalize Lib.decDigits (n / 10) = L at *
    refine enter env_ok Tryz.func141 rfl Tryz.results141 Tryz.ntmps141 [] [] [.int .i64 (-(n : Int))] (by simp [SV.oks, SV.ok]) (Nat.le_of_ble_eq_true rfl) w _ 1000 ?_
    repeat' (first | ((with_reducible first | show wpS .. | show putD .. | show putW .. | show splitG .. | show wpQ .. | show wpD .. | show wpX .. | show expX .. | show stepX .. | show keepR .. | show wpY ..); conv => whnf) | ((with_reducible show RetN ..); refine retB fun β => ?_) | ((with_reducible show _ ∧ _); first | (refine ⟨fun h => absurd h (by first | omega | decide), fun _ => ?_⟩) | (refine ⟨fun _ => ?_, fun h => absurd h (by first | omega | decide)⟩) | (refine ⟨fun _ => ?_, fun _ => ?_⟩) | (apply And.intro; · kernel_rfl) | (apply And.intro; · (show inK _ _; unfold inK; omega)) | (apply And.intro; · (show (_ : Int) ≤ 9223372036854775807; (try simp only [lenS]); omega))) | ((with_reducible show AllBe ..); refine allBe fun βe => ?_; conv => whnf) | ((with_reducible show bothX ..); refine bothI ?_ ?_; conv => whnf) | (with_reducible exact trivial) | ((with_reducible show CallN ..); refine call_of env_ok rfl 1000 ?_) | ((with_reducible show XopN ..); refine xop_of env_ok rfl 1000 ?_) | ((with_reducible show CallX ..); first | (refine callX (.str (45 :: L)) (by kernel_rfl) rfl (trivial) (fun β w hm => HI w) ?_)) | ((with_reducible show OpX ..); first | (refine opx_one rfl rfl Tryz.underlying113 (fun w => Tryz.sizeOf5 w) (fun w => Tryz.zeroValue5 w) rfl (fun g => ?_))) | ((with_reducible show ∃ _ : SV, _); first | (refine ⟨_, ?ok, x_bytesStr 0 [UInt8.ofNat (48 + n % 10)] Tryz.underlying113 Tryz.underlying5 Tryz.underlying9 rfl (hm _ (by omega)), ?_⟩; (case ok => exact fun _ _ => trivial)) | (refine ⟨_, ?ok, x_quoT (by omega) hq (by unfold inK; omega), ?_⟩; (case ok => exact fun _ _ => trivial)) | (refine ⟨_, ?ok, x_remT (by omega) hr, ?_⟩; (case ok => exact fun _ _ => trivial))) | ((with_reducible show ∃ _, _); first | fail))
    all_goals first | rfl | (exfalso; omega)
end Go.Proofs.YtdkhkfdenlabaaaGreatDoor
namespace Go.Proofs.YtdkhkfdenlabaaaGreatDoor
open Go.RowKit
open Sym
attribute [local irreducible] Calls Sym.AggEq ExP.nd ExP.dig ExP.upd
theorem ExP.nd_one {b : Nat} (hb : 2 ≤ b) : ExP.nd b 1 = 1 := by
  have h1 := ExP.nd_le (b := b) (x := 1) (n := 1) hb (by rw [Nat.pow_one]; omega)
  have h2 := (ExP.nd_pos (b := b) (x := 1) hb).2 (by omega)
  omega
theorem nv_one {k : IntKind} {b : Nat} (hb : 2 ≤ b) : nv k b 1 = [.int k 1] := by
  unfold nv ExP.dg
  rw [ExP.nd_one hb, ExP.dig_self (by omega)]
  rfl
/-- a whole number as a fraction -/
def ExP.wholeN (p : Int) : ExP.Num := ⟨decide (p < 0), p.natAbs, 1⟩
theorem itoa_any (p : Int) (w : World) (h0 : -9223372036854775808 ≤ p) (h1 : p ≤ 9223372036854775807) (hw : XW w) : Calls Tryz.prog 139 #[.int .i64 p] w fun e w' => e = .returned (.string (bstr (Lib.itoa p))) ∧ Below w.heap.size w w' := by
  refine (Tryz.strconv_Itoa p h0 h1 w hw.tab).mono ?_
  rintro e w' ⟨rfl, k, os, rfl⟩
  exact ⟨rfl, xgrown w k os⟩
set_option maxRecDepth 100000 in
theorem unsigned_any (n : Nat) (h0 : 0 < n) (hn : n ≤ 9223372036854775808) (w : World) : Calls Tryz.prog 140 #[.int .i64 (-(n : Int))] w fun e w' => e = .returned (.string (bstr (Lib.decDigits n))) ∧ Below w.heap.size w w' := by
  have HD := fun w => decimal_neg n h0 hn w
  generalize Lib.decDigits n = L at *
  refine enter env_ok Tryz.func140 rfl Tryz.results140 Tryz.ntmps140 [] [] [.int .i64 (-(n : Int))] (by simp [SV.oks, SV.ok]) (Nat.le_of_ble_eq_true rfl) w _ 1000 ?_
  repeat' (first | ((with_reducible first | show wpS .. | show putD .. | show putW .. | show splitG .. | show wpQ .. | show wpD .. | show wpX .. | show expX .. | show stepX .. | show keepR .. | show wpY ..); conv => whnf) | ((with_reducible show RetN ..); refine retB fun β => ?_) | ((with_reducible show _ ∧ _); first | (refine ⟨fun h => absurd h (by first | omega | decide), fun _ => ?_⟩) | (refine ⟨fun _ => ?_, fun h => absurd h (by first | omega | decide)⟩) | (refine ⟨fun _ => ?_, fun _ => ?_⟩) | (apply And.intro; · kernel_rfl) | (apply And.intro; · (show inK _ _; unfold inK; omega)) | (apply And.intro; · (show (_ : Int) ≤ 9223372036854775807; (try simp only [lenS]); omega))) | ((with_reducible show AllBe ..); refine allBe fun βe => ?_; conv => whnf) | ((with_reducible show bothX ..); refine bothI ?_ ?_; conv => whnf) | (with_reducible exact trivial) | ((with_reducible show CallN ..); refine call_of env_ok rfl 1000 ?_) | ((with_reducible show XopN ..); refine xop_of env_ok rfl 1000 ?_) | ((with_reducible show CallX ..); first | (refine callX (.str (45 :: L)) (by kernel_rfl) rfl (trivial) (fun β w hm => HD w) ?_)) | ((with_reducible show OpX ..); first | fail) | ((with_reducible show ∃ _ : SV, _); first | fail) | ((with_reducible show ∃ _, _); first | (refine ⟨1, rfl, by simp, ?_⟩)))
  all_goals rfl
set_option maxRecDepth 100000 in
set_option maxHeartbeats 2000000 in
theorem whole_any (p : Int) (w : World) (hw0 : 0 < w.heap.size) (h0 : -9223372036854775808 ≤ p) (h1 : p ≤ 9223372036854775807) : Calls Tryz.prog 78 #[.int .i64 p] w (FrOut .i64 10 (ExP.wholeN p) w) := by
  obtain ⟨i0, hi, hz0, hz1, hz2⟩ := info_parts intInfo
  have hu := Tryz.underlying70
  have hsz := fun w => Tryz.sizeOf3 w
  have hzv := fun w => Tryz.zeroValue3 w
  have hn1 : ExP.nd 10 1 = 1 := ExP.nd_one (by omega)
  have hv1 : nv .i64 10 1 = [.int .i64 1] := nv_one (by omega)
  have hN := fun x w => natOf_any (Lib.decDigits x) w
  simp only [ExP.val_dec] at hN
  by_cases hp : p < 0
  · obtain ⟨m, rfl⟩ : ∃ m : Nat, p = -(m : Int) := ⟨p.natAbs, by omega⟩
    have hW : ExP.wholeN (-(m : Int)) = ⟨true, m, 1⟩ := by simp [ExP.wholeN]; omega
    rw [hW]
    have HU := fun w => unsigned_any m (by omega) (by omega) w
    have hN := fun w => hN m w (by have := dec_le m (by omega); omega) (ExP.dec_digits m)
    generalize Lib.decDigits m = L at *
    refine enter env_ok Tryz.func78 rfl Tryz.results78 Tryz.ntmps78 [] [] [.int .i64 (-(m : Int))] (by simp [SV.oks, SV.ok]) (Nat.le_of_ble_eq_true rfl) w _ 1000 ?_
    repeat' (first | ((with_reducible first | show wpS .. | show putD .. | show putW .. | show splitG .. | show wpQ .. | show wpD .. | show wpX .. | show expX .. | show stepX .. | show keepR .. | show wpY ..); conv => whnf) | ((with_reducible show RetN ..); refine retB fun β => ?_) | ((with_reducible show _ ∧ _); first | (refine ⟨fun h => absurd h (by first | omega | decide), fun _ => ?_⟩) | (refine ⟨fun _ => ?_, fun h => absurd h (by first | omega | decide)⟩) | (refine ⟨fun _ => ?_, fun _ => ?_⟩) | (apply And.intro; · kernel_rfl) | (apply And.intro; · (show inK _ _; unfold inK; omega)) | (apply And.intro; · (show (_ : Int) ≤ 9223372036854775807; (try simp only [lenS]); omega))) | ((with_reducible show AllBe ..); refine allBe fun βe => ?_; conv => whnf) | ((with_reducible show bothX ..); refine bothI ?_ ?_; conv => whnf) | (with_reducible exact trivial) | ((with_reducible show CallN ..); refine call_of env_ok rfl 1000 ?_) | ((with_reducible show XopN ..); refine xop_of env_ok rfl 1000 ?_) | ((with_reducible show CallX ..); first | (refine callX (.str L) (by kernel_rfl) rfl (trivial) (fun β w hm => HU w) ?_) | (refine callNat .i64 10 m hw0 (by kernel_rfl) rfl (fun β w' hm => hN w') (fun a1 c1 q1 q2 q3 => ?_))) | ((with_reducible show OpX ..); first | (refine opx_build1 (sz := 1) rfl rfl rfl (xs := [.int .i64 1]) (fun β => rfl) rfl (by omega) (by omega) hu hsz hzv (fun g1 => ?_))) | ((with_reducible show ∃ _ : SV, _); first | fail) | ((with_reducible show ∃ _, _); first | fail))
    all_goals first | (exfalso; omega) | skip
    all_goals refine ret fun β w' hm => ?_
    all_goals refine ⟨⟨true, m, 1, a1, c1, some ⟨g1, 0, none⟩, 1⟩, by simp only [FrV.val, hn1]; rfl, rfl, ⟨q1, (by intro h; cases h), q2, by dsimp only; omega⟩, Ls2 (by first | exact hm.slF 1 rfl | exact hm.slF 2 rfl | exact hm.slF 3 rfl | exact hm.slF 4 rfl) (by first | exact hm.freshF 1 rfl rfl | exact hm.freshF 2 rfl rfl | exact hm.freshF 3 rfl rfl | exact hm.freshF 4 rfl rfl) (by dsimp only; rw [hv1]; first | exact (hm.own 1 rfl).1 | exact (hm.own 2 rfl).1) (by dsimp only; rw [hv1]; first | exact fresh_own (hm.own 1 rfl).2.1 rfl | exact fresh_own (hm.own 2 rfl).2.1 rfl), hm.below⟩
  · obtain ⟨m, rfl⟩ : ∃ m : Nat, p = (m : Int) := ⟨p.natAbs, by omega⟩
    have hW : ExP.wholeN (m : Int) = ⟨false, m, 1⟩ := by simp [ExP.wholeN]
    rw [hW]
    have HU := fun w => decimal_pos m (by omega) w
    have hN := fun w => hN m w (by have := dec_le m (by omega); omega) (ExP.dec_digits m)
    generalize Lib.decDigits m = L at *
    refine enter env_ok Tryz.func78 rfl Tryz.results78 Tryz.ntmps78 [] [] [.int .i64 (m : Int)] (by simp [SV.oks, SV.ok]) (Nat.le_of_ble_eq_true rfl) w _ 1000 ?_
    repeat' (first | ((with_reducible first | show wpS .. | show putD .. | show putW .. | show splitG .. | show wpQ .. | show wpD .. | show wpX .. | show expX .. | show stepX .. | show keepR .. | show wpY ..); conv => whnf) | ((with_reducible show RetN ..); refine retB fun β => ?_) | ((with_reducible show _ ∧ _); first | (refine ⟨fun h => absurd h (by first | omega | decide), fun _ => ?_⟩) | (refine ⟨fun _ => ?_, fun h => absurd h (by first | omega | decide)⟩) | (refine ⟨fun _ => ?_, fun _ => ?_⟩) | (apply And.intro; · kernel_rfl) | (apply And.intro; · (show inK _ _; unfold inK; omega)) | (apply And.intro; · (show (_ : Int) ≤ 9223372036854775807; (try simp only [lenS]); omega))) | ((with_reducible show AllBe ..); refine allBe fun βe => ?_; conv => whnf) | ((with_reducible show bothX ..); refine bothI ?_ ?_; conv => whnf) | (with_reducible exact trivial) | ((with_reducible show CallN ..); refine call_of env_ok rfl 1000 ?_) | ((with_reducible show XopN ..); refine xop_of env_ok rfl 1000 ?_) | ((with_reducible show CallX ..); first | (refine callX (.str L) (by kernel_rfl) rfl (trivial) (fun β w hm => HU w) ?_) | (refine callNat .i64 10 m hw0 (by kernel_rfl) rfl (fun β w' hm => hN w') (fun a1 c1 q1 q2 q3 => ?_))) | ((with_reducible show OpX ..); first | (refine opx_build1 (sz := 1) rfl rfl rfl (xs := [.int .i64 1]) (fun β => rfl) rfl (by omega) (by omega) hu hsz hzv (fun g1 => ?_))) | ((with_reducible show ∃ _ : SV, _); first | fail) | ((with_reducible show ∃ _, _); first | fail))
    all_goals first | (exfalso; omega) | skip
    all_goals refine ret fun β w' hm => ?_
    all_goals refine ⟨⟨false, m, 1, a1, c1, some ⟨g1, 0, none⟩, 1⟩, by simp only [FrV.val, hn1]; rfl, rfl, ⟨q1, (by intro h; cases h), q2, by dsimp only; omega⟩, Ls2 (by first | exact hm.slF 1 rfl | exact hm.slF 2 rfl | exact hm.slF 3 rfl | exact hm.slF 4 rfl) (by first | exact hm.freshF 1 rfl rfl | exact hm.freshF 2 rfl rfl | exact hm.freshF 3 rfl rfl | exact hm.freshF 4 rfl rfl) (by dsimp only; rw [hv1]; first | exact (hm.own 1 rfl).1 | exact (hm.own 2 rfl).1) (by dsimp only; rw [hv1]; first | exact fresh_own (hm.own 1 rfl).2.1 rfl | exact fresh_own (hm.own 2 rfl).2.1 rfl), hm.below⟩
set_option maxRecDepth 100000 in
theorem of_any (p : Int) (w : World) (hw : XW w) (h0 : -9223372036854775808 ≤ p) (h1 : p ≤ 9223372036854775807) : Calls Tryz.prog 77 #[.int .i64 p] w fun e w' => e = .returned (frV (Lib.itoa p, [49])) ∧ Below w.heap.size w w' := by
  have HI := fun (w' : World) (h : Below w.heap.size w w') => itoa_any p w' h0 h1 (hw.below h)
  generalize Lib.itoa p = L at *
  refine enter env_ok Tryz.func77 rfl Tryz.results77 Tryz.ntmps77 [] [] [.int .i64 p] (by simp [SV.oks, SV.ok]) (Nat.le_of_ble_eq_true rfl) w _ 1000 ?_
  repeat' (first | ((with_reducible first | show wpS .. | show putD .. | show putW .. | show splitG .. | show wpQ .. | show wpD .. | show wpX .. | show expX .. | show stepX .. | show keepR .. | show wpY ..); conv => whnf) | ((with_reducible show RetN ..); refine retB fun β => ?_) | ((with_reducible show _ ∧ _); first | (refine ⟨fun h => absurd h (by first | omega | decide), fun _ => ?_⟩) | (refine ⟨fun _ => ?_, fun h => absurd h (by first | omega | decide)⟩) | (refine ⟨fun _ => ?_, fun _ => ?_⟩) | (apply And.intro; · kernel_rfl) | (apply And.intro; · (show inK _ _; unfold inK; omega)) | (apply And.intro; · (show (_ : Int) ≤ 9223372036854775807; (try simp only [lenS]); omega))) | ((with_reducible show AllBe ..); refine allBe fun βe => ?_; conv => whnf) | ((with_reducible show bothX ..); refine bothI ?_ ?_; conv => whnf) | (with_reducible exact trivial) | ((with_reducible show CallN ..); refine call_of env_ok rfl 1000 ?_) | ((with_reducible show XopN ..); refine xop_of env_ok rfl 1000 ?_) | ((with_reducible show CallX ..); first | (refine callX (.str L) (by kernel_rfl) rfl (trivial) (fun β w hm => HI w hm.below) ?_)) | ((with_reducible show OpX ..); first | fail) | ((with_reducible show ∃ _ : SV, _); first | fail) | ((with_reducible show ∃ _, _); first | fail))
  all_goals rfl
end Go.Proofs.YtdkhkfdenlabaaaGreatDoor
