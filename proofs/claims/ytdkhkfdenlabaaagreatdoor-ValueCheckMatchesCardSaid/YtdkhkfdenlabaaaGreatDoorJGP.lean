/- The reference's numbers: NatOf, Text, Digits. Fractions of the reference: FracError, RatOf, Frac. -/
import Derived.Test.YtdkhkfdenlabaaaGreatDoorJGO
import Derived.Test.YtdkhkfdenlabaaaGreatDoorJGM
set_option linter.unusedSimpArgs false
set_option linter.unusedVariables false
namespace Go.Proofs.YtdkhkfdenlabaaaGreatDoor
open Go.RowKit
open Sym
attribute [local irreducible] Calls Sym.AggEq ExP.nd ExP.dig ExP.upd
theorem u8Info : (Tryz.prog.info? 5).map (fun i => (i.zero, i.size, i.bytes)) = some (some (.int .u8 0), 1, 1) := by kernel_rfl
theorem Sym.x_bytesO {C : Ctx} {G : Blobs} {x : Operand} {t u e : TypeId} {g cap n : Nat} {xs : List Value} (i : Nat) (l : List UInt8) (hs : C.P.underlying t = some (.slice e)) (he : C.P.underlying e = some (.int .u8)) (hd : C.P.underlying u = some .string)
    (ri : G i = some (OwnS e 1 g n cap xs)) (hx : xs = bvals l) : ExtN C G (.convert t u x) [.any (.slice (some ⟨g, 0, none⟩) n cap)] (.str l) := by
  unfold ExtN
  intro ρ β w dst ty pos after gd _ hG h
  have e1 : ρ x = .slice (some ⟨g, 0, none⟩) n cap := by simpa [opsX, SV.dens, SV.den] using h
  have ho := (hG i _ ri).2
  have hc := OwnS.cell ho
  have hn : n = l.length := by obtain ⟨-, cur, -, -, -, -, -, h6⟩ := ho; rw [hx] at h6; simp [bvals] at h6; exact h6.symm
  subst hn
  have hr := run_convert_bytes_back (P := C.P) w t u e ⟨g, 0, none⟩ cap l hs he hd (fun j hj => hc j _ (by rw [hx]; simp [bvals, hj]))
  simp [execOp, e1, hr, SV.den, bstr]
theorem bvals_snoc (l : List UInt8) (c : UInt8) {v : Int} (h : v = (c.toNat : Int)) : bvals l ++ [.int .u8 v] = bvals (l ++ [c]) := by subst h; simp [bvals]
theorem ExP.drop_val {s : List UInt8} {j : Nat} (h : j < s.length) : ExP.valS (s.drop j) = ExP.valS (s.drop (j + 1)) + ((s.getD j 0).toNat - 48) * 10 ^ (s.length - (j + 1)) := by
  have e : s.drop j = [s.getD j 0] ++ s.drop (j + 1) := by rw [List.drop_eq_getElem_cons h, List.getD_eq_getElem?_getD, List.getElem?_eq_getElem h]; rfl
  rw [e, ExP.val_append, List.length_drop, Nat.add_comm]
  congr 2
  simp [ExP.valS, ExP.valF_cons, ExP.valF_nil]
theorem all_at {p : UInt8 → Bool} {s : List UInt8} (h : s.all p = true) {j : Nat} (hj : j < s.length) : p (s.getD j 0) = true := by
  rw [List.all_eq_true] at h
  refine h _ ?_
  rw [List.getD_eq_getElem?_getD, List.getElem?_eq_getElem hj]
  exact List.getElem_mem hj
set_option maxRecDepth 100000 in
set_option maxHeartbeats 2000000 in
theorem natOf_any (s : List UInt8) (w : World) (hs : s.length ≤ 1000000) (hd : s.all ExP.digC = true) : Calls Tryz.prog 130 #[.string (bstr s)] w (NatOut .i64 10 (ExP.valS s) w) := by
  obtain ⟨i0, hi, hz0, hz1, hz2⟩ := info_parts intInfo
  have hu := Tryz.underlying70
  have hsz := fun w => Tryz.sizeOf3 w
  have hzv := fun w => Tryz.zeroValue3 w
  have hVl : ∀ m, ExP.valS (s.drop m) < 10 ^ (s.length - m) := fun m => by
    have h1 := ExP.val_lt _ (all_drop hd m)
    rw [List.length_drop] at h1
    exact h1
  refine enter env_ok Tryz.func130 rfl Tryz.results130 Tryz.ntmps130 [] [] [.str s] (by simp [SV.oks, SV.ok]) (Nat.le_of_ble_eq_true rfl) w _ 1000 ?_
  repeat' (first | ((with_reducible first | show wpS .. | show putD .. | show putW .. | show splitG .. | show wpQ .. | show wpD .. | show wpX .. | show expX .. | show stepX .. | show keepR .. | show wpY ..); conv => whnf) | ((with_reducible show RetN ..); refine retB fun β => ?_) | ((with_reducible show _ ∧ _); first | (refine ⟨fun h => absurd h (by first | omega | decide), fun _ => ?_⟩) | (refine ⟨fun _ => ?_, fun h => absurd h (by first | omega | decide)⟩) | (refine ⟨fun _ => ?_, fun _ => ?_⟩) | (apply And.intro; · kernel_rfl) | (apply And.intro; · (show inK _ _; unfold inK; omega)) | (apply And.intro; · (show (_ : Int) ≤ 9223372036854775807; (try simp only [lenS]); omega))) | ((with_reducible show AllBe ..); refine allBe fun βe => ?_; conv => whnf) | ((with_reducible show bothX ..); refine bothI ?_ ?_; conv => whnf) | (with_reducible exact trivial) | ((with_reducible show CallN ..); refine call_of env_ok rfl 1000 ?_) | ((with_reducible show XopN ..); refine xop_of env_ok rfl 1000 ?_) | ((with_reducible show CallX ..); first | fail) | ((with_reducible show OpX ..); first | fail) | ((with_reducible show ∃ _ : SV, _); first | fail) | ((with_reducible show ∃ _, _); first | fail))
  refine loop env_ok rfl (T := {t : PsT // t.m ≤ s.length ∧ t.i = s.length - t.m}) (fun t => apJ [(0, .str s), (4, .int .i64 ((t.1.m : Nat) - 1 : Int))] 3 22 t.1.i t.1.g t.1.cap (valsK .i64 (ExP.dgN 10 t.1.i (ExP.valS (s.drop t.1.m))))) (fun t => t.1.m) ⟨⟨0, s.length, 0, 0⟩, Nat.le_refl _, by dsimp only; omega⟩ 1000 [] [] (fun t => by exact Nat.zero_le _) (by dsimp only [apJ]; ((with_reducible show wk _ _); repeat' (first | exact trivial | exact eqSV_refl _ | (refine eqI ?_) | (refine eqS ?_) | (with_reducible exact rfl) | apply And.intro | exact Nat.zero_lt_one | exact Nat.le_of_ble_eq_true rfl | (with_reducible assumption) | ((show (_ : Int) = _); (try dsimp only); omega) | ((show eqSV _ _); simp [eqSV, isB, bval, *]; done) | rfl))) (fun t I hI => ?_)
  obtain ⟨⟨i, m, g, cap⟩, hm, hil⟩ := t
  dsimp only at hm hil ⊢
  have hV := hVl m
  rw [← hil] at hV
  by_cases hm0 : 0 < m
  · obtain ⟨q, rfl⟩ : ∃ q, m = q + 1 := ⟨m - 1, by omega⟩
    have hcd := ExP.digC_nat.1 (all_at hd (j := q) (by omega))
    have hVq := ExP.drop_val (s := s) (j := q) (by omega)
    rw [← hil] at hVq
    have hrow := fun (v : Int) (hv : v = (((s.getD q 0).toNat - 48 : Nat) : Int)) => ExP.row_snoc (k := .i64) (b := 10) (i := i) (S := ExP.valS (s.drop (q + 1))) (by omega) hV (by omega) hv
    rw [← hVq] at hrow
    cases i with
    | zero =>
      dsimp only [apJ]
      repeat' (first | ((with_reducible first | show wpS .. | show putD .. | show putW .. | show splitG .. | show wpQ .. | show wpD .. | show wpX .. | show expX .. | show stepX .. | show keepR .. | show wpY ..); conv => whnf) | ((with_reducible show RetN ..); refine retB fun β => ?_) | ((with_reducible show _ ∧ _); first | (refine ⟨fun h => absurd h (by first | omega | decide), fun _ => ?_⟩) | (refine ⟨fun _ => ?_, fun h => absurd h (by first | omega | decide)⟩) | (refine ⟨fun _ => ?_, fun _ => ?_⟩) | (apply And.intro; · kernel_rfl) | (apply And.intro; · (show inK _ _; unfold inK; omega)) | (apply And.intro; · (show (_ : Int) ≤ 9223372036854775807; (try simp only [lenS]); omega))) | ((with_reducible show AllBe ..); refine allBe fun βe => ?_; conv => whnf) | ((with_reducible show bothX ..); refine bothI ?_ ?_; conv => whnf) | (with_reducible exact trivial) | ((with_reducible show CallN ..); refine call_of env_ok rfl 1000 ?_) | ((with_reducible show XopN ..); refine xop_of env_ok rfl 1000 ?_) | ((with_reducible show CallX ..); first | fail) | ((with_reducible show OpX ..); first | (refine opx_build1 (sz := 1) rfl rfl rfl (xs := [.int .i64 (((s.getD q 0).toNat - 48 : Nat) : Int)]) (fun β => by simp only [SV.dens, SV.den]; congr 2; omega) rfl (by omega) (by omega) hu hsz hzv (fun g1 => ?_)) | (refine opx_append0 (sz := 1) 0 rfl hu hi hz0 hz1 rfl (by omega) rfl rfl rfl (by unfold maxLen; omega) (by rw [hz2]; omega) (by simp [Value.oneCell']) (by omega) (fun g2 cap2 => ?_))) | ((with_reducible show ∃ _ : SV, _); first | fail) | ((with_reducible show ∃ _, _); first | (refine ⟨q, by omega, by omega, ?_⟩)))
      refine hI _ ⟨⟨0 + 1, q, g2, cap2⟩, by dsimp only; omega, by dsimp only; omega⟩ (by dsimp only; omega) (by dsimp only [apJ]; rw [← hrow _ rfl]; ((with_reducible show wk _ _); repeat' (first | exact trivial | exact eqSV_refl _ | (refine eqI ?_) | (refine eqS ?_) | (with_reducible exact rfl) | apply And.intro | exact Nat.zero_lt_one | exact Nat.le_of_ble_eq_true rfl | (with_reducible assumption) | ((show (_ : Int) = _); (try dsimp only); omega) | ((show eqSV _ _); simp [eqSV, isB, bval, *]; done) | rfl)); all_goals (exact fun b x h => h))
    | succ i =>
      dsimp only [apJ]
      repeat' (first | ((with_reducible first | show wpS .. | show putD .. | show putW .. | show splitG .. | show wpQ .. | show wpD .. | show wpX .. | show expX .. | show stepX .. | show keepR .. | show wpY ..); conv => whnf) | ((with_reducible show RetN ..); refine retB fun β => ?_) | ((with_reducible show _ ∧ _); first | (refine ⟨fun h => absurd h (by first | omega | decide), fun _ => ?_⟩) | (refine ⟨fun _ => ?_, fun h => absurd h (by first | omega | decide)⟩) | (refine ⟨fun _ => ?_, fun _ => ?_⟩) | (apply And.intro; · kernel_rfl) | (apply And.intro; · (show inK _ _; unfold inK; omega)) | (apply And.intro; · (show (_ : Int) ≤ 9223372036854775807; (try simp only [lenS]); omega))) | ((with_reducible show AllBe ..); refine allBe fun βe => ?_; conv => whnf) | ((with_reducible show bothX ..); refine bothI ?_ ?_; conv => whnf) | (with_reducible exact trivial) | ((with_reducible show CallN ..); refine call_of env_ok rfl 1000 ?_) | ((with_reducible show XopN ..); refine xop_of env_ok rfl 1000 ?_) | ((with_reducible show CallX ..); first | fail) | ((with_reducible show OpX ..); first | (refine opx_build1 (sz := 1) rfl rfl rfl (xs := [.int .i64 (((s.getD q 0).toNat - 48 : Nat) : Int)]) (fun β => by simp only [SV.dens, SV.den]; congr 2; omega) rfl (by omega) (by omega) hu hsz hzv (fun g1 => ?_)) | (refine opx_append (sz := 1) 1 2 rfl hu hi hz0 hz1 rfl (by omega) rfl rfl rfl rfl (by unfold maxLen; omega) (by rw [hz2]; omega) (by simp [Value.oneCell']) (by kernel_rfl) (Nat.zero_le _) (fun g2 cap2 => ?_))) | ((with_reducible show ∃ _ : SV, _); first | fail) | ((with_reducible show ∃ _, _); first | (refine ⟨q, by omega, by omega, ?_⟩)))
      refine hI _ ⟨⟨i + 1 + 1, q, g2, cap2⟩, by dsimp only; omega, by dsimp only; omega⟩ (by dsimp only; omega) (by dsimp only [apJ]; rw [← hrow _ rfl]; ((with_reducible show wk _ _); repeat' (first | exact trivial | exact eqSV_refl _ | (refine eqI ?_) | (refine eqS ?_) | (with_reducible exact rfl) | apply And.intro | exact Nat.zero_lt_one | exact Nat.le_of_ble_eq_true rfl | (with_reducible assumption) | ((show (_ : Int) = _); (try dsimp only); omega) | ((show eqSV _ _); simp [eqSV, isB, bval, *]; done) | rfl)); all_goals (exact fun b x h => h))
  · obtain rfl : m = 0 := by omega
    simp only [List.drop_zero] at hV ⊢
    have hle := ExP.nd_le (b := 10) (by omega) hV
    have hTR := fun a (cap : Nat) (w' : World) hc hs' => rtrim_any a i cap (ExP.valS s) w' hV hc (by omega) hs'
    cases i with
    | zero =>
      dsimp only [apJ]
      have h0 : ExP.nd 10 (ExP.valS s) = 0 := by omega
      have e : nv .i64 10 (ExP.valS s) = [] := List.length_eq_zero_iff.1 (by rw [nv_len, h0])
      have hT := fun w' => hTR none 0 w' (Nat.le_refl _) (sl_nil _ _)
      rw [h0] at hT
      repeat' (first | ((with_reducible first | show wpS .. | show putD .. | show putW .. | show splitG .. | show wpQ .. | show wpD .. | show wpX .. | show expX .. | show stepX .. | show keepR .. | show wpY ..); conv => whnf) | ((with_reducible show RetN ..); refine retB fun β => ?_) | ((with_reducible show _ ∧ _); first | (refine ⟨fun h => absurd h (by first | omega | decide), fun _ => ?_⟩) | (refine ⟨fun _ => ?_, fun h => absurd h (by first | omega | decide)⟩) | (refine ⟨fun _ => ?_, fun _ => ?_⟩) | (apply And.intro; · kernel_rfl) | (apply And.intro; · (show inK _ _; unfold inK; omega)) | (apply And.intro; · (show (_ : Int) ≤ 9223372036854775807; (try simp only [lenS]); omega))) | ((with_reducible show AllBe ..); refine allBe fun βe => ?_; conv => whnf) | ((with_reducible show bothX ..); refine bothI ?_ ?_; conv => whnf) | (with_reducible exact trivial) | ((with_reducible show CallN ..); refine call_of env_ok rfl 1000 ?_) | ((with_reducible show XopN ..); refine xop_of env_ok rfl 1000 ?_) | ((with_reducible show CallX ..); first | (refine callX (.any (.slice none 0 0)) (by kernel_rfl) rfl (rfl) (fun β w hm => hT w) ?_)) | ((with_reducible show OpX ..); first | fail) | ((with_reducible show ∃ _ : SV, _); first | fail) | ((with_reducible show ∃ _, _); first | fail))
      refine ret fun β w' hm => ?_
      exact ⟨none, 0, by rw [h0]; rfl, by rw [e]; exact sl_nil _ _, fun h => absurd e h, fun _ => rfl, by rw [h0]; exact Nat.le_refl _, hm.below⟩
    | succ i =>
      dsimp only [apJ]
      repeat' (first | ((with_reducible first | show wpS .. | show putD .. | show putW .. | show splitG .. | show wpQ .. | show wpD .. | show wpX .. | show expX .. | show stepX .. | show keepR .. | show wpY ..); conv => whnf) | ((with_reducible show RetN ..); refine retB fun β => ?_) | ((with_reducible show _ ∧ _); first | (refine ⟨fun h => absurd h (by first | omega | decide), fun _ => ?_⟩) | (refine ⟨fun _ => ?_, fun h => absurd h (by first | omega | decide)⟩) | (refine ⟨fun _ => ?_, fun _ => ?_⟩) | (apply And.intro; · kernel_rfl) | (apply And.intro; · (show inK _ _; unfold inK; omega)) | (apply And.intro; · (show (_ : Int) ≤ 9223372036854775807; (try simp only [lenS]); omega))) | ((with_reducible show AllBe ..); refine allBe fun βe => ?_; conv => whnf) | ((with_reducible show bothX ..); refine bothI ?_ ?_; conv => whnf) | (with_reducible exact trivial) | ((with_reducible show CallN ..); refine call_of env_ok rfl 1000 ?_) | ((with_reducible show XopN ..); refine xop_of env_ok rfl 1000 ?_) | ((with_reducible show CallX ..); first | (refine callX (.any (.slice (some ⟨g, 0, none⟩) (ExP.nd 10 (ExP.valS s)) cap)) (by kernel_rfl) rfl (rfl) (fun β w hm => hTR (some ⟨g, 0, none⟩) cap w (Mem.own hm 1 rfl).2.2 (Mem.own hm 1 rfl).1) ?_)) | ((with_reducible show OpX ..); first | fail) | ((with_reducible show ∃ _ : SV, _); first | fail) | ((with_reducible show ∃ _, _); first | fail))
      refine ret fun β w' hm => ?_
      obtain ⟨q1, q2, q3⟩ := Mem.own hm 1 rfl
      exact ⟨_, cap, rfl, sl_pre q1 (dgN_pre hle .i64), fresh_own q2 rfl, (fun h => by cases h), Nat.le_trans hle q3, hm.below⟩
abbrev apJ8 (fr : List (Nat × SV)) (d n i : Nat) (g cap : Nat) (xs : List Value) : St := match i with
  | 0 => ⟨(d, .any (.slice none 0 0)) :: fr, [], 0, n⟩
  | i + 1 => ⟨(d, .any (.slice (some ⟨g, 0, none⟩) (i + 1) cap)) :: fr, [(1, true, .blob (OwnS 5 1 g (i + 1) cap xs))], 2, n⟩
set_option maxRecDepth 100000 in
set_option maxHeartbeats 2000000 in
theorem rtext_any (a : Option Addr) (ca x : Nat) (w : World) (hx : ExP.nd 10 x ≤ 1000000) (hs : SlAt a (nv .i64 10 x) w) : Calls Tryz.prog 138 #[.slice a (ExP.nd 10 x) ca] w fun e w' => e = .returned (.string (bstr (Lib.decDigits x))) ∧ Below w.heap.size w w' := by
  obtain ⟨i0, hi, hz0, hz1, hz2⟩ := info_parts u8Info
  have hu := Tryz.underlying113
  have hsz := fun w => Tryz.sizeOf5 w
  have hzv := fun w => Tryz.zeroValue5 w
  refine enter env_ok Tryz.func138 rfl Tryz.results138 Tryz.ntmps138 [] [] [.any (.slice a (ExP.nd 10 x) ca)] ⟨rfl, trivial⟩ (Nat.le_of_ble_eq_true rfl) w _ 1000 ?_
  by_cases hx0 : x = 0
  · subst hx0
    have h0 := ExP.nd_zero 10
    repeat' (first | ((with_reducible first | show wpS .. | show putD .. | show putW .. | show splitG .. | show wpQ .. | show wpD .. | show wpX .. | show expX .. | show stepX .. | show keepR .. | show wpY ..); conv => whnf) | ((with_reducible show RetN ..); refine retB fun β => ?_) | ((with_reducible show _ ∧ _); first | (refine ⟨fun h => absurd h (by first | omega | decide), fun _ => ?_⟩) | (refine ⟨fun _ => ?_, fun h => absurd h (by first | omega | decide)⟩) | (refine ⟨fun _ => ?_, fun _ => ?_⟩) | (apply And.intro; · kernel_rfl) | (apply And.intro; · (show inK _ _; unfold inK; omega)) | (apply And.intro; · (show (_ : Int) ≤ 9223372036854775807; (try simp only [lenS]); omega))) | ((with_reducible show AllBe ..); refine allBe fun βe => ?_; conv => whnf) | ((with_reducible show bothX ..); refine bothI ?_ ?_; conv => whnf) | (with_reducible exact trivial) | ((with_reducible show CallN ..); refine call_of env_ok rfl 1000 ?_) | ((with_reducible show XopN ..); refine xop_of env_ok rfl 1000 ?_) | ((with_reducible show CallX ..); first | fail) | ((with_reducible show OpX ..); first | fail) | ((with_reducible show ∃ _ : SV, _); first | (refine ⟨_, ?ok, x_len Tryz.underlying70, ?_⟩; (case ok => exact fun _ _ => trivial))) | ((with_reducible show ∃ _, _); first | fail))
    · show Value.string (bstr [48]) = _
      rw [Lib.decDigits_one (by omega)]; rfl
    all_goals (exfalso; omega)
  have hxp := (ExP.nd_pos (b := 10) (by omega)).2 (Nat.pos_of_ne_zero hx0)
  obtain ⟨ad, rfl⟩ := SlAt.some hs (nv_ne hxp)
  have hgx := fun i (h : i < ExP.nd 10 x) => nv_get (k := .i64) h
  have hdx := fun i => ExP.dig_lt (b := 10) (by omega) i x
  have hstep := fun i => ExP.decE_step (x := x) (i := i)
  have htop : ExP.decE (x / 10 ^ ExP.nd 10 x) = [] := by rw [Nat.div_eq_of_lt (ExP.nd_lt (by omega) x)]; rfl
  have hlen : ∀ j, j ≤ ExP.nd 10 x → (ExP.decE (x / 10 ^ j)).length = ExP.nd 10 x - j := by
    intro j hj
    obtain ⟨k, hk⟩ : ∃ k, k = ExP.nd 10 x - j := ⟨_, rfl⟩
    induction k generalizing j with
    | zero =>
      have : j = ExP.nd 10 x := by omega
      subst this
      rw [htop]; simp
    | succ k ih => rw [hstep j (by omega), List.length_append, ih (j + 1) (by omega) (by omega)]; simp; omega
  have hbot : ExP.decE (x / 10 ^ 0) = Lib.decDigits x := by rw [Nat.pow_zero, Nat.div_one, ExP.dec_pos (Nat.pos_of_ne_zero hx0)]
  generalize ExP.nd 10 x = n at *
  repeat' (first | ((with_reducible first | show wpS .. | show putD .. | show putW .. | show splitG .. | show wpQ .. | show wpD .. | show wpX .. | show expX .. | show stepX .. | show keepR .. | show wpY ..); conv => whnf) | ((with_reducible show RetN ..); refine retB fun β => ?_) | ((with_reducible show _ ∧ _); first | (refine ⟨fun h => absurd h (by first | omega | decide), fun _ => ?_⟩) | (refine ⟨fun _ => ?_, fun h => absurd h (by first | omega | decide)⟩) | (refine ⟨fun _ => ?_, fun _ => ?_⟩) | (apply And.intro; · kernel_rfl) | (apply And.intro; · (show inK _ _; unfold inK; omega)) | (apply And.intro; · (show (_ : Int) ≤ 9223372036854775807; (try simp only [lenS]); omega))) | ((with_reducible show AllBe ..); refine allBe fun βe => ?_; conv => whnf) | ((with_reducible show bothX ..); refine bothI ?_ ?_; conv => whnf) | (with_reducible exact trivial) | ((with_reducible show CallN ..); refine call_of env_ok rfl 1000 ?_) | ((with_reducible show XopN ..); refine xop_of env_ok rfl 1000 ?_) | ((with_reducible show CallX ..); first | fail) | ((with_reducible show OpX ..); first | fail) | ((with_reducible show ∃ _ : SV, _); first | (refine ⟨_, ?ok, x_len Tryz.underlying70, ?_⟩; (case ok => exact fun _ _ => trivial))) | ((with_reducible show ∃ _, _); first | fail))
  refine loop env_ok rfl (T := {t : PsT // t.m ≤ n ∧ t.i = n - t.m}) (fun t => apJ8 [(0, .any (.slice (some ad) n ca)), (4, .int .i64 ((t.1.m : Nat) - 1 : Int))] 3 26 t.1.i t.1.g t.1.cap (bvals (ExP.decE (x / 10 ^ t.1.m)))) (fun t => t.1.m) ⟨⟨0, n, 0, 0⟩, Nat.le_refl _, by dsimp only; omega⟩ 1000 [] [] (fun t => by exact Nat.zero_le _) (by dsimp only [apJ8]; ((with_reducible show wk _ _); repeat' (first | exact trivial | exact eqSV_refl _ | (refine eqI ?_) | (refine eqS ?_) | (with_reducible exact rfl) | apply And.intro | exact Nat.zero_lt_one | exact Nat.le_of_ble_eq_true rfl | (with_reducible assumption) | ((show (_ : Int) = _); (try dsimp only); omega) | ((show eqSV _ _); simp [eqSV, isB, bval, *]; done) | rfl))) (fun t I hI => ?_)
  obtain ⟨⟨i, m, g, cap⟩, hm, hil⟩ := t
  dsimp only at hm hil ⊢
  by_cases hm0 : 0 < m
  · obtain ⟨q, rfl⟩ : ∃ q, m = q + 1 := ⟨m - 1, by omega⟩
    have r1 := sl_read hs (hgx q (by omega))
    have hdx := hdx q
    have hstep := hstep q (by omega)
    have hlq := hlen q (by omega)
    generalize ExP.dig 10 q x = dx at *
    have hcn : (UInt8.ofNat (48 + dx)).toNat = 48 + dx := by simp; omega
    have hrow := fun (v : Int) (hv : v = (48 : Int) + (dx : Nat)) => bvals_snoc (ExP.decE (x / 10 ^ (q + 1))) (UInt8.ofNat (48 + dx)) (v := v) (by rw [hv, hcn]; simp)
    rw [← hstep] at hrow
    cases i with
    | zero =>
      have he0 : ExP.decE (x / 10 ^ (q + 1)) = [] := List.length_eq_zero_iff.1 (by rw [hlen _ (by omega)]; omega)
      rw [he0] at hrow
      dsimp only [apJ8]
      repeat' (first | ((with_reducible first | show wpS .. | show putD .. | show putW .. | show splitG .. | show wpQ .. | show wpD .. | show wpX .. | show expX .. | show stepX .. | show keepR .. | show wpY ..); conv => whnf) | ((with_reducible show RetN ..); refine retB fun β => ?_) | ((with_reducible show _ ∧ _); first | (refine ⟨fun h => absurd h (by first | omega | decide), fun _ => ?_⟩) | (refine ⟨fun _ => ?_, fun h => absurd h (by first | omega | decide)⟩) | (refine ⟨fun _ => ?_, fun _ => ?_⟩) | (apply And.intro; · kernel_rfl) | (apply And.intro; · (show inK _ _; unfold inK; omega)) | (apply And.intro; · (show (_ : Int) ≤ 9223372036854775807; (try simp only [lenS]); omega))) | ((with_reducible show AllBe ..); refine allBe fun βe => ?_; conv => whnf) | ((with_reducible show bothX ..); refine bothI ?_ ?_; conv => whnf) | (with_reducible exact trivial) | ((with_reducible show CallN ..); refine call_of env_ok rfl 1000 ?_) | ((with_reducible show XopN ..); refine xop_of env_ok rfl 1000 ?_) | ((with_reducible show CallX ..); first | fail) | ((with_reducible show OpX ..); first | (refine opx_build1 (sz := 1) rfl rfl rfl (xs := [.int .u8 ((48 : Int) + (dx : Nat))]) (fun β => rfl) rfl (by omega) (by omega) hu hsz hzv (fun g1 => ?_)) | (refine opx_append0 (sz := 1) 0 rfl hu hi hz0 hz1 rfl (by omega) rfl rfl rfl (by unfold maxLen; omega) (by rw [hz2]; omega) (by simp [Value.oneCell']) (by omega) (fun g2 cap2 => ?_))) | ((with_reducible show ∃ _ : SV, _); first | (refine ⟨_, ?ok, x_index (j := q) (by omega) Tryz.underlying70 (fun w => Tryz.sizeOf3 w) (by omega), ?_⟩; (case ok => exact fun _ _ => rfl)) | (refine ⟨.int .i64 (dx : Nat), fun _ _ => trivial, x_load1 (fun w => Tryz.isAgg3 w) (fun w' hb β => by rw [Nat.mul_one]; exact r1 w' hb), ?_⟩)) | ((with_reducible show ∃ _, _); first | fail))
      refine hI _ ⟨⟨0 + 1, q, g2, cap2⟩, by dsimp only; omega, by dsimp only; omega⟩ (by dsimp only; omega) (by dsimp only [apJ8]; rw [← hrow _ rfl]; ((with_reducible show wk _ _); repeat' (first | exact trivial | exact eqSV_refl _ | (refine eqI ?_) | (refine eqS ?_) | (with_reducible exact rfl) | apply And.intro | exact Nat.zero_lt_one | exact Nat.le_of_ble_eq_true rfl | (with_reducible assumption) | ((show (_ : Int) = _); (try dsimp only); omega) | ((show eqSV _ _); simp [eqSV, isB, bval, *]; done) | rfl)); all_goals (exact fun b x h => h))
    | succ i =>
      dsimp only [apJ8]
      repeat' (first | ((with_reducible first | show wpS .. | show putD .. | show putW .. | show splitG .. | show wpQ .. | show wpD .. | show wpX .. | show expX .. | show stepX .. | show keepR .. | show wpY ..); conv => whnf) | ((with_reducible show RetN ..); refine retB fun β => ?_) | ((with_reducible show _ ∧ _); first | (refine ⟨fun h => absurd h (by first | omega | decide), fun _ => ?_⟩) | (refine ⟨fun _ => ?_, fun h => absurd h (by first | omega | decide)⟩) | (refine ⟨fun _ => ?_, fun _ => ?_⟩) | (apply And.intro; · kernel_rfl) | (apply And.intro; · (show inK _ _; unfold inK; omega)) | (apply And.intro; · (show (_ : Int) ≤ 9223372036854775807; (try simp only [lenS]); omega))) | ((with_reducible show AllBe ..); refine allBe fun βe => ?_; conv => whnf) | ((with_reducible show bothX ..); refine bothI ?_ ?_; conv => whnf) | (with_reducible exact trivial) | ((with_reducible show CallN ..); refine call_of env_ok rfl 1000 ?_) | ((with_reducible show XopN ..); refine xop_of env_ok rfl 1000 ?_) | ((with_reducible show CallX ..); first | fail) | ((with_reducible show OpX ..); first | (refine opx_build1 (sz := 1) rfl rfl rfl (xs := [.int .u8 ((48 : Int) + (dx : Nat))]) (fun β => rfl) rfl (by omega) (by omega) hu hsz hzv (fun g1 => ?_)) | (refine opx_append (sz := 1) 1 2 rfl hu hi hz0 hz1 rfl (by omega) rfl rfl rfl rfl (by unfold maxLen; omega) (by rw [hz2]; omega) (by simp [Value.oneCell']) (by kernel_rfl) (Nat.zero_le _) (fun g2 cap2 => ?_))) | ((with_reducible show ∃ _ : SV, _); first | (refine ⟨_, ?ok, x_index (j := q) (by omega) Tryz.underlying70 (fun w => Tryz.sizeOf3 w) (by omega), ?_⟩; (case ok => exact fun _ _ => rfl)) | (refine ⟨.int .i64 (dx : Nat), fun _ _ => trivial, x_load1 (fun w => Tryz.isAgg3 w) (fun w' hb β => by rw [Nat.mul_one]; exact r1 w' hb), ?_⟩)) | ((with_reducible show ∃ _, _); first | fail))
      refine hI _ ⟨⟨i + 1 + 1, q, g2, cap2⟩, by dsimp only; omega, by dsimp only; omega⟩ (by dsimp only; omega) (by dsimp only [apJ8]; rw [← hrow _ rfl]; ((with_reducible show wk _ _); repeat' (first | exact trivial | exact eqSV_refl _ | (refine eqI ?_) | (refine eqS ?_) | (with_reducible exact rfl) | apply And.intro | exact Nat.zero_lt_one | exact Nat.le_of_ble_eq_true rfl | (with_reducible assumption) | ((show (_ : Int) = _); (try dsimp only); omega) | ((show eqSV _ _); simp [eqSV, isB, bval, *]; done) | rfl)); all_goals (exact fun b x h => h))
  · obtain rfl : m = 0 := by omega
    rw [hbot]
    cases i with
    | zero => exfalso; omega
    | succ i =>
      dsimp only [apJ8]
      repeat' (first | ((with_reducible first | show wpS .. | show putD .. | show putW .. | show splitG .. | show wpQ .. | show wpD .. | show wpX .. | show expX .. | show stepX .. | show keepR .. | show wpY ..); conv => whnf) | ((with_reducible show RetN ..); refine retB fun β => ?_) | ((with_reducible show _ ∧ _); first | (refine ⟨fun h => absurd h (by first | omega | decide), fun _ => ?_⟩) | (refine ⟨fun _ => ?_, fun h => absurd h (by first | omega | decide)⟩) | (refine ⟨fun _ => ?_, fun _ => ?_⟩) | (apply And.intro; · kernel_rfl) | (apply And.intro; · (show inK _ _; unfold inK; omega)) | (apply And.intro; · (show (_ : Int) ≤ 9223372036854775807; (try simp only [lenS]); omega))) | ((with_reducible show AllBe ..); refine allBe fun βe => ?_; conv => whnf) | ((with_reducible show bothX ..); refine bothI ?_ ?_; conv => whnf) | (with_reducible exact trivial) | ((with_reducible show CallN ..); refine call_of env_ok rfl 1000 ?_) | ((with_reducible show XopN ..); refine xop_of env_ok rfl 1000 ?_) | ((with_reducible show CallX ..); first | fail) | ((with_reducible show OpX ..); first | fail) | ((with_reducible show ∃ _ : SV, _); first | (refine ⟨_, ?ok, Sym.x_bytesO 1 (Lib.decDigits x) hu Tryz.underlying5 Tryz.underlying9 rfl rfl, ?_⟩; (case ok => exact fun _ _ => trivial))) | ((with_reducible show ∃ _, _); first | fail))
      all_goals rfl
set_option maxRecDepth 100000 in
theorem rdigits_any (s : List UInt8) (w : World) (hs : s.length ≤ 9223372036854775807) : Calls Tryz.prog 136 #[.string (bstr s)] w fun e w' => e = .returned (.bool (ExP.digitsP s)) ∧ Below w.heap.size w w' := by
  refine enter env_ok Tryz.func136 rfl Tryz.results136 Tryz.ntmps136 [] [] [.str s] (by simp [SV.oks, SV.ok]) (Nat.le_of_ble_eq_true rfl) w _ 1000 ?_
  repeat' (first | ((with_reducible first | show wpS .. | show putD .. | show putW .. | show splitG .. | show wpQ .. | show wpD .. | show wpX .. | show expX .. | show stepX .. | show keepR .. | show wpY ..); conv => whnf) | ((with_reducible show RetN ..); refine retB fun β => ?_) | ((with_reducible show _ ∧ _); first | (refine ⟨fun h => absurd h (by first | omega | decide), fun _ => ?_⟩) | (refine ⟨fun _ => ?_, fun h => absurd h (by first | omega | decide)⟩) | (refine ⟨fun _ => ?_, fun _ => ?_⟩) | (apply And.intro; · kernel_rfl) | (apply And.intro; · (show inK _ _; unfold inK; omega)) | (apply And.intro; · (show (_ : Int) ≤ 9223372036854775807; (try simp only [lenS]); omega))) | ((with_reducible show AllBe ..); refine allBe fun βe => ?_; conv => whnf) | ((with_reducible show bothX ..); refine bothI ?_ ?_; conv => whnf) | (with_reducible exact trivial) | ((with_reducible show CallN ..); refine call_of env_ok rfl 1000 ?_) | ((with_reducible show XopN ..); refine xop_of env_ok rfl 1000 ?_) | ((with_reducible show CallX ..); first | fail) | ((with_reducible show OpX ..); first | fail) | ((with_reducible show ∃ _ : SV, _); first | fail) | ((with_reducible show ∃ _, _); first | fail))
  refine loop env_ok rfl (T := {n : Nat // n ≤ s.length ∧ s.all ExP.digC = (s.drop n).all ExP.digC}) (fun t => ⟨[(0, .str s), (5, .int .i64 (s.length : Nat)), (6, .int .i64 (t.1 : Nat))], [], 0, 31⟩) (fun t => s.length - t.1) ⟨0, Nat.zero_le _, by simp⟩ 1000 [] [] (fun _ => Nat.zero_le _) (by ((with_reducible show wk _ _); repeat' (first | exact trivial | exact eqSV_refl _ | (refine eqI ?_) | (refine eqS ?_) | (with_reducible exact rfl) | apply And.intro | exact Nat.zero_lt_one | exact Nat.le_of_ble_eq_true rfl | (with_reducible assumption) | ((show (_ : Int) = _); (try dsimp only); omega) | ((show eqSV _ _); simp [eqSV, isB, bval, *]; done) | rfl))) (fun t I hI => ?_)
  obtain ⟨n, hn, hr⟩ := t
  dsimp only
  have hd : n < s.length → s.drop n = s.getD n 0 :: s.drop (n + 1) := fun h => by rw [List.drop_eq_getElem_cons h, List.getD_eq_getElem?_getD, List.getElem?_eq_getElem h]; rfl
  by_cases hlt : n < s.length
  · have hdg := ExP.digC_nat (c := s.getD n 0)
    have h8 := (s.getD n 0).toNat_lt
    rw [hd hlt, List.all_cons] at hr
    by_cases hc : ExP.digC (s.getD n 0) = true
    · have := hdg.1 hc
      repeat' (first | ((with_reducible first | show wpS .. | show putD .. | show putW .. | show splitG .. | show wpQ .. | show wpD .. | show wpX .. | show expX .. | show stepX .. | show keepR .. | show wpY ..); conv => whnf) | ((with_reducible show RetN ..); refine retB fun β => ?_) | ((with_reducible show _ ∧ _); first | (refine ⟨fun h => absurd h (by first | omega | decide), fun _ => ?_⟩) | (refine ⟨fun _ => ?_, fun h => absurd h (by first | omega | decide)⟩) | (refine ⟨fun _ => ?_, fun _ => ?_⟩) | (apply And.intro; · kernel_rfl) | (apply And.intro; · (show inK _ _; unfold inK; omega)) | (apply And.intro; · (show (_ : Int) ≤ 9223372036854775807; (try simp only [lenS]); omega))) | ((with_reducible show AllBe ..); refine allBe fun βe => ?_; conv => whnf) | ((with_reducible show bothX ..); refine bothI ?_ ?_; conv => whnf) | (with_reducible exact trivial) | ((with_reducible show CallN ..); refine call_of env_ok rfl 1000 ?_) | ((with_reducible show XopN ..); refine xop_of env_ok rfl 1000 ?_) | ((with_reducible show CallX ..); first | fail) | ((with_reducible show OpX ..); first | fail) | ((with_reducible show ∃ _ : SV, _); first | fail) | ((with_reducible show ∃ _, _); first | (refine ⟨n, rfl, by omega, ?_⟩)))
      refine hI _ ⟨n + 1, by omega, by rw [hr, hc]; rfl⟩ (by dsimp only; omega) (by ((with_reducible show wk _ _); repeat' (first | exact trivial | exact eqSV_refl _ | (refine eqI ?_) | (refine eqS ?_) | (with_reducible exact rfl) | apply And.intro | exact Nat.zero_lt_one | exact Nat.le_of_ble_eq_true rfl | (with_reducible assumption) | ((show (_ : Int) = _); (try dsimp only); omega) | ((show eqSV _ _); simp [eqSV, isB, bval, *]; done) | rfl)))
    · have hc2 : ¬ (48 ≤ (s.getD n 0).toNat ∧ (s.getD n 0).toNat ≤ 57) := fun h => hc (hdg.2 h)
      have hall : s.all ExP.digC = false := by rw [hr, Bool.eq_false_iff.2 hc]; rfl
      have hf : ExP.digitsP s = false := by unfold ExP.digitsP; rw [hall]; simp
      rw [hf]
      repeat' (first | ((with_reducible first | show wpS .. | show putD .. | show putW .. | show splitG .. | show wpQ .. | show wpD .. | show wpX .. | show expX .. | show stepX .. | show keepR .. | show wpY ..); conv => whnf) | ((with_reducible show RetN ..); refine retB fun β => ?_) | ((with_reducible show _ ∧ _); first | (refine ⟨fun h => absurd h (by first | omega | decide), fun _ => ?_⟩) | (refine ⟨fun _ => ?_, fun h => absurd h (by first | omega | decide)⟩) | (refine ⟨fun _ => ?_, fun _ => ?_⟩) | (apply And.intro; · kernel_rfl) | (apply And.intro; · (show inK _ _; unfold inK; omega)) | (apply And.intro; · (show (_ : Int) ≤ 9223372036854775807; (try simp only [lenS]); omega))) | ((with_reducible show AllBe ..); refine allBe fun βe => ?_; conv => whnf) | ((with_reducible show bothX ..); refine bothI ?_ ?_; conv => whnf) | (with_reducible exact trivial) | ((with_reducible show CallN ..); refine call_of env_ok rfl 1000 ?_) | ((with_reducible show XopN ..); refine xop_of env_ok rfl 1000 ?_) | ((with_reducible show CallX ..); first | fail) | ((with_reducible show OpX ..); first | fail) | ((with_reducible show ∃ _ : SV, _); first | fail) | ((with_reducible show ∃ _, _); first | (refine ⟨n, rfl, by omega, ?_⟩)))
      all_goals rfl
  · rw [List.drop_eq_nil_of_le (by omega), List.all_nil] at hr
    unfold ExP.digitsP
    rw [hr]
    cases s with
    | nil =>
      repeat' (first | ((with_reducible first | show wpS .. | show putD .. | show putW .. | show splitG .. | show wpQ .. | show wpD .. | show wpX .. | show expX .. | show stepX .. | show keepR .. | show wpY ..); conv => whnf) | ((with_reducible show RetN ..); refine retB fun β => ?_) | ((with_reducible show _ ∧ _); first | (refine ⟨fun h => absurd h (by first | omega | decide), fun _ => ?_⟩) | (refine ⟨fun _ => ?_, fun h => absurd h (by first | omega | decide)⟩) | (refine ⟨fun _ => ?_, fun _ => ?_⟩) | (apply And.intro; · kernel_rfl) | (apply And.intro; · (show inK _ _; unfold inK; omega)) | (apply And.intro; · (show (_ : Int) ≤ 9223372036854775807; (try simp only [lenS]); omega))) | ((with_reducible show AllBe ..); refine allBe fun βe => ?_; conv => whnf) | ((with_reducible show bothX ..); refine bothI ?_ ?_; conv => whnf) | (with_reducible exact trivial) | ((with_reducible show CallN ..); refine call_of env_ok rfl 1000 ?_) | ((with_reducible show XopN ..); refine xop_of env_ok rfl 1000 ?_) | ((with_reducible show CallX ..); first | fail) | ((with_reducible show OpX ..); first | fail) | ((with_reducible show ∃ _ : SV, _); first | fail) | ((with_reducible show ∃ _, _); first | fail))
      all_goals rfl
    | cons c r =>
      have e0 : (c :: r).getD 0 0 = c := rfl
      by_cases h48 : c = 48
      · subst h48
        have e1 : (((48 : UInt8) :: r).getD 0 0).toNat = 48 := rfl
        repeat' (first | ((with_reducible first | show wpS .. | show putD .. | show putW .. | show splitG .. | show wpQ .. | show wpD .. | show wpX .. | show expX .. | show stepX .. | show keepR .. | show wpY ..); conv => whnf) | ((with_reducible show RetN ..); refine retB fun β => ?_) | ((with_reducible show _ ∧ _); first | (refine ⟨fun h => absurd h (by first | omega | decide), fun _ => ?_⟩) | (refine ⟨fun _ => ?_, fun h => absurd h (by first | omega | decide)⟩) | (refine ⟨fun _ => ?_, fun _ => ?_⟩) | (apply And.intro; · kernel_rfl) | (apply And.intro; · (show inK _ _; unfold inK; omega)) | (apply And.intro; · (show (_ : Int) ≤ 9223372036854775807; (try simp only [lenS]); omega))) | ((with_reducible show AllBe ..); refine allBe fun βe => ?_; conv => whnf) | ((with_reducible show bothX ..); refine bothI ?_ ?_; conv => whnf) | (with_reducible exact trivial) | ((with_reducible show CallN ..); refine call_of env_ok rfl 1000 ?_) | ((with_reducible show XopN ..); refine xop_of env_ok rfl 1000 ?_) | ((with_reducible show CallX ..); first | fail) | ((with_reducible show OpX ..); first | fail) | ((with_reducible show ∃ _ : SV, _); first | fail) | ((with_reducible show ∃ _, _); first | (refine ⟨0, rfl, by simp, ?_⟩)))
        all_goals (clear hI hd hr)
        all_goals first | (exfalso; omega) | (exfalso; simp_all; done) | skip
        all_goals (
          simp only [SV.den]
          congr 1
          cases r with
          | nil => simp
          | cons d r => simp)
      · have hn : ¬ c.toNat = 48 := fun e => h48 (UInt8.toNat_inj.1 e)
        have e1 : ((c :: r).getD 0 0).toNat = c.toNat := rfl
        repeat' (first | ((with_reducible first | show wpS .. | show putD .. | show putW .. | show splitG .. | show wpQ .. | show wpD .. | show wpX .. | show expX .. | show stepX .. | show keepR .. | show wpY ..); conv => whnf) | ((with_reducible show RetN ..); refine retB fun β => ?_) | ((with_reducible show _ ∧ _); first | (refine ⟨fun h => absurd h (by first | omega | decide), fun _ => ?_⟩) | (refine ⟨fun _ => ?_, fun h => absurd h (by first | omega | decide)⟩) | (refine ⟨fun _ => ?_, fun _ => ?_⟩) | (apply And.intro; · kernel_rfl) | (apply And.intro; · (show inK _ _; unfold inK; omega)) | (apply And.intro; · (show (_ : Int) ≤ 9223372036854775807; (try simp only [lenS]); omega))) | ((with_reducible show AllBe ..); refine allBe fun βe => ?_; conv => whnf) | ((with_reducible show bothX ..); refine bothI ?_ ?_; conv => whnf) | (with_reducible exact trivial) | ((with_reducible show CallN ..); refine call_of env_ok rfl 1000 ?_) | ((with_reducible show XopN ..); refine xop_of env_ok rfl 1000 ?_) | ((with_reducible show CallX ..); first | fail) | ((with_reducible show OpX ..); first | fail) | ((with_reducible show ∃ _ : SV, _); first | fail) | ((with_reducible show ∃ _, _); first | (refine ⟨0, rfl, by simp, ?_⟩)))
        all_goals (clear hI hd hr)
        all_goals first | (exfalso; omega) | (exfalso; simp_all; done) | skip
        all_goals (
          simp [SV.den, h48])
end Go.Proofs.YtdkhkfdenlabaaaGreatDoor
namespace Go.Proofs.YtdkhkfdenlabaaaGreatDoor
open Go.RowKit
open Sym
attribute [local irreducible] Calls Sym.AggEq ExP.nd ExP.dig ExP.upd
theorem ExP.dec_one {g : Nat} : Lib.decDigits g = [49] ↔ g = 1 := by
  constructor
  · intro h
    have := ExP.val_dec g
    rw [h] at this
    exact this.symm
  · rintro rfl
    rw [Lib.decDigits_one (by omega)]; rfl
/-- the two forms of a numerator that is not empty -/
theorem ExP.cutM_cases (f : List UInt8) (h : f ≠ []) : (∃ r, f = 45 :: r ∧ ExP.cutM f = (r, true)) ∨ (∃ c r, f = c :: r ∧ c.toNat ≠ 45 ∧ ExP.cutM f = (c :: r, false)) := by
  cases f with
  | nil => exact absurd rfl h
  | cons c r =>
    by_cases hc : c = 45
    · subst hc; exact .inl ⟨r, rfl, by simp [ExP.cutM]⟩
    · exact .inr ⟨c, r, rfl, fun e => hc (UInt8.toNat_inj.1 e), by simp [ExP.cutM, hc]⟩
set_option maxRecDepth 100000 in
set_option maxHeartbeats 4000000 in
theorem fracError_any (f : ExP.Fr) (w : World) (hw0 : 0 < w.heap.size) (h1 : f.1.length ≤ 9223372036854775807) (h2 : f.2.length ≤ 9223372036854775807) :
    Calls Tryz.prog 73 #[frV f] w fun e w' => e = .returned (.int .i64 (ExP.readE f)) ∧ Below w.heap.size w w' := by
  obtain ⟨f1, f2⟩ := f
  dsimp only at *
  have hE : ExP.readE (f1, f2) = if ExP.digitsP (ExP.cutM f1).1 = false ∨ ExP.digitsP f2 = false ∨ f2 = [48] ∨ ((ExP.cutM f1).1 = [48] ∧ (ExP.cutM f1).2 = true) then 4
    else if 300 < (ExP.cutM f1).1.length ∨ 300 < f2.length then 3
    else if Nat.gcd (ExP.valS (ExP.cutM f1).1) (ExP.valS f2) ≠ 1 then 4 else 0 := rfl
  generalize ExP.readE (f1, f2) = E at *
  by_cases h0 : f1 = []
  · subst h0
    rw [if_pos (.inl rfl)] at hE
    subst hE
    have hD := fun w => rdigits_any [] w (by simp)
    rw [show ExP.digitsP [] = false from rfl] at hD
    refine enter env_ok Tryz.func73 rfl Tryz.results73 Tryz.ntmps73 [] [200008] [.agg [.str [], .str f2]] (by simp [SV.oks, SV.ok]) (Nat.le_of_ble_eq_true rfl) w _ 1000 ?_
    repeat' (first | ((with_reducible first | show wpS .. | show putD .. | show putW .. | show splitG .. | show wpQ .. | show wpD .. | show wpX .. | show expX .. | show stepX .. | show keepR .. | show wpY ..); conv => whnf) | ((with_reducible show RetN ..); refine retB fun β => ?_) | ((with_reducible show _ ∧ _); first | (refine ⟨fun h => absurd h (by first | omega | decide), fun _ => ?_⟩) | (refine ⟨fun _ => ?_, fun h => absurd h (by first | omega | decide)⟩) | (refine ⟨fun _ => ?_, fun _ => ?_⟩) | (apply And.intro; · kernel_rfl) | (apply And.intro; · (show inK _ _; unfold inK; omega)) | (apply And.intro; · (show (_ : Int) ≤ 9223372036854775807; (try simp only [lenS]); omega))) | ((with_reducible show AllBe ..); refine allBe fun βe => ?_; conv => whnf) | ((with_reducible show bothX ..); refine bothI ?_ ?_; conv => whnf) | (with_reducible exact trivial) | ((with_reducible show CallN ..); refine call_of env_ok rfl 1000 ?_) | ((with_reducible show XopN ..); refine xop_of env_ok rfl 1000 ?_) | ((with_reducible show CallX ..); first | (refine callX (.lit false) (by kernel_rfl) rfl (trivial) (fun β w hm => hD w) ?_)) | ((with_reducible show OpX ..); first | fail) | ((with_reducible show ∃ _ : SV, _); first | fail) | ((with_reducible show ∃ _, _); first | fail))
    all_goals rfl
  have hL := cutM_len f1
  have hD1 := fun w => rdigits_any (ExP.cutM f1).1 w (by omega)
  have hD2 := fun w => rdigits_any f2 w (by omega)
  have hs1 := fun h => ExP.digits_ne (s := (ExP.cutM f1).1) h
  have hs2 := fun h => ExP.digits_ne (s := f2) h
  have hp2 := fun h => ExP.val_pos (s := f2) h
  have hF := ExP.cutM_cases f1 h0
  generalize ExP.cutM f1 = sm at *
  obtain ⟨s, m⟩ := sm
  dsimp only at *
  generalize ExP.digitsP s = d1 at *
  generalize ExP.digitsP f2 = d2 at *
  by_cases hbad : d1 = false ∨ d2 = false ∨ f2 = [48] ∨ (s = [48] ∧ m = true)
  · rw [if_pos hbad] at hE
    subst hE
    rcases hF with ⟨r, rfl, e⟩ | ⟨c, r, rfl, hc, e⟩
    · cases e
      have hdl : (List.drop 1 ((45 : UInt8) :: s)).length = s.length := rfl
      refine enter env_ok Tryz.func73 rfl Tryz.results73 Tryz.ntmps73 [] [200008] [.agg [.str (45 :: s), .str f2]] (by simp [SV.oks, SV.ok]) (Nat.le_of_ble_eq_true rfl) w _ 1000 ?_
      repeat' (first | ((with_reducible first | show wpS .. | show putD .. | show putW .. | show splitG .. | show wpQ .. | show wpD .. | show wpX .. | show expX .. | show stepX .. | show keepR .. | show wpY ..); conv => whnf) | ((with_reducible show RetN ..); refine retB fun β => ?_) | ((with_reducible show _ ∧ _); first | (refine ⟨fun h => absurd h (by first | omega | decide), fun _ => ?_⟩) | (refine ⟨fun _ => ?_, fun h => absurd h (by first | omega | decide)⟩) | (refine ⟨fun _ => ?_, fun _ => ?_⟩) | (apply And.intro; · kernel_rfl) | (apply And.intro; · (show inK _ _; unfold inK; omega)) | (apply And.intro; · (show (_ : Int) ≤ 9223372036854775807; (try simp only [lenS]); omega))) | ((with_reducible show AllBe ..); refine allBe fun βe => ?_; conv => whnf) | ((with_reducible show bothX ..); refine bothI ?_ ?_; conv => whnf) | (with_reducible exact trivial) | ((with_reducible show CallN ..); refine call_of env_ok rfl 1000 ?_) | ((with_reducible show XopN ..); refine xop_of env_ok rfl 1000 ?_) | ((with_reducible show CallX ..); first | (refine callX (.bool d1) (by kernel_rfl) rfl (trivial) (fun β w hm => hD1 w) ?_) | (refine callX (.bool d2) (by kernel_rfl) rfl (trivial) (fun β w hm => hD2 w) ?_)) | ((with_reducible show OpX ..); first | fail) | ((with_reducible show ∃ _ : SV, _); first | fail) | ((with_reducible show ∃ _, _); first | (refine ⟨0, rfl, by simp, ?_⟩) | (refine ⟨1, rfl, by simp, ?_⟩)))
      all_goals first | rfl | (exfalso; exact hm0 ⟨(by assumption : List.drop 1 ((45 : UInt8) :: s) = [48]), rfl⟩) | (exfalso; simp_all; done) | skip
    · cases e
      have hc0 : ((c :: r : List UInt8).getD 0 0).toNat = c.toNat := rfl
      refine enter env_ok Tryz.func73 rfl Tryz.results73 Tryz.ntmps73 [] [200008] [.agg [.str (c :: r), .str f2]] (by simp [SV.oks, SV.ok]) (Nat.le_of_ble_eq_true rfl) w _ 1000 ?_
      repeat' (first | ((with_reducible first | show wpS .. | show putD .. | show putW .. | show splitG .. | show wpQ .. | show wpD .. | show wpX .. | show expX .. | show stepX .. | show keepR .. | show wpY ..); conv => whnf) | ((with_reducible show RetN ..); refine retB fun β => ?_) | ((with_reducible show _ ∧ _); first | (refine ⟨fun h => absurd h (by first | omega | decide), fun _ => ?_⟩) | (refine ⟨fun _ => ?_, fun h => absurd h (by first | omega | decide)⟩) | (refine ⟨fun _ => ?_, fun _ => ?_⟩) | (apply And.intro; · kernel_rfl) | (apply And.intro; · (show inK _ _; unfold inK; omega)) | (apply And.intro; · (show (_ : Int) ≤ 9223372036854775807; (try simp only [lenS]); omega))) | ((with_reducible show AllBe ..); refine allBe fun βe => ?_; conv => whnf) | ((with_reducible show bothX ..); refine bothI ?_ ?_; conv => whnf) | (with_reducible exact trivial) | ((with_reducible show CallN ..); refine call_of env_ok rfl 1000 ?_) | ((with_reducible show XopN ..); refine xop_of env_ok rfl 1000 ?_) | ((with_reducible show CallX ..); first | (refine callX (.bool d1) (by kernel_rfl) rfl (trivial) (fun β w hm => hD1 w) ?_) | (refine callX (.bool d2) (by kernel_rfl) rfl (trivial) (fun β w hm => hD2 w) ?_)) | ((with_reducible show OpX ..); first | fail) | ((with_reducible show ∃ _ : SV, _); first | fail) | ((with_reducible show ∃ _, _); first | (refine ⟨0, rfl, by simp, ?_⟩) | (refine ⟨1, rfl, by simp, ?_⟩)))
      all_goals first | rfl | (exfalso; exact hm0 ⟨(by assumption : List.drop 1 ((45 : UInt8) :: s) = [48]), rfl⟩) | (exfalso; simp_all; done) | (exfalso; omega) | skip
  rw [if_neg hbad] at hE
  simp only [not_or, Bool.not_eq_false] at hbad
  obtain ⟨rfl, rfl, hz, hm0⟩ := hbad
  obtain ⟨-, ha1⟩ := hs1 rfl
  obtain ⟨-, ha2⟩ := hs2 rfl
  by_cases hlen : 300 < s.length ∨ 300 < f2.length
  · rw [if_pos hlen] at hE
    subst hE
    rcases hF with ⟨r, rfl, e⟩ | ⟨c, r, rfl, hc, e⟩
    · cases e
      have hdl : (List.drop 1 ((45 : UInt8) :: s)).length = s.length := rfl
      refine enter env_ok Tryz.func73 rfl Tryz.results73 Tryz.ntmps73 [] [200008] [.agg [.str (45 :: s), .str f2]] (by simp [SV.oks, SV.ok]) (Nat.le_of_ble_eq_true rfl) w _ 1000 ?_
      repeat' (first | ((with_reducible first | show wpS .. | show putD .. | show putW .. | show splitG .. | show wpQ .. | show wpD .. | show wpX .. | show expX .. | show stepX .. | show keepR .. | show wpY ..); conv => whnf) | ((with_reducible show RetN ..); refine retB fun β => ?_) | ((with_reducible show _ ∧ _); first | (refine ⟨fun h => absurd h (by first | omega | decide), fun _ => ?_⟩) | (refine ⟨fun _ => ?_, fun h => absurd h (by first | omega | decide)⟩) | (refine ⟨fun _ => ?_, fun _ => ?_⟩) | (apply And.intro; · kernel_rfl) | (apply And.intro; · (show inK _ _; unfold inK; omega)) | (apply And.intro; · (show (_ : Int) ≤ 9223372036854775807; (try simp only [lenS]); omega))) | ((with_reducible show AllBe ..); refine allBe fun βe => ?_; conv => whnf) | ((with_reducible show bothX ..); refine bothI ?_ ?_; conv => whnf) | (with_reducible exact trivial) | ((with_reducible show CallN ..); refine call_of env_ok rfl 1000 ?_) | ((with_reducible show XopN ..); refine xop_of env_ok rfl 1000 ?_) | ((with_reducible show CallX ..); first | (refine callX (.lit true) (by kernel_rfl) rfl (trivial) (fun β w hm => hD1 w) ?_) | (refine callX (.lit true) (by kernel_rfl) rfl (trivial) (fun β w hm => hD2 w) ?_)) | ((with_reducible show OpX ..); first | fail) | ((with_reducible show ∃ _ : SV, _); first | fail) | ((with_reducible show ∃ _, _); first | (refine ⟨0, rfl, by simp, ?_⟩) | (refine ⟨1, rfl, by simp, ?_⟩)))
      all_goals first | rfl | (exfalso; exact hm0 ⟨(by assumption : List.drop 1 ((45 : UInt8) :: s) = [48]), rfl⟩) | (exfalso; simp_all; done) | (exfalso; omega) | skip
    · cases e
      have hc0 : ((c :: r : List UInt8).getD 0 0).toNat = c.toNat := rfl
      refine enter env_ok Tryz.func73 rfl Tryz.results73 Tryz.ntmps73 [] [200008] [.agg [.str (c :: r), .str f2]] (by simp [SV.oks, SV.ok]) (Nat.le_of_ble_eq_true rfl) w _ 1000 ?_
      repeat' (first | ((with_reducible first | show wpS .. | show putD .. | show putW .. | show splitG .. | show wpQ .. | show wpD .. | show wpX .. | show expX .. | show stepX .. | show keepR .. | show wpY ..); conv => whnf) | ((with_reducible show RetN ..); refine retB fun β => ?_) | ((with_reducible show _ ∧ _); first | (refine ⟨fun h => absurd h (by first | omega | decide), fun _ => ?_⟩) | (refine ⟨fun _ => ?_, fun h => absurd h (by first | omega | decide)⟩) | (refine ⟨fun _ => ?_, fun _ => ?_⟩) | (apply And.intro; · kernel_rfl) | (apply And.intro; · (show inK _ _; unfold inK; omega)) | (apply And.intro; · (show (_ : Int) ≤ 9223372036854775807; (try simp only [lenS]); omega))) | ((with_reducible show AllBe ..); refine allBe fun βe => ?_; conv => whnf) | ((with_reducible show bothX ..); refine bothI ?_ ?_; conv => whnf) | (with_reducible exact trivial) | ((with_reducible show CallN ..); refine call_of env_ok rfl 1000 ?_) | ((with_reducible show XopN ..); refine xop_of env_ok rfl 1000 ?_) | ((with_reducible show CallX ..); first | (refine callX (.lit true) (by kernel_rfl) rfl (trivial) (fun β w hm => hD1 w) ?_) | (refine callX (.lit true) (by kernel_rfl) rfl (trivial) (fun β w hm => hD2 w) ?_)) | ((with_reducible show OpX ..); first | fail) | ((with_reducible show ∃ _ : SV, _); first | fail) | ((with_reducible show ∃ _, _); first | (refine ⟨0, rfl, by simp, ?_⟩) | (refine ⟨1, rfl, by simp, ?_⟩)))
      all_goals first | rfl | (exfalso; exact hm0 ⟨(by assumption : List.drop 1 ((45 : UInt8) :: s) = [48]), rfl⟩) | (exfalso; simp_all; done) | (exfalso; omega) | skip
  rw [if_neg hlen] at hE
  have hP1 := fun w => natOf_any s w (by omega) ha1
  have hP2 := fun w => natOf_any f2 w (by omega) ha2
  have hn1 := ExP.nd_val (b := 10) (by omega) ha1
  have hn2 := ExP.nd_val (b := 10) (by omega) ha2
  have hv2 := hp2 rfl hz
  generalize ExP.valS s = x at *
  generalize ExP.valS f2 = y at *
  have hgn := ExP.nd_mono (b := 10) (by omega) (Nat.gcd_le_right x hv2)
  have hT := fun a c w' h => rtext_any a c (Nat.gcd x y) w' (by omega) h
  have hd := ExP.dec_one (g := Nat.gcd x y)
  rw [show (if Nat.gcd x y ≠ 1 then (4 : Int) else 0) = if ¬ Lib.decDigits (Nat.gcd x y) = [49] then 4 else 0 by simp only [ne_eq, hd]] at hE
  generalize Lib.decDigits (Nat.gcd x y) = dt at *
  rcases hF with ⟨r, rfl, e⟩ | ⟨c, r, rfl, hc, e⟩
  · cases e
    have hdl : (List.drop 1 ((45 : UInt8) :: s)).length = s.length := rfl
    refine enter env_ok Tryz.func73 rfl Tryz.results73 Tryz.ntmps73 [] [200008] [.agg [.str (45 :: s), .str f2]] (by simp [SV.oks, SV.ok]) (Nat.le_of_ble_eq_true rfl) w _ 1000 ?_
    repeat' (first | ((with_reducible first | show wpS .. | show putD .. | show putW .. | show splitG .. | show wpQ .. | show wpD .. | show wpX .. | show expX .. | show stepX .. | show keepR .. | show wpY ..); conv => whnf) | ((with_reducible show RetN ..); refine retB fun β => ?_) | ((with_reducible show _ ∧ _); first | (refine ⟨fun h => absurd h (by first | omega | decide), fun _ => ?_⟩) | (refine ⟨fun _ => ?_, fun h => absurd h (by first | omega | decide)⟩) | (refine ⟨fun _ => ?_, fun _ => ?_⟩) | (apply And.intro; · kernel_rfl) | (apply And.intro; · (show inK _ _; unfold inK; omega)) | (apply And.intro; · (show (_ : Int) ≤ 9223372036854775807; (try simp only [lenS]); omega))) | ((with_reducible show AllBe ..); refine allBe fun βe => ?_; conv => whnf) | ((with_reducible show bothX ..); refine bothI ?_ ?_; conv => whnf) | (with_reducible exact trivial) | ((with_reducible show CallN ..); refine call_of env_ok rfl 1000 ?_) | ((with_reducible show XopN ..); refine xop_of env_ok rfl 1000 ?_) | ((with_reducible show CallX ..); first | (refine callX (.lit true) (by kernel_rfl) rfl (trivial) (fun β w hm => hD1 w) ?_) | (refine callX (.lit true) (by kernel_rfl) rfl (trivial) (fun β w hm => hD2 w) ?_) | (refine callNat .i64 10 x hw0 (by kernel_rfl) rfl (fun β w' hm => hP1 w') (fun a1 c1 q1 q2 q3 => ?_)) | (refine callNat .i64 10 y hw0 (by kernel_rfl) rfl (fun β w' hm => hP2 w') (fun a2 c2 q4 q5 q6 => ?_)) | (refine callNatL (Lz x a1 (Lz y a2 [])) .i64 10 (Nat.gcd x y) hw0 (by kernel_rfl) rfl (by repeat (first | exact apart_nil | refine apart_row 1 (Nat.le_of_ble_eq_true rfl) rfl ?_ | refine apart_row 2 (Nat.le_of_ble_eq_true rfl) rfl ?_ | refine apart_row 3 (Nat.le_of_ble_eq_true rfl) rfl ?_ | refine apart_row 4 (Nat.le_of_ble_eq_true rfl) rfl ?_ | refine apart_row 5 (Nat.le_of_ble_eq_true rfl) rfl ?_)) (fun β w' hm => rgcd_any _ a1 a2 c1 c2 x y w' (Nat.lt_of_lt_of_le hw0 hm.base_le) (by omega) (by omega) q1 q2 q4 q5 Lz_in (fun h => Lz_mem (Lz_in h)) (by first | exact hm.slF 1 rfl | exact hm.slF 2 rfl | exact hm.slF 3 rfl | exact hm.slF 4 rfl | exact hm.slF 5 rfl | exact hm.slB 3 rfl | exact hm.slB 4 rfl | exact hm.slB 5 rfl | exact hm.slB 6 rfl) (by first | exact hm.slF 1 rfl | exact hm.slF 2 rfl | exact hm.slF 3 rfl | exact hm.slF 4 rfl | exact hm.slF 5 rfl | exact hm.slB 3 rfl | exact hm.slB 4 rfl | exact hm.slB 5 rfl | exact hm.slB 6 rfl)) (fun a3 c3 q7 q8 q9 => ?_)) | (refine callX (.str dt) (by kernel_rfl) rfl (trivial) (fun β w hm => hT a3 c3 w (by first | exact hm.slF 1 rfl | exact hm.slF 2 rfl | exact hm.slF 3 rfl | exact hm.slF 4 rfl | exact hm.slF 5 rfl | exact hm.slB 3 rfl | exact hm.slB 4 rfl | exact hm.slB 5 rfl | exact hm.slB 6 rfl)) ?_)) | ((with_reducible show OpX ..); first | fail) | ((with_reducible show ∃ _ : SV, _); first | fail) | ((with_reducible show ∃ _, _); first | (refine ⟨0, rfl, by simp, ?_⟩) | (refine ⟨1, rfl, by simp, ?_⟩)))
    all_goals first | (exfalso; exact hm0 ⟨(by assumption : List.drop 1 ((45 : UInt8) :: s) = [48]), rfl⟩) | (exfalso; simp_all; done) | (exfalso; omega) | (simp_all [SV.den]; done) | skip
  · cases e
    have hc0 : ((c :: r : List UInt8).getD 0 0).toNat = c.toNat := rfl
    refine enter env_ok Tryz.func73 rfl Tryz.results73 Tryz.ntmps73 [] [200008] [.agg [.str (c :: r), .str f2]] (by simp [SV.oks, SV.ok]) (Nat.le_of_ble_eq_true rfl) w _ 1000 ?_
    repeat' (first | ((with_reducible first | show wpS .. | show putD .. | show putW .. | show splitG .. | show wpQ .. | show wpD .. | show wpX .. | show expX .. | show stepX .. | show keepR .. | show wpY ..); conv => whnf) | ((with_reducible show RetN ..); refine retB fun β => ?_) | ((with_reducible show _ ∧ _); first | (refine ⟨fun h => absurd h (by first | omega | decide), fun _ => ?_⟩) | (refine ⟨fun _ => ?_, fun h => absurd h (by first | omega | decide)⟩) | (refine ⟨fun _ => ?_, fun _ => ?_⟩) | (apply And.intro; · kernel_rfl) | (apply And.intro; · (show inK _ _; unfold inK; omega)) | (apply And.intro; · (show (_ : Int) ≤ 9223372036854775807; (try simp only [lenS]); omega))) | ((with_reducible show AllBe ..); refine allBe fun βe => ?_; conv => whnf) | ((with_reducible show bothX ..); refine bothI ?_ ?_; conv => whnf) | (with_reducible exact trivial) | ((with_reducible show CallN ..); refine call_of env_ok rfl 1000 ?_) | ((with_reducible show XopN ..); refine xop_of env_ok rfl 1000 ?_) | ((with_reducible show CallX ..); first | (refine callX (.lit true) (by kernel_rfl) rfl (trivial) (fun β w hm => hD1 w) ?_) | (refine callX (.lit true) (by kernel_rfl) rfl (trivial) (fun β w hm => hD2 w) ?_) | (refine callNat .i64 10 x hw0 (by kernel_rfl) rfl (fun β w' hm => hP1 w') (fun a1 c1 q1 q2 q3 => ?_)) | (refine callNat .i64 10 y hw0 (by kernel_rfl) rfl (fun β w' hm => hP2 w') (fun a2 c2 q4 q5 q6 => ?_)) | (refine callNatL (Lz x a1 (Lz y a2 [])) .i64 10 (Nat.gcd x y) hw0 (by kernel_rfl) rfl (by repeat (first | exact apart_nil | refine apart_row 1 (Nat.le_of_ble_eq_true rfl) rfl ?_ | refine apart_row 2 (Nat.le_of_ble_eq_true rfl) rfl ?_ | refine apart_row 3 (Nat.le_of_ble_eq_true rfl) rfl ?_ | refine apart_row 4 (Nat.le_of_ble_eq_true rfl) rfl ?_ | refine apart_row 5 (Nat.le_of_ble_eq_true rfl) rfl ?_)) (fun β w' hm => rgcd_any _ a1 a2 c1 c2 x y w' (Nat.lt_of_lt_of_le hw0 hm.base_le) (by omega) (by omega) q1 q2 q4 q5 Lz_in (fun h => Lz_mem (Lz_in h)) (by first | exact hm.slF 1 rfl | exact hm.slF 2 rfl | exact hm.slF 3 rfl | exact hm.slF 4 rfl | exact hm.slF 5 rfl | exact hm.slB 3 rfl | exact hm.slB 4 rfl | exact hm.slB 5 rfl | exact hm.slB 6 rfl) (by first | exact hm.slF 1 rfl | exact hm.slF 2 rfl | exact hm.slF 3 rfl | exact hm.slF 4 rfl | exact hm.slF 5 rfl | exact hm.slB 3 rfl | exact hm.slB 4 rfl | exact hm.slB 5 rfl | exact hm.slB 6 rfl)) (fun a3 c3 q7 q8 q9 => ?_)) | (refine callX (.str dt) (by kernel_rfl) rfl (trivial) (fun β w hm => hT a3 c3 w (by first | exact hm.slF 1 rfl | exact hm.slF 2 rfl | exact hm.slF 3 rfl | exact hm.slF 4 rfl | exact hm.slF 5 rfl | exact hm.slB 3 rfl | exact hm.slB 4 rfl | exact hm.slB 5 rfl | exact hm.slB 6 rfl)) ?_)) | ((with_reducible show OpX ..); first | fail) | ((with_reducible show ∃ _ : SV, _); first | fail) | ((with_reducible show ∃ _, _); first | (refine ⟨0, rfl, by simp, ?_⟩) | (refine ⟨1, rfl, by simp, ?_⟩)))
    all_goals first | (exfalso; exact hm0 ⟨(by assumption : List.drop 1 ((45 : UInt8) :: s) = [48]), rfl⟩) | (exfalso; simp_all; done) | (exfalso; omega) | (simp_all [SV.den]; done) | skip
end Go.Proofs.YtdkhkfdenlabaaaGreatDoor
