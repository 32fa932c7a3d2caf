/- The reference's numbers: NatOf, Text, Digits. Fractions of the reference: FracError, RatOf, Frac. Fractions of the reference: RatOf, Frac. Equality of structs, field by field. Fractions of the reference: sums, products, signs; equality The law of operations: its helpers, and the law itself. Whole numbers as texts and fractions: the reference's Decima Whole numbers as fractions: the reference's unsigned, Whole; -/
import Derived.Test.YtdkhkfdenlabaaaGreatDoorLGG
import Derived.Test.YtdkhkfdenlabaaaGreatDoorLGM
import Derived.Test.YtdkhkfdenlabaaaGreatDoorLGL
import Derived.Test.YtdkhkfdenlabaaaGreatDoorLGA
import Derived.ChangeKeysEq
set_option linter.unusedSimpArgs false
set_option linter.unusedVariables false
set_option maxRecDepth 100000
set_option maxHeartbeats 64000000
namespace Go.Proofs.YtdkhkfdenlabaaaGreatDoor
open Go.RowKit
open Sym
attribute [local irreducible] Calls Sym.AggEq ExP.nd ExP.dig ExP.upd
theorem u8Info : (Tryz.prog.info? 5).map (fun i => (i.zero, i.size, i.bytes)) = some (some (.int .u8 0), 1, 1) := by kernel_rfl
theorem Sym.x_bytesO {C : Ctx} {G : Blobs} {x : Operand} {t u e : TypeId} {g cap n : Nat} {xs : List Value} (i : Nat) (l : List UInt8) (hs : C.P.underlying t = some (.slice e)) (he : C.P.underlying e = some (.int .u8)) (hd : C.P.underlying u = some .string)
  (ri : G i = some (OwnS e 1 g n cap xs)) (hx : xs = bvals l) : ExtN C G (.convert t u x) [.any (.slice (some ⟨g, 0, none⟩) n cap)] (.str l) := by
 unfold ExtN
 intro ρ β w dst ty pos after gd _ hG h
 have e1 : ρ x = .slice (some ⟨g, 0, none⟩) n cap := by simpa [opsX, SV.dens, SV.den] using h
 have ho := (hG i _ ri).2
 have hc := OwnS.cell ho
 have hn : n = l.length := by obtain ⟨-, cur, -, -, -, -, -, h6⟩ := ho; rw [hx] at h6; simp [bvals] at h6; exact h6.symm
 subst hn
 have hr := run_convert_bytes_back (P := C.P) w t u e ⟨g, 0, none⟩ cap l hs he hd (fun j hj => hc j _ (by rw [hx]; simp [bvals, hj]))
 simp [execOp, e1, hr, SV.den, bstr]
theorem bvals_snoc (l : List UInt8) (c : UInt8) {v : Int} (h : v = (c.toNat : Int)) : bvals l ++ [.int .u8 v] = bvals (l ++ [c]) := by subst h; simp [bvals]
theorem ExP.drop_val {s : List UInt8} {j : Nat} (h : j < s.length) : ExP.valS (s.drop j) = ExP.valS (s.drop (j + 1)) + ((s.getD j 0).toNat - 48) * 10 ^ (s.length - (j + 1)) := by
 have e : s.drop j = [s.getD j 0] ++ s.drop (j + 1) := by rw [List.drop_eq_getElem_cons h, List.getD_eq_getElem?_getD, List.getElem?_eq_getElem h]; rfl
 rw [e, ExP.val_append, List.length_drop, Nat.add_comm]
 congr 2
 simp [ExP.valS, ExP.valF_cons, ExP.valF_nil]
theorem all_at {p : UInt8 → Bool} {s : List UInt8} (h : s.all p = true) {j : Nat} (hj : j < s.length) : p (s.getD j 0) = true := by
 rw [List.all_eq_true] at h
 refine h _ ?_
 rw [List.getD_eq_getElem?_getD, List.getElem?_eq_getElem hj]
 exact List.getElem_mem hj
theorem natOf_any (s : List UInt8) (w : World) (hs : s.length ≤ 1000000) (hd : s.all ExP.digC = true) : Calls Tryz.prog 130 #[.string (bstr s)] w (NatOut .i64 10 (ExP.valS s) w) := by
 obtain ⟨i0, hi, hz0, hz1, hz2⟩ := info_parts intInfo
 have hu := Tryz.underlying70
 have hsz := fun w => Tryz.sizeOf3 w
 have hzv := fun w => Tryz.zeroValue3 w
 have hVl : ∀ m, ExP.valS (s.drop m) < 10 ^ (s.length - m) := fun m => by
  have h1 := ExP.val_lt _ (all_drop hd m)
  rw [List.length_drop] at h1
  exact h1
 refine yE Tryz.func130 rfl Tryz.results130 Tryz.ntmps130 [] [] [.str s] w ?_
 repeat' (first | refine yX ?_ | (apply And.intro <;> intro _) | apply bothI | refine retB fun β => ?_ | intro βe | exact trivial)
 refine loop env_ok rfl (T := {t : PsT // t.m ≤ s.length ∧ t.i = s.length - t.m}) (fun t => apJ [(0, .str s), (4, .int .i64 ((t.1.m : Nat) - 1 : Int))] 3 22 t.1.i t.1.g t.1.cap (valsK .i64 (ExP.dgN 10 t.1.i (ExP.valS (s.drop t.1.m))))) (fun t => t.1.m) ⟨⟨0, s.length, 0, 0⟩, Nat.le_refl _, by dsimp only; omega⟩ 1000 [] [] (fun t => by exact Nat.zero_le _) (by dsimp only [apJ]; ((with_reducible show wk _ _); repeat' (first | exact trivial | exact eqSV_refl _ | refine eqI ?_ | refine eqS ?_ | apply And.intro | exact yV | fail))) (fun t I hI => ?_)
 obtain ⟨⟨i, m, g, cap⟩, hm, hil⟩ := t
 dsimp only at hm hil ⊢
 have hV := hVl m
 rw [← hil] at hV
 by_cases hm0 : 0 < m
 ·obtain ⟨q, rfl⟩ : ∃ q, m = q + 1 := ⟨m - 1, by omega⟩
  have hcd := ExP.digC_nat.1 (all_at hd (j := q) (by omega))
  have hVq := ExP.drop_val (s := s) (j := q) (by omega)
  rw [← hil] at hVq
  have hrow := fun (v : Int) (hv : v = (((s.getD q 0).toNat - 48 : Nat) : Int)) => ExP.row_snoc (k := .i64) (b := 10) (i := i) (S := ExP.valS (s.drop (q + 1))) (by omega) hV (by omega) hv
  rw [← hVq] at hrow
  cases i with
  | zero =>
    dsimp only [apJ]
    repeat' (first | refine yX ?_ | (apply And.intro <;> intro _) | apply bothI | refine retB fun β => ?_ | intro βe | (refine opx_build1 (sz := 1) rfl rfl rfl (xs := [.int .i64 (((s.getD q 0).toNat - 48 : Nat) : Int)]) (fun β => by simp only [SV.dens, SV.den]; congr 2; omega) rfl (by omega) (by omega) hu hsz hzv (fun g1 => ?_)) | (refine opx_append0 (sz := 1) 0 rfl hu hi hz0 hz1 rfl (by omega) rfl rfl rfl (by unfold maxLen; omega) (by rw [hz2]; omega) (by simp [Value.oneCell']) (by omega) (fun g2 cap2 => ?_)) | ((with_reducible show ∃ _, _); first | (refine ⟨q, by omega, by omega, ?_⟩)) | exact trivial)
    refine hI _ ⟨⟨0 + 1, q, g2, cap2⟩, by dsimp only; omega, by dsimp only; omega⟩ (by dsimp only; omega) (by dsimp only [apJ]; rw [← hrow _ rfl]; ((with_reducible show wk _ _); repeat' (first | exact trivial | exact eqSV_refl _ | refine eqI ?_ | refine eqS ?_ | apply And.intro | exact yV | fail)); all_goals (exact fun b x h => h))
  | succ i =>
    dsimp only [apJ]
    repeat' (first | refine yX ?_ | (apply And.intro <;> intro _) | apply bothI | refine retB fun β => ?_ | intro βe | (refine opx_build1 (sz := 1) rfl rfl rfl (xs := [.int .i64 (((s.getD q 0).toNat - 48 : Nat) : Int)]) (fun β => by simp only [SV.dens, SV.den]; congr 2; omega) rfl (by omega) (by omega) hu hsz hzv (fun g1 => ?_)) | (refine opx_append (sz := 1) 1 2 rfl hu hi hz0 hz1 rfl (by omega) rfl rfl rfl rfl (by unfold maxLen; omega) (by rw [hz2]; omega) (by simp [Value.oneCell']) (by kernel_rfl) (Nat.zero_le _) (fun g2 cap2 => ?_)) | ((with_reducible show ∃ _, _); first | (refine ⟨q, by omega, by omega, ?_⟩)) | exact trivial)
    refine hI _ ⟨⟨i + 1 + 1, q, g2, cap2⟩, by dsimp only; omega, by dsimp only; omega⟩ (by dsimp only; omega) (by dsimp only [apJ]; rw [← hrow _ rfl]; ((with_reducible show wk _ _); repeat' (first | exact trivial | exact eqSV_refl _ | refine eqI ?_ | refine eqS ?_ | apply And.intro | exact yV | fail)); all_goals (exact fun b x h => h))
 ·obtain rfl : m = 0 := by omega
  simp only [List.drop_zero] at hV ⊢
  have hle := ExP.nd_le (b := 10) (by omega) hV
  have hTR := fun a (cap : Nat) (w' : World) hc hs' => rtrim_any a i cap (ExP.valS s) w' hV hc (by omega) hs'
  cases i with
  | zero =>
    dsimp only [apJ]
    have h0 : ExP.nd 10 (ExP.valS s) = 0 := by omega
    have e : nv .i64 10 (ExP.valS s) = [] := List.length_eq_zero_iff.1 (by rw [nv_len, h0])
    have hT := fun w' => hTR none 0 w' (Nat.le_refl _) (sl_nil _ _)
    rw [h0] at hT
    repeat' (first | refine yX ?_ | (apply And.intro <;> intro _) | apply bothI | refine retB fun β => ?_ | intro βe | refine yK (.any (.slice none 0 0)) (fun β w hm => hT w) ?_ | exact trivial)
    refine ret fun β w' hm => ?_
    exact ⟨none, 0, by rw [h0]; rfl, by rw [e]; exact sl_nil _ _, fun h => absurd e h, fun _ => rfl, by rw [h0]; exact Nat.le_refl _, hm.below⟩
  | succ i =>
    dsimp only [apJ]
    repeat' (first | refine yX ?_ | (apply And.intro <;> intro _) | apply bothI | refine retB fun β => ?_ | intro βe | refine yK (.any (.slice (some ⟨g, 0, none⟩) (ExP.nd 10 (ExP.valS s)) cap)) (fun β w hm => hTR (some ⟨g, 0, none⟩) cap w (Mem.own hm 1 rfl).2.2 (Mem.own hm 1 rfl).1) ?_ | exact trivial)
    refine ret fun β w' hm => ?_
    obtain ⟨q1, q2, q3⟩ := Mem.own hm 1 rfl
    exact ⟨_, cap, rfl, sl_pre q1 (dgN_pre hle .i64), fresh_own q2 rfl, (fun h => by cases h), Nat.le_trans hle q3, hm.below⟩
abbrev apJ8 (fr : List (Nat × SV)) (d n i : Nat) (g cap : Nat) (xs : List Value) : St := match i with
 | 0 => ⟨(d, .any (.slice none 0 0)) :: fr, [], 0, n⟩
 | i + 1 => ⟨(d, .any (.slice (some ⟨g, 0, none⟩) (i + 1) cap)) :: fr, [(1, true, .blob (OwnS 5 1 g (i + 1) cap xs))], 2, n⟩
theorem rtext_any (a : Option Addr) (ca x : Nat) (w : World) (hx : ExP.nd 10 x ≤ 1000000) (hs : SlAt a (nv .i64 10 x) w) : QC 138 #[.slice a (ExP.nd 10 x) ca] w (.string (bstr (Lib.decDigits x))) := by
 obtain ⟨i0, hi, hz0, hz1, hz2⟩ := info_parts u8Info
 have hu := Tryz.underlying113
 have hsz := fun w => Tryz.sizeOf5 w
 have hzv := fun w => Tryz.zeroValue5 w
 refine yE Tryz.func138 rfl Tryz.results138 Tryz.ntmps138 [] [] [.any (.slice a (ExP.nd 10 x) ca)] w ?_
 by_cases hx0 : x = 0
 ·subst hx0
  have h0 := ExP.nd_zero 10
  repeat' (first | refine yX ?_ | (apply And.intro <;> intro _) | apply bothI | refine retB fun β => ?_ | intro βe | refine yO (x_len Tryz.underlying70) ?_ | exact trivial)
  ·show Value.string (bstr [48]) = _
   rw [Lib.decDigits_one (by omega)]; rfl
  all_goals (exfalso; omega)
 have hxp := (ExP.nd_pos (b := 10) (by omega)).2 (Nat.pos_of_ne_zero hx0)
 obtain ⟨ad, rfl⟩ := SlAt.some hs (nv_ne hxp)
 have hgx := fun i (h : i < ExP.nd 10 x) => nv_get (k := .i64) h
 have hdx := fun i => ExP.dig_lt (b := 10) (by omega) i x
 have hstep := fun i => ExP.decE_step (x := x) (i := i)
 have htop : ExP.decE (x / 10 ^ ExP.nd 10 x) = [] := by rw [Nat.div_eq_of_lt (ExP.nd_lt (by omega) x)]; rfl
 have hlen : ∀ j, j ≤ ExP.nd 10 x → (ExP.decE (x / 10 ^ j)).length = ExP.nd 10 x - j := by
  intro j hj
  obtain ⟨k, hk⟩ : ∃ k, k = ExP.nd 10 x - j := ⟨_, rfl⟩
  induction k generalizing j with
  | zero =>
    have : j = ExP.nd 10 x := by omega
    subst this
    rw [htop]; simp
  | succ k ih => rw [hstep j (by omega), List.length_append, ih (j + 1) (by omega) (by omega)]; simp; omega
 have hbot : ExP.decE (x / 10 ^ 0) = Lib.decDigits x := by rw [Nat.pow_zero, Nat.div_one, ExP.dec_pos (Nat.pos_of_ne_zero hx0)]
 generalize ExP.nd 10 x = n at *
 repeat' (first | refine yX ?_ | (apply And.intro <;> intro _) | apply bothI | refine retB fun β => ?_ | intro βe | refine yO (x_len Tryz.underlying70) ?_ | exact trivial)
 refine loop env_ok rfl (T := {t : PsT // t.m ≤ n ∧ t.i = n - t.m}) (fun t => apJ8 [(0, .any (.slice (some ad) n ca)), (4, .int .i64 ((t.1.m : Nat) - 1 : Int))] 3 26 t.1.i t.1.g t.1.cap (bvals (ExP.decE (x / 10 ^ t.1.m)))) (fun t => t.1.m) ⟨⟨0, n, 0, 0⟩, Nat.le_refl _, by dsimp only; omega⟩ 1000 [] [] (fun t => by exact Nat.zero_le _) (by dsimp only [apJ8]; ((with_reducible show wk _ _); repeat' (first | exact trivial | exact eqSV_refl _ | refine eqI ?_ | refine eqS ?_ | apply And.intro | exact yV | fail))) (fun t I hI => ?_)
 obtain ⟨⟨i, m, g, cap⟩, hm, hil⟩ := t
 dsimp only at hm hil ⊢
 by_cases hm0 : 0 < m
 ·obtain ⟨q, rfl⟩ : ∃ q, m = q + 1 := ⟨m - 1, by omega⟩
  have r1 := sl_read hs (hgx q (by omega))
  have hdx := hdx q
  have hstep := hstep q (by omega)
  have hlq := hlen q (by omega)
  generalize ExP.dig 10 q x = dx at *
  have hcn : (UInt8.ofNat (48 + dx)).toNat = 48 + dx := by simp; omega
  have hrow := fun (v : Int) (hv : v = (48 : Int) + (dx : Nat)) => bvals_snoc (ExP.decE (x / 10 ^ (q + 1))) (UInt8.ofNat (48 + dx)) (v := v) (by rw [hv, hcn]; simp)
  rw [← hstep] at hrow
  cases i with
  | zero =>
    have he0 : ExP.decE (x / 10 ^ (q + 1)) = [] := List.length_eq_zero_iff.1 (by rw [hlen _ (by omega)]; omega)
    rw [he0] at hrow
    dsimp only [apJ8]
    repeat' (first | refine yX ?_ | (apply And.intro <;> intro _) | apply bothI | refine retB fun β => ?_ | intro βe | (refine opx_build1 (sz := 1) rfl rfl rfl (xs := [.int .u8 ((48 : Int) + (dx : Nat))]) (fun β => rfl) rfl (by omega) (by omega) hu hsz hzv (fun g1 => ?_)) | (refine opx_append0 (sz := 1) 0 rfl hu hi hz0 hz1 rfl (by omega) rfl rfl rfl (by unfold maxLen; omega) (by rw [hz2]; omega) (by simp [Value.oneCell']) (by omega) (fun g2 cap2 => ?_)) | refine yN (j := q) Tryz.underlying70 Tryz.sizeOf3 ?_ | refine yO (v := .int .i64 (dx : Nat)) (x_load1 (fun w => Tryz.isAgg3 w) (fun w' hb β => by rw [Nat.mul_one]; exact r1 w' hb)) ?_ | exact trivial)
    refine hI _ ⟨⟨0 + 1, q, g2, cap2⟩, by dsimp only; omega, by dsimp only; omega⟩ (by dsimp only; omega) (by dsimp only [apJ8]; rw [← hrow _ rfl]; ((with_reducible show wk _ _); repeat' (first | exact trivial | exact eqSV_refl _ | refine eqI ?_ | refine eqS ?_ | apply And.intro | exact yV | fail)); all_goals (exact fun b x h => h))
  | succ i =>
    dsimp only [apJ8]
    repeat' (first | refine yX ?_ | (apply And.intro <;> intro _) | apply bothI | refine retB fun β => ?_ | intro βe | (refine opx_build1 (sz := 1) rfl rfl rfl (xs := [.int .u8 ((48 : Int) + (dx : Nat))]) (fun β => rfl) rfl (by omega) (by omega) hu hsz hzv (fun g1 => ?_)) | (refine opx_append (sz := 1) 1 2 rfl hu hi hz0 hz1 rfl (by omega) rfl rfl rfl rfl (by unfold maxLen; omega) (by rw [hz2]; omega) (by simp [Value.oneCell']) (by kernel_rfl) (Nat.zero_le _) (fun g2 cap2 => ?_)) | refine yN (j := q) Tryz.underlying70 Tryz.sizeOf3 ?_ | refine yO (v := .int .i64 (dx : Nat)) (x_load1 (fun w => Tryz.isAgg3 w) (fun w' hb β => by rw [Nat.mul_one]; exact r1 w' hb)) ?_ | exact trivial)
    refine hI _ ⟨⟨i + 1 + 1, q, g2, cap2⟩, by dsimp only; omega, by dsimp only; omega⟩ (by dsimp only; omega) (by dsimp only [apJ8]; rw [← hrow _ rfl]; ((with_reducible show wk _ _); repeat' (first | exact trivial | exact eqSV_refl _ | refine eqI ?_ | refine eqS ?_ | apply And.intro | exact yV | fail)); all_goals (exact fun b x h => h))
 ·obtain rfl : m = 0 := by omega
  rw [hbot]
  cases i with
  | zero => exfalso; omega
  | succ i =>
    dsimp only [apJ8]
    repeat' (first | refine yX ?_ | (apply And.intro <;> intro _) | apply bothI | refine retB fun β => ?_ | intro βe | refine yO (Sym.x_bytesO 1 (Lib.decDigits x) hu Tryz.underlying5 Tryz.underlying9 rfl rfl) ?_ | exact trivial)
    all_goals rfl
theorem rfrac_any (x : FrV) (w : World) (hw0 : 0 < w.heap.size) (hx : FrIn .i64 10 x w) (hd : 0 < x.d)
  (hxn : ExP.nd 10 x.n ≤ 1000000) (hxd : ExP.nd 10 x.d ≤ 1000000) :
  Calls Tryz.prog 103 #[x.val 10] w (WrOut (ExP.writeF x.num) (ExP.writeE x.num) w) := by
 obtain ⟨m, n, d, a, c, b, e⟩ := x
 obtain ⟨hx1, hx2, ⟨hx3, hx4, hx5, hx6⟩⟩ := hx
 dsimp only [FrV.num, FrV.val] at *
 have hF : ExP.writeF ⟨m, n, d⟩ = if n = 0 then ([48], [49]) else if (300 < (Lib.decDigits (n / Nat.gcd n d)).length ∨ 300 < (Lib.decDigits (d / Nat.gcd n d)).length) then ([], []) else (ExP.signP m (Lib.decDigits (n / Nat.gcd n d)), Lib.decDigits (d / Nat.gcd n d)) := rfl
 have hE : ExP.writeE ⟨m, n, d⟩ = if n = 0 then 0 else if (300 < (Lib.decDigits (n / Nat.gcd n d)).length ∨ 300 < (Lib.decDigits (d / Nat.gcd n d)).length) then 19 else 0 := rfl
 have hrp := fun h => ExP.red_pos (x := ⟨m, n, d⟩) h hd
 simp only [ExP.redN, ExP.redD] at hrp
 generalize ExP.writeF ⟨m, n, d⟩ = F at *
 generalize ExP.writeE ⟨m, n, d⟩ = E at *
 by_cases hn : n = 0
 ·rw [if_pos hn] at hF hE
  have h0 := ExP.nd_zero 10
  subst hF hE hn
  refine yE Tryz.func103 rfl Tryz.results103 Tryz.ntmps103 [] [] [.agg [.bool m, .any (.slice a (ExP.nd 10 0) c), .any (.slice b (ExP.nd 10 d) e)]] w ?_
  repeat' (first | refine yX ?_ | (apply And.intro <;> intro _) | apply bothI | refine retB fun β => ?_ | intro βe | refine yO (x_len Tryz.underlying70) ?_ | exact trivial)
  all_goals first | rfl | (exfalso; omega)
 ·rw [if_neg hn] at hF hE
  have hnp := Nat.pos_of_ne_zero hn
  have hnn := (ExP.nd_pos (b := 10) (by omega)).2 hnp
  obtain ⟨hr1, hr2⟩ := hrp hnp
  have hg := Nat.gcd_pos_of_pos_left d hnp
  have hgn := ExP.nd_mono (b := 10) (by omega) (Nat.gcd_le_right n hd)
  have hG := fun (w' : World) (h : BW w w') => rgcd_any (Lz n a (Lz d b [])) a b c e n d w' (Nat.lt_of_lt_of_le hw0 h.size) (by omega) (by omega) hx3 hx5 hx4 hx6 Lz_in (fun h => Lz_mem (Lz_in h)) (hx1.below h) (hx2.below h)
  generalize Nat.gcd n d = g at *
  have hq1 := ExP.nd_mono (b := 10) (by omega) (Nat.div_le_self n g)
  have hq2 := ExP.nd_mono (b := 10) (by omega) (Nat.div_le_self d g)
  have hD1 := fun (a3 : Option Addr) c3 (w' : World) (h : BW w w') h2 => rdivide_any a a3 c c3 n g w' (Nat.lt_of_lt_of_le hw0 h.size) (by omega) (by omega) hg (hx1.below h) h2
  have hD2 := fun (a3 : Option Addr) c3 (w' : World) (h : BW w w') h2 => rdivide_any b a3 e c3 d g w' (Nat.lt_of_lt_of_le hw0 h.size) (by omega) (by omega) hg (hx2.below h) h2
  rw [ExP.nd_dec hr1, ExP.nd_dec hr2] at hF hE
  clear hrp
  generalize n / g = q1 at *
  generalize d / g = q2 at *
  generalize n % g = r1 at *
  generalize d % g = r2 at *
  have hT1 := fun a cap w' => rtext_any a cap q1 w' (by omega)
  have hT2 := fun a cap w' => rtext_any a cap q2 w' (by omega)
  have hl1 := ExP.nd_dec hr1
  generalize Lib.decDigits q1 = s1 at *
  generalize Lib.decDigits q2 = s2 at *
  refine yE Tryz.func103 rfl Tryz.results103 Tryz.ntmps103 [] [200008] [.agg [.bool m, .any (.slice a (ExP.nd 10 n) c), .any (.slice b (ExP.nd 10 d) e)]] w ?_
  repeat' (first | refine yX ?_ | (apply And.intro <;> intro _) | apply bothI | refine retB fun β => ?_ | intro βe | (refine callNatL (Lz n a (Lz d b [])) .i64 10 g hw0 (by kernel_rfl) rfl (apart_old (Nat.le_of_ble_eq_true rfl) hx1 rfl (apart_old (Nat.le_of_ble_eq_true rfl) hx2 rfl apart_nil)) (fun β w' hm => hG w' hm.below) (fun a3 c3 h1 h2 h3 => ?_)) | (refine callNat2 .i64 10 q1 r1 hw0 (by kernel_rfl) rfl (fun β w' hm => hD1 a3 c3 w' hm.below (hm.slB 2 rfl)) (fun qa qc ra rc k1 k2 k3 k4 k5 k6 => ?_)) | (refine callNat2 .i64 10 q2 r2 hw0 (by kernel_rfl) rfl (fun β w' hm => hD2 a3 c3 w' hm.below (hm.slB 2 rfl)) (fun qb qd rb rd k7 k8 k9 k10 k11 k12 => ?_)) | refine yK (.str s1) (fun β w hm => hT1 qa qc w (hm.slF 3 rfl)) ?_ | refine yK (.str s2) (fun β w hm => hT2 qb qd w (hm.slF 5 rfl)) ?_ | refine yO (x_len Tryz.underlying70) ?_ | exact trivial)
  all_goals first | (exfalso; omega) | skip
  all_goals first
   | (rw [if_pos (by omega)] at hF hE; subst hF hE; rfl)
   | (rw [if_neg (by omega)] at hF hE; subst hF hE; simp_all [SV.den, SV.dens, ExP.signP]; done)
end Go.Proofs.YtdkhkfdenlabaaaGreatDoor
namespace Go.Proofs.YtdkhkfdenlabaaaGreatDoor
open Go.RowKit
theorem eqF_cons {P : Program} {w : World} {d : Nat} {xs ys : Array Value} {f : Field} {fs : List Field} {r r2 : Bool} (a b : Value) (hn : f.name ≠ "_") (ha : (part f.type xs f.offset).run P w = .ok a w) (hb : (part f.type ys f.offset).run P w = .ok b w)
  (he : (Op.equalIn d f.type a b).run P w = .ok r w) (hr : (Op.eqFields d xs ys fs).run P w = .ok r2 w) : (Op.eqFields d xs ys (f :: fs)).run P w = .ok (r && r2) w := by
 unfold Op.eqFields
 rw [if_pos hn]
 simp only [Sem.run_bind, ha, hb, he, Result.andThen_ok]
 cases r
 ·simp
 ·simp [hr]
theorem eqF_nil {P : Program} {w : World} {d : Nat} {xs ys : Array Value} : (Op.eqFields d xs ys []).run P w = .ok true w := rfl
def ceq : Value → Value → Bool
 | .int _ a, .int _ b => a == b
 | .bool a, .bool b => a == b
 | .string a, .string b => a.toList == b.toList
 | _, _ => false
def ceqs : List Value → List Value → Bool
 | a :: ra, b :: rb => ceq a b && ceqs ra rb
 | _, _ => true
inductive CK where
 | int (k : IntKind)
 | bool
 | str
def ckOf : Value → Option CK
 | .int k _ => some (.int k)
 | .bool _ => some .bool
 | .string _ => some .str
 | _ => none
def CK.fits (P : Program) (t : TypeId) : CK → Prop
 | .int k => P.underlying t = some (.int k)
 | .bool => P.underlying t = some .bool
 | .str => P.underlying t = some .string
def Flat (P : Program) : List Field → List CK → Nat → Prop
 | [], [], _ => True
 | f :: fs, k :: ks, i => f.name ≠ "_" ∧ f.offset = i ∧ P.plainKey f.type = true ∧ k.fits P f.type ∧ Flat P fs ks (i + 1)
 | _, _, _ => False
def CK.ok (P : Program) (t : TypeId) (k : CK) : Bool := match k, P.underlying t with
 | .int k, some (.int k') => decide (k = k')
 | .bool, some .bool => true
 | .str, some .string => true
 | _, _ => false
theorem CK.ok_fits {P : Program} {t : TypeId} {k : CK} (h : k.ok P t = true) : k.fits P t := by
 unfold CK.ok at h
 split at h
 ·rename_i e; have := of_decide_eq_true h; subst this; exact e
 ·rename_i e; exact e
 ·rename_i e; exact e
 ·cases h
def flatB (P : Program) : List Field → List CK → Nat → Bool
 | [], [], _ => true
 | f :: fs, k :: ks, i => f.name != "_" && (f.offset == i && (P.plainKey f.type && (k.ok P f.type && flatB P fs ks (i + 1))))
 | _, _, _ => false
theorem flat_of {P : Program} : ∀ (fs : List Field) (ks : List CK) (i : Nat), flatB P fs ks i = true → Flat P fs ks i
 | [], [], _, _ => trivial
 | f :: fs, k :: ks, i, h => by
   simp only [flatB, Bool.and_eq_true, bne_iff_ne, beq_iff_eq] at h
   exact ⟨h.1, h.2.1, h.2.2.1, CK.ok_fits h.2.2.2.1, flat_of fs ks (i + 1) h.2.2.2.2⟩
 | [], _ :: _, _, h => by cases h
 | _ :: _, [], _, h => by cases h
theorem ceq_run {P : Program} {w : World} {d : Nat} {t : TypeId} {k : CK} {a b : Value} (h : k.fits P t) (ha : ckOf a = some k) (hb : ckOf b = some k) : (Op.equalIn (d + 1) t a b).run P w = .ok (ceq a b) w := by
 cases a <;> simp only [ckOf] at ha <;> cases b <;> simp only [ckOf] at hb <;> first | (cases ha; done) | (cases hb; done) | skip
 all_goals (injection ha with ha; injection hb with hb; subst ha)
 all_goals (try (cases hb; done))
 ·exact run_equalIn_bool' w d t _ _ h
 ·injection hb with hb; subst hb; exact run_equalIn_int w d t _ _ _ _ h
 ·exact run_equalIn_string w d t _ _ h
theorem flat_eq {P : Program} {w : World} {d : Nat} {xs ys : Array Value} : ∀ (fs : List Field) (ks : List CK) (i : Nat), Flat P fs ks i → (xs.toList.drop i).map ckOf = ks.map some → (ys.toList.drop i).map ckOf = ks.map some →
  (Op.eqFields (d + 1) xs ys fs).run P w = .ok (ceqs (xs.toList.drop i) (ys.toList.drop i)) w
 | [], [], i, _, hx, hy => by
   have h1 : xs.toList.drop i = [] := by simpa using hx
   rw [h1]; exact eqF_nil
 | f :: fs, k :: ks, i, hf, hx, hy => by
   obtain ⟨h1, h2, h3, h4, h5⟩ := hf
   cases ex : xs.toList.drop i with
   | nil => rw [ex] at hx; simp at hx
   | cons a ra =>
     cases ey : ys.toList.drop i with
     | nil => rw [ey] at hy; simp at hy
     | cons b rb =>
       rw [ex] at hx; rw [ey] at hy
       simp only [List.map_cons, List.cons.injEq] at hx hy
       have dx : xs.toList.drop (i + 1) = ra := by rw [← List.drop_drop, ex]; rfl
       have dy : ys.toList.drop (i + 1) = rb := by rw [← List.drop_drop, ey]; rfl
       have gx : xs[i]? = some a := by rw [← Array.getElem?_toList, ← List.head?_drop, ex]; rfl
       have gy : ys[i]? = some b := by rw [← Array.getElem?_toList, ← List.head?_drop, ey]; rfl
       have ih := flat_eq (w := w) (d := d) (xs := xs) (ys := ys) fs ks (i + 1) h5 (by rw [dx]; exact hx.2) (by rw [dy]; exact hy.2)
       rw [dx, dy] at ih
       exact eqF_cons a b h1 (by rw [h2]; exact run_part_plain w h3 gx) (by rw [h2]; exact run_part_plain w h3 gy) (ceq_run h4 hx.1 hy.1) ih
 | [], _ :: _, _, hf, _, _ => hf.elim
 | _ :: _, [], _, hf, _, _ => hf.elim
theorem agg_eq {P : Program} (w : World) (t : TypeId) (xs ys : Array Value) (ks : List CK) (ht : P.underlying t = some (.struct (P.fieldsOf t))) (hp : P.stoodInHeld t = false) (hf : Flat P (P.fieldsOf t).toList ks 0) (hx : xs.toList.map ckOf = ks.map some) (hy : ys.toList.map ckOf = ks.map some) :
  (Op.equalIn 10000 t (.agg xs) (.agg ys)).run P w = .ok (ceqs xs.toList ys.toList) w := by
 rw [run_equalIn_agg w 9999 t xs ys ht hp]
 exact flat_eq (d := 9998) _ ks 0 hf hx hy
end Go.Proofs.YtdkhkfdenlabaaaGreatDoor
namespace Go.Proofs.YtdkhkfdenlabaaaGreatDoor
open Go.RowKit
open Sym
attribute [local irreducible] Calls Sym.AggEq ExP.nd ExP.dig ExP.upd
theorem radd_any (x y : FrV) (w : World) (hw0 : 0 < w.heap.size) (hx : FrIn .i64 10 x w) (hy : FrIn .i64 10 y w)
  (hxn : ExP.nd 10 x.n ≤ 1000000) (hxd : ExP.nd 10 x.d ≤ 1000000) (hyn : ExP.nd 10 y.n ≤ 1000000) (hyd : ExP.nd 10 y.d ≤ 1000000) :
  Calls Tryz.prog 131 #[x.val 10, y.val 10] w (FrOut .i64 10 (ExP.sumN x.num y.num) w) := by
 obtain ⟨xm, xn, xd, xa, xc, xb, xe⟩ := x
 obtain ⟨ym, yn, yd, ya, yc, yb, ye⟩ := y
 obtain ⟨hx1, hx2, ⟨hx3, hx4, hx5, hx6⟩⟩ := hx
 obtain ⟨hy1, hy2, ⟨hy3, hy4, hy5, hy6⟩⟩ := hy
 dsimp only [FrV.num, FrV.val] at *
 have T1 := fun (w' : World) (h : BW w w') => rtimes_any xa yb xc ye xn yd w' (by omega) (by omega) (hx1.below h) (hy2.below h)
 have T2 := fun (w' : World) (h : BW w w') => rtimes_any ya xb yc xe yn xd w' (by omega) (by omega) (hy1.below h) (hx2.below h)
 have T3 := fun (w' : World) (h : BW w w') => rtimes_any xb yb xe ye xd yd w' (by omega) (by omega) (hx2.below h) (hy2.below h)
 have m1 := ExP.nd_mul (b := 10) (x := xn) (y := yd) (by omega)
 have m2 := ExP.nd_mul (b := 10) (x := yn) (y := xd) (by omega)
 have hge := ExP.cmpS_ge (x := xn * yd) (y := yn * xd)
 by_cases hm : xm = ym
 ·have hS : ExP.sumN ⟨xm, xn, xd⟩ ⟨ym, yn, yd⟩ = ⟨xm, xn * yd + yn * xd, xd * yd⟩ := by simp [ExP.sumN, hm]
  rw [hS]
  obtain rfl : xm = ym := hm
  refine yE Tryz.func131 rfl Tryz.results131 Tryz.ntmps131 [] [200001, 100003, 100005, 100007] [.agg [.bool xm, .any (.slice xa (ExP.nd 10 xn) xc), .any (.slice xb (ExP.nd 10 xd) xe)], .agg [.bool xm, .any (.slice ya (ExP.nd 10 yn) yc), .any (.slice yb (ExP.nd 10 yd) ye)]] w ?_
  repeat' (first | refine yX ?_ | (apply And.intro <;> intro _) | apply bothI | refine retB fun β => ?_ | intro βe | (refine callNat .i64 10 (xn * yd) hw0 (by kernel_rfl) rfl (fun β w' hm => T1 w' hm.below) (fun a1 c1 h1 h2 h3 => ?_)) | (refine callNat .i64 10 (yn * xd) hw0 (by kernel_rfl) rfl (fun β w' hm => T2 w' hm.below) (fun a2 c2 h4 h5 h6 => ?_)) | (refine callNat .i64 10 (xd * yd) hw0 (by kernel_rfl) rfl (fun β w' hm => T3 w' hm.below) (fun a3 c3 h7 h8 h9 => ?_)) | (refine callNat .i64 10 (xn * yd + yn * xd) hw0 (by kernel_rfl) rfl (fun β w' hm => rplus_any a1 a2 c1 c2 _ _ w' (by omega) (by omega) (ySl hm) (ySl hm)) (fun a4 c4 h10 h11 h12 => ?_)) | refine yO (x_eqBB xm xm true (fun _ => rfl) (fun _ => rfl) (by simp) Tryz.underlying4) ?_ | exact trivial)
  all_goals first | (exfalso; simp_all; done) | (exfalso; omega) | skip
  all_goals refine ret fun β w' hm => ?_
  all_goals exact ⟨⟨_, _, _, a4, c4, a3, c3⟩, rfl, rfl, ⟨h10, h7, h11, h8⟩, Ls2 (ySl hm) (yFr hm) (ySl hm) (yFr hm), hm.below⟩
 ·by_cases hle : yn * xd ≤ xn * yd
  ·have hS : ExP.sumN ⟨xm, xn, xd⟩ ⟨ym, yn, yd⟩ = ⟨xm, xn * yd - yn * xd, xd * yd⟩ := by simp [ExP.sumN, hm, hle]
   rw [hS]
   have hc := hge.2 hle
   refine yE Tryz.func131 rfl Tryz.results131 Tryz.ntmps131 [] [200001, 100003, 100005, 100007] [.agg [.bool xm, .any (.slice xa (ExP.nd 10 xn) xc), .any (.slice xb (ExP.nd 10 xd) xe)], .agg [.bool ym, .any (.slice ya (ExP.nd 10 yn) yc), .any (.slice yb (ExP.nd 10 yd) ye)]] w ?_
   repeat' (first | refine yX ?_ | (apply And.intro <;> intro _) | apply bothI | refine retB fun β => ?_ | intro βe | (refine callNat .i64 10 (xn * yd) hw0 (by kernel_rfl) rfl (fun β w' hm => T1 w' hm.below) (fun a1 c1 h1 h2 h3 => ?_)) | (refine callNat .i64 10 (yn * xd) hw0 (by kernel_rfl) rfl (fun β w' hm => T2 w' hm.below) (fun a2 c2 h4 h5 h6 => ?_)) | (refine callNat .i64 10 (xd * yd) hw0 (by kernel_rfl) rfl (fun β w' hm => T3 w' hm.below) (fun a3 c3 h7 h8 h9 => ?_)) | refine yK (.int .i64 (ExP.cmpS (xn * yd) (yn * xd))) (fun β w' hm => rcompare_any a1 a2 c1 c2 _ _ w' (by omega) (by omega) (ySl hm) (ySl hm)) ?_ | (refine callNat .i64 10 (xn * yd - yn * xd) hw0 (by kernel_rfl) rfl (fun β w' hm => rless_any a1 a2 c1 c2 _ _ w' (by omega) (by omega) hle (ySl hm) (ySl hm)) (fun a4 c4 h10 h11 h12 => ?_)) | refine yO (x_eqBB xm ym false (fun _ => rfl) (fun _ => rfl) (by simpa using hm) Tryz.underlying4) ?_ | exact trivial)
   all_goals first | (exfalso; simp_all; done) | (exfalso; omega) | skip
   all_goals refine ret fun β w' hm => ?_
   all_goals exact ⟨⟨_, _, _, a4, c4, a3, c3⟩, rfl, rfl, ⟨h10, h7, h11, h8⟩, Ls2 (ySl hm) (yFr hm) (ySl hm) (yFr hm), hm.below⟩
  ·have hS : ExP.sumN ⟨xm, xn, xd⟩ ⟨ym, yn, yd⟩ = ⟨ym, yn * xd - xn * yd, xd * yd⟩ := by simp [ExP.sumN, hm, hle]
   rw [hS]
   have hc := fun h => hle (hge.1 h)
   refine yE Tryz.func131 rfl Tryz.results131 Tryz.ntmps131 [] [200001, 100003, 100005, 100007] [.agg [.bool xm, .any (.slice xa (ExP.nd 10 xn) xc), .any (.slice xb (ExP.nd 10 xd) xe)], .agg [.bool ym, .any (.slice ya (ExP.nd 10 yn) yc), .any (.slice yb (ExP.nd 10 yd) ye)]] w ?_
   repeat' (first | refine yX ?_ | (apply And.intro <;> intro _) | apply bothI | refine retB fun β => ?_ | intro βe | (refine callNat .i64 10 (xn * yd) hw0 (by kernel_rfl) rfl (fun β w' hm => T1 w' hm.below) (fun a1 c1 h1 h2 h3 => ?_)) | (refine callNat .i64 10 (yn * xd) hw0 (by kernel_rfl) rfl (fun β w' hm => T2 w' hm.below) (fun a2 c2 h4 h5 h6 => ?_)) | (refine callNat .i64 10 (xd * yd) hw0 (by kernel_rfl) rfl (fun β w' hm => T3 w' hm.below) (fun a3 c3 h7 h8 h9 => ?_)) | refine yK (.int .i64 (ExP.cmpS (xn * yd) (yn * xd))) (fun β w' hm => rcompare_any a1 a2 c1 c2 _ _ w' (by omega) (by omega) (ySl hm) (ySl hm)) ?_ | (refine callNat .i64 10 (yn * xd - xn * yd) hw0 (by kernel_rfl) rfl (fun β w' hm => rless_any a2 a1 c2 c1 _ _ w' (by omega) (by omega) (by omega) (ySl hm) (ySl hm)) (fun a4 c4 h10 h11 h12 => ?_)) | refine yO (x_eqBB xm ym false (fun _ => rfl) (fun _ => rfl) (by simpa using hm) Tryz.underlying4) ?_ | exact trivial)
   all_goals first | (exfalso; simp_all; done) | (exfalso; omega) | skip
   all_goals refine ret fun β w' hm => ?_
   all_goals exact ⟨⟨_, _, _, a4, c4, a3, c3⟩, rfl, rfl, ⟨h10, h7, h11, h8⟩, Ls2 (ySl hm) (yFr hm) (ySl hm) (yFr hm), hm.below⟩
theorem rmul_any (x y : FrV) (w : World) (hw0 : 0 < w.heap.size) (hx : FrIn .i64 10 x w) (hy : FrIn .i64 10 y w)
  (hxn : ExP.nd 10 x.n ≤ 1000000) (hxd : ExP.nd 10 x.d ≤ 1000000) (hyn : ExP.nd 10 y.n ≤ 1000000) (hyd : ExP.nd 10 y.d ≤ 1000000) :
  Calls Tryz.prog 133 #[x.val 10, y.val 10] w (FrOut .i64 10 (ExP.mulN x.num y.num) w) := by
 obtain ⟨xm, xn, xd, xa, xc, xb, xe⟩ := x
 obtain ⟨ym, yn, yd, ya, yc, yb, ye⟩ := y
 obtain ⟨hx1, hx2, ⟨hx3, hx4, hx5, hx6⟩⟩ := hx
 obtain ⟨hy1, hy2, ⟨hy3, hy4, hy5, hy6⟩⟩ := hy
 dsimp only [FrV.num, FrV.val] at *
 refine yE Tryz.func133 rfl Tryz.results133 Tryz.ntmps133 [] [200001] [.agg [.bool xm, .any (.slice xa (ExP.nd 10 xn) xc), .any (.slice xb (ExP.nd 10 xd) xe)], .agg [.bool ym, .any (.slice ya (ExP.nd 10 yn) yc), .any (.slice yb (ExP.nd 10 yd) ye)]] w ?_
 repeat' (first | refine yX ?_ | (apply And.intro <;> intro _) | apply bothI | refine retB fun β => ?_ | intro βe | (refine callNat .i64 10 (xn * yn) hw0 (by kernel_rfl) rfl (fun β w' hm => rtimes_any xa ya xc yc xn yn w' (by omega) (by omega) (hx1.below hm.below) (hy1.below hm.below)) (fun a4 c4 h10 h11 h12 => ?_)) | (refine callNat .i64 10 (xd * yd) hw0 (by kernel_rfl) rfl (fun β w' hm => rtimes_any xb yb xe ye xd yd w' (by omega) (by omega) (hx2.below hm.below) (hy2.below hm.below)) (fun a3 c3 h7 h8 h9 => ?_)) | refine yO (x_neBB xm ym (fun _ => rfl) (fun _ => rfl) Tryz.underlying4) ?_ | exact trivial)
 all_goals refine ret fun β w' hm => ?_
 all_goals exact ⟨⟨_, _, _, a4, c4, a3, c3⟩, rfl, rfl, ⟨h10, h7, h11, h8⟩, Ls2 (ySl hm) (yFr hm) (ySl hm) (yFr hm), hm.below⟩
theorem rinv_any (m : Bool) (a b : Option Addr) (n c d e : Nat) (w : World) :
  QC 134 #[.agg #[.bool m, .slice a n c, .slice b d e]] w (.agg #[.bool m, .slice b d e, .slice a n c]) := by
 refine yE Tryz.func134 rfl Tryz.results134 Tryz.ntmps134 [] [] [.agg [.bool m, .any (.slice a n c), .any (.slice b d e)]] w ?_
 repeat' (first | refine yX ?_ | (apply And.intro <;> intro _) | apply bothI | refine retB fun β => ?_ | intro βe | exact trivial)
 all_goals rfl
theorem flatFrac : Flat Tryz.prog (Tryz.prog.fieldsOf 25).toList [.str, .str] 0 := flat_of _ _ _ (by kernel_rfl)
theorem frac_eq (a b c d : List UInt8) (w : World) : (Op.equalIn 10000 25 (.agg #[.string (bstr a), .string (bstr b)]) (.agg #[.string (bstr c), .string (bstr d)])).run Tryz.prog w = .ok (a == c && b == d) w := by
 rw [agg_eq w 25 _ _ _ (by kernel_rfl) (by kernel_rfl) flatFrac rfl rfl]
 simp [ceqs, ceq, bstr_list]
section
attribute [local semireducible] Sym.AggEq
theorem fracAgg (a b c d : List UInt8) : AggEq Tryz.prog 25 [.str a, .str b] [.str c, .str d] (a == c && b == d) := ⟨by kernel_rfl, fun _ w => frac_eq a b c d w⟩
theorem fracAggT (a b : List UInt8) : AggEq Tryz.prog 25 [.str a, .str b] [.str a, .str b] true := by
 have := fracAgg a b a b
 simpa using this
end
theorem Sym.x_remT {C : Ctx} {G : Blobs} {x y : Operand} {t u : TypeId} {k : IntKind} {a b r : Int} (hb : b ≠ 0) (hr : Int.tmod a b = r) : ExtN C G (.binOp .rem t x y u) [.int k a, .int k b] (.int k r) := by
 unfold ExtN
 intro ρ β w dst ty pos after g _ _ h
 have h' : ρ x = .int k a ∧ ρ y = .int k b := by simpa [opsX, SV.dens, SV.den] using h
 simp [execOp, eqGuard, binOp, Op.intDiv, h'.1, h'.2, hb, SV.den, hr]
theorem Sym.x_quoT {C : Ctx} {G : Blobs} {x y : Operand} {t u : TypeId} {k : IntKind} {a b q : Int} (hb : b ≠ 0) (hq : Int.tdiv a b = q) (hk : inK k q) : ExtN C G (.binOp .quo t x y u) [.int k a, .int k b] (.int k q) := by
 unfold ExtN
 intro ρ β w dst ty pos after g _ _ h
 have h' : ρ x = .int k a ∧ ρ y = .int k b := by simpa [opsX, SV.dens, SV.den] using h
 have hw : k.wrap q = q := inK_wrap hk
 simp [execOp, eqGuard, binOp, Op.intDiv, h'.1, h'.2, hb, SV.den, hq, hw]
theorem digit_byte (k : Nat) (h : k < 10) {v : Int} (hv : v = 48 + (k : Int)) : [Value.int .u8 v] = bvals [UInt8.ofNat (48 + k)] := by
 have : (UInt8.ofNat (48 + k)).toNat = 48 + k := by simp; omega
 subst hv
 simp [bvals, this]
 omega
theorem dec_le (x : Nat) (h : x < 100000000000000000000) : (Lib.decDigits x).length ≤ 20 := by
 rcases Nat.eq_zero_or_pos x with rfl | h0
 ·rw [Lib.decDigits_one (by omega)]; simp
 ·rw [ExP.nd_dec h0]; exact ExP.nd_le (by omega) (by simpa using h)
theorem tdiv_neg10 (m : Nat) : Int.tdiv (-(m : Int)) 10 = -((m / 10 : Nat) : Int) := by rw [Int.neg_tdiv]; simp [Int.tdiv_eq_ediv_of_nonneg]
theorem tmod_neg10 (m : Nat) : Int.tmod (-(m : Int)) 10 = -((m % 10 : Nat) : Int) := by rw [Int.neg_tmod]; simp [Int.tmod_eq_emod_of_nonneg]
theorem decimal_pos (n : Nat) : n < 9223372036854775808 → ∀ w, QC 141 #[.int .i64 (n : Int)] w (.string (bstr (Lib.decDigits n))) := by
 induction n using Nat.strongRecOn with
 | _ n ih =>
 intro hn w
 by_cases h : n < 10
 ·rw [Lib.decDigits_one h]
  refine yE Tryz.func141 rfl Tryz.results141 Tryz.ntmps141 [] [] [.int .i64 (n : Int)] w ?_
  repeat' (first | refine yX ?_ | (apply And.intro <;> intro _) | apply bothI | refine retB fun β => ?_ | intro βe | (refine opx_one rfl rfl Tryz.underlying113 (fun w => Tryz.sizeOf5 w) (fun w => Tryz.zeroValue5 w) rfl (fun g => ?_)) | refine yO (x_bytesStr 0 [UInt8.ofNat (48 + n)] Tryz.underlying113 Tryz.underlying5 Tryz.underlying9 rfl (digit_byte n h rfl)) ?_ | exact trivial)
  all_goals first | rfl | (exfalso; omega)
 ·have hD : Lib.decDigits n = Lib.decDigits (n / 10) ++ [UInt8.ofNat (48 + n % 10)] := by rw [Lib.decDigits, dif_neg h]
  have HI := ih (n / 10) (by omega) (by omega)
  have hL := dec_le (n / 10) (by omega)
  have hq : (n : Int) / 10 = ((n / 10 : Nat) : Int) := by omega
  have hr : (n : Int) % 10 = ((n % 10 : Nat) : Int) := by omega
  have hm := fun v => digit_byte (n % 10) (by omega) (v := v)
  rw [hD]
  clear ih hD
  generalize Lib.decDigits (n / 10) = L at *
  refine yE Tryz.func141 rfl Tryz.results141 Tryz.ntmps141 [] [] [.int .i64 (n : Int)] w ?_
  repeat' (first | refine yX ?_ | (apply And.intro <;> intro _) | apply bothI | refine retB fun β => ?_ | intro βe | refine yK (.str L) (fun β w hm => by simp only [SV.dens, SV.den]; rw [hq]; exact HI w) ?_ | (refine opx_one rfl rfl Tryz.underlying113 (fun w => Tryz.sizeOf5 w) (fun w => Tryz.zeroValue5 w) rfl (fun g => ?_)) | refine yO (x_bytesStr 0 [UInt8.ofNat (48 + n % 10)] Tryz.underlying113 Tryz.underlying5 Tryz.underlying9 rfl (hm _ (by rw [hr]))) ?_ | refine yO (x_quo (by omega) (by omega) (by unfold inK; omega)) ?_ | refine yO (x_rem (by omega) (by omega)) ?_ | exact trivial)
  all_goals rfl
theorem decimal_neg (n : Nat) : 0 < n → n ≤ 9223372036854775808 → ∀ w, QC 141 #[.int .i64 (-(n : Int))] w (.string (bstr (45 :: Lib.decDigits n))) := by
 induction n using Nat.strongRecOn with
 | _ n ih =>
 intro hn0 hn w
 by_cases h : n < 10
 ·rw [Lib.decDigits_one h]
  refine yE Tryz.func141 rfl Tryz.results141 Tryz.ntmps141 [] [] [.int .i64 (-(n : Int))] w ?_
  repeat' (first | refine yX ?_ | (apply And.intro <;> intro _) | apply bothI | refine retB fun β => ?_ | intro βe | (refine opx_one rfl rfl Tryz.underlying113 (fun w => Tryz.sizeOf5 w) (fun w => Tryz.zeroValue5 w) rfl (fun g => ?_)) | refine yO (x_bytesStr 0 [UInt8.ofNat (48 + n)] Tryz.underlying113 Tryz.underlying5 Tryz.underlying9 rfl (digit_byte n h (by omega))) ?_ | exact trivial)
  all_goals first | rfl | (exfalso; omega)
 ·have hD : Lib.decDigits n = Lib.decDigits (n / 10) ++ [UInt8.ofNat (48 + n % 10)] := by rw [Lib.decDigits, dif_neg h]
  have HI := ih (n / 10) (by omega) (by omega) (by omega)
  have hL := dec_le (n / 10) (by omega)
  have hq := tdiv_neg10 n
  have hr := tmod_neg10 n
  have hm := fun v => digit_byte (n % 10) (by omega) (v := v)
  rw [hD]
  clear ih hD
  generalize Lib.decDigits (n / 10) = L at *
  refine yE Tryz.func141 rfl Tryz.results141 Tryz.ntmps141 [] [] [.int .i64 (-(n : Int))] w ?_
  repeat' (first | refine yX ?_ | (apply And.intro <;> intro _) | apply bothI | refine retB fun β => ?_ | intro βe | refine yK (.str (45 :: L)) (fun β w hm => HI w) ?_ | (refine opx_one rfl rfl Tryz.underlying113 (fun w => Tryz.sizeOf5 w) (fun w => Tryz.zeroValue5 w) rfl (fun g => ?_)) | refine yO (x_bytesStr 0 [UInt8.ofNat (48 + n % 10)] Tryz.underlying113 Tryz.underlying5 Tryz.underlying9 rfl (hm _ (by omega))) ?_ | refine yO (x_quoT (by omega) hq (by unfold inK; omega)) ?_ | refine yO (x_remT (by omega) hr) ?_ | exact trivial)
  all_goals first | rfl | (exfalso; omega)
theorem ExP.nd_one {b : Nat} (hb : 2 ≤ b) : ExP.nd b 1 = 1 := by
 have h1 := ExP.nd_le (b := b) (x := 1) (n := 1) hb (by rw [Nat.pow_one]; omega)
 have h2 := (ExP.nd_pos (b := b) (x := 1) hb).2 (by omega)
 omega
theorem nv_one {k : IntKind} {b : Nat} (hb : 2 ≤ b) : nv k b 1 = [.int k 1] := by
 unfold nv ExP.dg
 rw [ExP.nd_one hb, ExP.dig_self (by omega)]
 rfl
def ExP.wholeN (p : Int) : ExP.Num := ⟨decide (p < 0), p.natAbs, 1⟩
theorem itoa_any (p : Int) (w : World) (h0 : -9223372036854775808 ≤ p) (h1 : p ≤ 9223372036854775807) (hw : XW w) : QC 139 #[.int .i64 p] w (.string (bstr (Lib.itoa p))) := by
 refine (Tryz.strconv_Itoa p h0 h1 w hw.tab).mono ?_
 rintro e w' ⟨rfl, k, os, rfl⟩
 exact ⟨rfl, xgrown w k os⟩
theorem unsigned_any (n : Nat) (h0 : 0 < n) (hn : n ≤ 9223372036854775808) (w : World) : QC 140 #[.int .i64 (-(n : Int))] w (.string (bstr (Lib.decDigits n))) := by
 have HD := fun w => decimal_neg n h0 hn w
 generalize Lib.decDigits n = L at *
 refine yE Tryz.func140 rfl Tryz.results140 Tryz.ntmps140 [] [] [.int .i64 (-(n : Int))] w ?_
 repeat' (first | refine yX ?_ | (apply And.intro <;> intro _) | apply bothI | refine retB fun β => ?_ | intro βe | refine yK (.str (45 :: L)) (fun β w hm => HD w) ?_ | ((with_reducible show ∃ _, _); first | (refine ⟨1, rfl, by simp, ?_⟩)) | exact trivial)
 all_goals rfl
theorem whole_any (p : Int) (w : World) (hw0 : 0 < w.heap.size) (h0 : -9223372036854775808 ≤ p) (h1 : p ≤ 9223372036854775807) : Calls Tryz.prog 78 #[.int .i64 p] w (FrOut .i64 10 (ExP.wholeN p) w) := by
 obtain ⟨i0, hi, hz0, hz1, hz2⟩ := info_parts intInfo
 have hu := Tryz.underlying70
 have hsz := fun w => Tryz.sizeOf3 w
 have hzv := fun w => Tryz.zeroValue3 w
 have hn1 : ExP.nd 10 1 = 1 := ExP.nd_one (by omega)
 have hv1 : nv .i64 10 1 = [.int .i64 1] := nv_one (by omega)
 have hN := fun x w => natOf_any (Lib.decDigits x) w
 simp only [ExP.val_dec] at hN
 by_cases hp : p < 0
 ·obtain ⟨m, rfl⟩ : ∃ m : Nat, p = -(m : Int) := ⟨p.natAbs, by omega⟩
  have hW : ExP.wholeN (-(m : Int)) = ⟨true, m, 1⟩ := by simp [ExP.wholeN]; omega
  rw [hW]
  have HU := fun w => unsigned_any m (by omega) (by omega) w
  have hN := fun w => hN m w (by have := dec_le m (by omega); omega) (ExP.dec_digits m)
  generalize Lib.decDigits m = L at *
  refine yE Tryz.func78 rfl Tryz.results78 Tryz.ntmps78 [] [] [.int .i64 (-(m : Int))] w ?_
  repeat' (first | refine yX ?_ | (apply And.intro <;> intro _) | apply bothI | refine retB fun β => ?_ | intro βe | refine yK (.str L) (fun β w hm => HU w) ?_ | (refine callNat .i64 10 m hw0 (by kernel_rfl) rfl (fun β w' hm => hN w') (fun a1 c1 q1 q2 q3 => ?_)) | (refine opx_build1 (sz := 1) rfl rfl rfl (xs := [.int .i64 1]) (fun β => rfl) rfl (by omega) (by omega) hu hsz hzv (fun g1 => ?_)) | exact trivial)
  all_goals first | (exfalso; omega) | skip
  all_goals refine ret fun β w' hm => ?_
  all_goals refine ⟨⟨true, m, 1, a1, c1, some ⟨g1, 0, none⟩, 1⟩, by simp only [FrV.val, hn1]; rfl, rfl, ⟨q1, (by intro h; cases h), q2, by dsimp only; omega⟩, Ls2 (ySl hm) (yFr hm) (by dsimp only; rw [hv1]; first | exact (hm.own 1 rfl).1 | exact (hm.own 2 rfl).1) (by dsimp only; rw [hv1]; first | exact fresh_own (hm.own 1 rfl).2.1 rfl | exact fresh_own (hm.own 2 rfl).2.1 rfl), hm.below⟩
 ·obtain ⟨m, rfl⟩ : ∃ m : Nat, p = (m : Int) := ⟨p.natAbs, by omega⟩
  have hW : ExP.wholeN (m : Int) = ⟨false, m, 1⟩ := by simp [ExP.wholeN]
  rw [hW]
  have HU := fun w => decimal_pos m (by omega) w
  have hN := fun w => hN m w (by have := dec_le m (by omega); omega) (ExP.dec_digits m)
  generalize Lib.decDigits m = L at *
  refine yE Tryz.func78 rfl Tryz.results78 Tryz.ntmps78 [] [] [.int .i64 (m : Int)] w ?_
  repeat' (first | refine yX ?_ | (apply And.intro <;> intro _) | apply bothI | refine retB fun β => ?_ | intro βe | refine yK (.str L) (fun β w hm => HU w) ?_ | (refine callNat .i64 10 m hw0 (by kernel_rfl) rfl (fun β w' hm => hN w') (fun a1 c1 q1 q2 q3 => ?_)) | (refine opx_build1 (sz := 1) rfl rfl rfl (xs := [.int .i64 1]) (fun β => rfl) rfl (by omega) (by omega) hu hsz hzv (fun g1 => ?_)) | exact trivial)
  all_goals first | (exfalso; omega) | skip
  all_goals refine ret fun β w' hm => ?_
  all_goals refine ⟨⟨false, m, 1, a1, c1, some ⟨g1, 0, none⟩, 1⟩, by simp only [FrV.val, hn1]; rfl, rfl, ⟨q1, (by intro h; cases h), q2, by dsimp only; omega⟩, Ls2 (ySl hm) (yFr hm) (by dsimp only; rw [hv1]; first | exact (hm.own 1 rfl).1 | exact (hm.own 2 rfl).1) (by dsimp only; rw [hv1]; first | exact fresh_own (hm.own 1 rfl).2.1 rfl | exact fresh_own (hm.own 2 rfl).2.1 rfl), hm.below⟩
theorem of_any (p : Int) (w : World) (hw : XW w) (h0 : -9223372036854775808 ≤ p) (h1 : p ≤ 9223372036854775807) : QC 77 #[.int .i64 p] w (frV (Lib.itoa p, [49])) := by
 have HI := fun (w' : World) (h : BW w w') => itoa_any p w' h0 h1 (hw.below h)
 generalize Lib.itoa p = L at *
 refine yE Tryz.func77 rfl Tryz.results77 Tryz.ntmps77 [] [] [.int .i64 p] w ?_
 repeat' (first | refine yX ?_ | (apply And.intro <;> intro _) | apply bothI | refine retB fun β => ?_ | intro βe | refine yK (.str L) (fun β w hm => HI w hm.below) ?_ | exact trivial)
 all_goals rfl
end Go.Proofs.YtdkhkfdenlabaaaGreatDoor
