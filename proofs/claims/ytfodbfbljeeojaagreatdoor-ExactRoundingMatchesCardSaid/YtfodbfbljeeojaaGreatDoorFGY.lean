/- The law of rounding for every fraction and number of places. The frame of a law's proof: what was read below the heap's old size is read so again. Arguments that are fractions: opened to their fields. -/
import Derived.Test.YtfodbfbljeeojaaGreatDoorFExU14
import Derived.ProofKit
import Derived.OpenShut
import Derived.ShutString
import Derived.Below
import Derived.Carry
import Derived.Test.YtfodbfbljeeojaaGreatDoorFGO
import Derived.Deep.Slices
import Derived.Deep.Fields
import Derived.ChangeSame
set_option linter.unusedSimpArgs false
set_option linter.unusedVariables false
namespace Go.Proofs.YtfodbfbljeeojaaGreatDoor
open Go.RowKit
open Sym
attribute [local irreducible] Calls Sym.AggEq ExP.nd ExP.dig ExP.upd ExP.writeF ExP.writeE
theorem onx {f1 f2 : List UInt8} {w : World} {V : ExP.Num} {P : FrV → World → Prop} (H : ∀ a c b e w', Below w.heap.size w w' → FrIn .i64 10 ⟨V.m, V.n, V.d, a, c, b, e⟩ w' → P ⟨V.m, V.n, V.d, a, c, b, e⟩ w') : OnX f1 f2 w V P := by
  rintro ⟨m, n, d, a, c, b, e⟩ w' h hx rfl
  exact H a c b e w' h hx
theorem ExP.floor_nd {b : Nat} (hb : 10 ≤ b) {x : ExP.Num} {A : Nat} (h1 : ExP.nd b x.n ≤ A) : ExP.nd b (ExP.floorN x).n ≤ A + 2 := by
  have h2 : ExP.nd b (x.n / x.d) ≤ A + 1 := Nat.le_trans (ExP.nd_mono (by omega) (Nat.div_le_self _ _)) (by omega)
  have h3 : ExP.nd b (if x.m = true ∧ x.n % x.d ≠ 0 then 1 else 0) ≤ A + 1 := by
    split
    · rw [ExP.nd_one (by omega)]; omega
    · rw [ExP.nd_zero]; omega
  exact ExP.nd_add (b := b) (m := A + 1) (by omega) h2 h3
/-- what the law asks of both sides -/
structure RndI (f1 f2 : List UInt8) (n : Int) (w : World) (F1 F2 R1 R2 S T : List UInt8) (E1 E2 K PL : Int) (is ok m fm gm : Bool) (u v fu fv gu gv : Nat) : Prop where
  a1 : ∀ w', Below w.heap.size w w' → Calls Tryz.prog 38 #[frV (f1, f2)] w' (WrOut (F1, F2) E1 w')
  a7 : ∀ w', Below w.heap.size w w' → Calls Tryz.prog 18 #[frV (f1, f2)] w' (FrOut .i64 10 ⟨m, u, v⟩ w')
  a10 : OnX f1 f2 w ⟨m, u, v⟩ fun x w' => Calls Tryz.prog 35 #[x.val 10] w' (FrOut .i64 10 ⟨fm, fu, fv⟩ w')
  a11 : OnX f1 f2 w ⟨fm, fu, fv⟩ fun x w' => Calls Tryz.prog 20 #[frV (F1, F2), .int .i64 E1, x.val 10] w' fun e w'' => e = .returned (.bool true) ∧ Below w'.heap.size w' w''
  far : n < -100 ∨ 100 < n → (∀ w', Below w.heap.size w w' → Calls Tryz.prog 39 #[frV (f1, f2), .int .i64 n] w' (WrOut ([], []) 2 w')) ∧ (∀ w', Below w.heap.size w w' → Calls Tryz.prog 40 #[frV (f1, f2), .int .i64 n] w' (TxOut [] 2 w'))
  a2 : -100 ≤ n ∧ n ≤ 100 → ∀ w', Below w.heap.size w w' → Calls Tryz.prog 39 #[frV (f1, f2), .int .i64 n] w' (WrOut (R1, R2) E2 w')
  a13 : -100 ≤ n ∧ n ≤ 100 → OnX f1 f2 w ⟨m, u, v⟩ fun x w' => Calls Tryz.prog 46 #[x.val 10, .int .i64 n] w' (FrOut .i64 10 ⟨gm, gu, gv⟩ w')
  a14 : -100 ≤ n ∧ n ≤ 100 → OnX f1 f2 w ⟨gm, gu, gv⟩ fun x w' => Calls Tryz.prog 20 #[frV (R1, R2), .int .i64 E2, x.val 10] w' fun e w'' => e = .returned (.bool true) ∧ Below w'.heap.size w' w''
  neg : -100 ≤ n ∧ n < 0 → ∀ w', Below w.heap.size w w' → Calls Tryz.prog 40 #[frV (f1, f2), .int .i64 n] w' (TxOut [] 2 w')
  a3 : 0 ≤ n ∧ n ≤ 100 → ∀ w', Below w.heap.size w w' → Calls Tryz.prog 40 #[frV (f1, f2), .int .i64 n] w' (TxOut (if E2 = 0 then S else []) E2 w')
  a15 : 0 ≤ n ∧ n ≤ 100 → OnX f1 f2 w ⟨m, u, v⟩ fun x w' => Calls Tryz.prog 45 #[x.val 10, .int .i64 n] w' fun e w'' => e = .returned (.string (bstr S)) ∧ Below w'.heap.size w' w''
  a4 : ∀ w', Below w.heap.size w w' → Calls Tryz.prog 41 #[frV (f1, f2)] w' (ShOut T is 0 w')
  no : is = false → PL = -1 ∧ T = []
  yes : is = true → 0 ≤ PL ∧ OnX f1 f2 w ⟨m, u, v⟩ fun x w' => Calls Tryz.prog 45 #[x.val 10, .int .i64 PL] w' fun e w'' => e = .returned (.string (bstr T)) ∧ Below w'.heap.size w' w''
  a5 : ∀ w', Below w.heap.size w w' → Calls Tryz.prog 42 #[frV (f1, f2)] w' (InOut K ok 0 w')
  a8 : OnX f1 f2 w ⟨m, u, v⟩ fun x w' => Calls Tryz.prog 43 #[x.val 10] w' fun e w'' => e = .returned (.tuple #[.int .i64 K, .bool ok]) ∧ Below w'.heap.size w' w''
  a9 : OnX f1 f2 w ⟨m, u, v⟩ fun x w' => Calls Tryz.prog 44 #[x.val 10] w' fun e w'' => e = .returned (.int .i64 PL) ∧ Below w'.heap.size w' w''
  hK : ok = false → K = 0
set_option maxRecDepth 100000 in
set_option maxHeartbeats 4000000 in
theorem rnd_all (f1 f2 : List UInt8) (n : Int) (w : World) (hw : XW w) (hwE : XE w) (hw0 : 0 < w.heap.size) (h1 : f1.length ≤ 9223372036854775807) (h2 : f2.length ≤ 9223372036854775807) (hE : ExP.readE (f1, f2) = 0) :
    ∃ F1 F2 R1 R2 S T E1 E2 K PL is ok m fm gm u v fu fv gu gv, RndI f1 f2 n w F1 F2 R1 R2 S T E1 E2 K PL is ok m fm gm u v fu fv gu gv := by
  obtain ⟨K, ok, IK⟩ := int_both (f1, f2) w hwE hw0 h1 h2 hE
  obtain ⟨T, is, PL, M, IS⟩ := short_both (f1, f2) w hw hw0 h1 h2 hE
  obtain ⟨q1, q2, q3⟩ := ExP.read_nd hE (b := 10) (by omega)
  have A1 := fun (w' : World) (h : Below w.heap.size w w') => floor_ok (f1, f2) w' (hw.below h) (Nat.lt_of_lt_of_le hw0 h.size) h1 h2 hE
  have A7 := fun (w' : World) (h : Below w.heap.size w w') => ratOf_any (f1, f2) w' (Nat.lt_of_lt_of_le hw0 h.size) hE
  have A2f := fun (hp : n < -100 ∨ 100 < n) (w' : World) (h : Below w.heap.size w w') => round_far (f1, f2) n w' (Nat.lt_of_lt_of_le hw0 h.size) h1 h2 hE hp
  have A2 := fun (hp : -100 ≤ n ∧ n ≤ 100) (w' : World) (h : Below w.heap.size w w') => round_ok (f1, f2) n w' (hw.below h) (Nat.lt_of_lt_of_le hw0 h.size) h1 h2 hE hp
  have A3f := fun (hp : n < 0 ∨ 100 < n) (w' : World) (h : Below w.heap.size w w') => fixed_far (f1, f2) n w' (Nat.lt_of_lt_of_le hw0 h.size) h1 h2 hE hp
  have A3 := fun (k : Nat) (hk : k ≤ 100) (w' : World) (h : Below w.heap.size w w') => fixed_ok (f1, f2) w' (hw.below h) (Nat.lt_of_lt_of_le hw0 h.size) h1 h2 k hE hk
  obtain ⟨IKz, IKo, IKr⟩ := IK
  obtain ⟨ISl, ISy, ISn, ISo, ISr⟩ := IS
  clear hE
  generalize ExP.readN (f1, f2) = V at *
  have hfn := ExP.floor_nd (b := 10) (by omega) q1
  have A10 : OnX f1 f2 w V fun x w' => Calls Tryz.prog 35 #[x.val 10] w' (FrOut .i64 10 (ExP.floorN V) w') := onx fun a c b e w' h hx => rfloor_any ⟨V.m, V.n, V.d, a, c, b, e⟩ w' (Nat.lt_of_lt_of_le hw0 h.size) hx q3 (by dsimp only; omega) (by dsimp only; omega)
  have A11 : OnX f1 f2 w (ExP.floorN V) fun x w' => Calls Tryz.prog 20 #[frV (ExP.writeF (ExP.floorN V)), .int .i64 (ExP.writeE (ExP.floorN V)), x.val 10] w' fun e w'' => e = .returned (.bool true) ∧ Below w'.heap.size w' w'' := onx fun a c b e w' h hx => lfrac_any (ExP.writeF (ExP.floorN V)) (ExP.writeE (ExP.floorN V)) ⟨(ExP.floorN V).m, (ExP.floorN V).n, (ExP.floorN V).d, a, c, b, e⟩ w' (Nat.lt_of_lt_of_le hw0 h.size) hx Nat.one_pos (by dsimp only; omega) (by show ExP.nd 10 1 ≤ _; rw [ExP.nd_one (by omega)]; omega) rfl rfl
  have A13 : -100 ≤ n ∧ n ≤ 100 → OnX f1 f2 w V fun x w' => Calls Tryz.prog 46 #[x.val 10, .int .i64 n] w' (FrOut .i64 10 (ExP.roundN V n) w') := fun hp => onx fun a c b e w' h hx => rround_any ⟨V.m, V.n, V.d, a, c, b, e⟩ n w' (Nat.lt_of_lt_of_le hw0 h.size) hx q3 (by dsimp only; omega) (by dsimp only; omega) (by omega)
  have A14 : -100 ≤ n ∧ n ≤ 100 → OnX f1 f2 w (ExP.roundN V n) fun x w' => Calls Tryz.prog 20 #[frV (ExP.writeF (ExP.roundN V n)), .int .i64 (ExP.writeE (ExP.roundN V n)), x.val 10] w' fun e w'' => e = .returned (.bool true) ∧ Below w'.heap.size w' w'' := fun hp => by
    have hpk : n.natAbs ≤ 100 := by omega
    obtain ⟨b1, b2, b3, b4⟩ := ExP.scale_nd (b := 10) (by omega) q1 q2 hpk q3
    have b5 := ExP.near_nd (b := 10) (by omega) b1 b2
    have b6 : ExP.nd 10 (ExP.nearN (ExP.scaleN V n)).d ≤ 300 + (100 + 1) + 2 := by show ExP.nd 10 1 ≤ _; rw [ExP.nd_one (by omega)]; omega
    have b7 : 0 < (ExP.nearN (ExP.scaleN V n)).d := Nat.one_pos
    have hnk : (-n).natAbs ≤ 100 := by omega
    obtain ⟨b8, b9, b10, b11⟩ := ExP.scale_nd (b := 10) (by omega) b5 b6 hnk b7
    have eR : ExP.roundN V n = ExP.scaleN (ExP.nearN (ExP.scaleN V n)) (-n) := rfl
    rw [← eR] at b8 b9 b10
    exact onx fun a c b e w' h hx => lfrac_any (ExP.writeF (ExP.roundN V n)) (ExP.writeE (ExP.roundN V n)) ⟨(ExP.roundN V n).m, (ExP.roundN V n).n, (ExP.roundN V n).d, a, c, b, e⟩ w' (Nat.lt_of_lt_of_le hw0 h.size) hx b10 (by dsimp only; omega) (by dsimp only; omega) rfl rfl
  have AF : ∀ k : Nat, k ≤ 1200 → OnX f1 f2 w V fun x w' => Calls Tryz.prog 45 #[x.val 10, .int .i64 (k : Int)] w' fun e w'' => e = .returned (.string (bstr (ExP.fixT (ExP.nearN (ExP.scaleN V k)) k))) ∧ Below w'.heap.size w' w'' := fun k hk => onx fun a c b e w' h hx => rfixed_any ⟨V.m, V.n, V.d, a, c, b, e⟩ k w' (Nat.lt_of_lt_of_le hw0 h.size) hx q3 (by dsimp only; omega) (by dsimp only; omega) (by omega)
  refine ⟨(ExP.writeF (ExP.floorN V)).1, (ExP.writeF (ExP.floorN V)).2, (ExP.writeF (ExP.roundN V n)).1, (ExP.writeF (ExP.roundN V n)).2, ExP.fixT (ExP.nearN (ExP.scaleN V n)) n.toNat, T, ExP.writeE (ExP.floorN V), ExP.writeE (ExP.roundN V n), K, PL, is, ok, V.m, (ExP.floorN V).m, (ExP.roundN V n).m, V.n, V.d, (ExP.floorN V).n, (ExP.floorN V).d, (ExP.roundN V n).n, (ExP.roundN V n).d, A1, A7, A10, A11, fun hp => ⟨A2f hp, A3f (by omega)⟩, A2, A13, A14, fun hp => A3f (.inl hp.2), fun hp => ?_, fun hp => ?_, ISo, ISn, fun hi => ?_, IKo, IKr, ISr, IKz⟩
  · obtain ⟨k, rfl⟩ : ∃ k : Nat, n = (k : Int) := ⟨n.toNat, by omega⟩
    exact A3 k (by omega)
  · obtain ⟨k, rfl⟩ : ∃ k : Nat, n = (k : Int) := ⟨n.toNat, by omega⟩
    exact AF k (by omega)
  · obtain ⟨rfl, rfl⟩ := ISy hi
    exact ⟨by omega, AF M ISl⟩
set_option maxRecDepth 100000 in
set_option maxHeartbeats 4000000 in
theorem roundLaw_ok (f1 f2 : List UInt8) (n : Int) (w : World) (hw : XW w) (hwE : XE w) (hw0 : 0 < w.heap.size) (h1 : f1.length ≤ 9223372036854775807) (h2 : f2.length ≤ 9223372036854775807) (hE : ExP.readE (f1, f2) = 0) :
    Calls Tryz.prog 7 #[frV (f1, f2), .int .i64 n] w fun e w' => e = .returned (.bool true) ∧ Below w.heap.size w w' := by
  have A0 := fun (w' : World) (h : Below w.heap.size w w') => fractions_any w' (hw.below h) (Nat.lt_of_lt_of_le hw0 h.size)
  have A6 := fun (w' : World) (h : Below w.heap.size w w') => fracError_any (f1, f2) w' (Nat.lt_of_lt_of_le hw0 h.size) h1 h2
  rw [hE] at A6
  obtain ⟨F1, F2, R1, R2, S, T, E1, E2, K, PL, is, ok, m, fm, gm, u, v, fu, fv, gu, gv, I⟩ := rnd_all f1 f2 n w hw hwE hw0 h1 h2 hE
  have ways : (n < -100 ∨ 100 < n) ∨ (-100 ≤ n ∧ n < 0) ∨ ((0 ≤ n ∧ n ≤ 100) ∧ E2 ≠ 0) ∨ ((0 ≤ n ∧ n ≤ 100) ∧ E2 = 0) := by omega
  cases is with
  | true =>
    obtain ⟨hP, A12⟩ := I.yes rfl
    rcases ways with hn | hn | hn | hn
    · exact roundLaw_far_true (hw0 := hw0) (A0 := A0) (A1 := I.a1) (A5 := I.a5) (A6 := A6) (A7 := I.a7) (A8 := I.a8) (A9 := I.a9) (A10 := I.a10) (A11 := I.a11) (hK := I.hK) (hn := hn) (hpl := hP) (A2 := (I.far hn).1) (A3 := (I.far hn).2) (A4 := I.a4) (A12 := A12)
    · exact roundLaw_neg_true (hw0 := hw0) (A0 := A0) (A1 := I.a1) (A5 := I.a5) (A6 := A6) (A7 := I.a7) (A8 := I.a8) (A9 := I.a9) (A10 := I.a10) (A11 := I.a11) (hK := I.hK) (A13 := (I.a13 (by omega))) (A14 := (I.a14 (by omega))) (hn := hn) (hpl := hP) (A2 := I.a2 (by omega)) (A3 := I.neg hn) (A4 := I.a4) (A12 := A12)
    · have hA3 := I.a3 hn.1
      rw [if_neg hn.2] at hA3
      exact roundLaw_bad_true (hw0 := hw0) (A0 := A0) (A1 := I.a1) (A5 := I.a5) (A6 := A6) (A7 := I.a7) (A8 := I.a8) (A9 := I.a9) (A10 := I.a10) (A11 := I.a11) (hK := I.hK) (A13 := (I.a13 (by omega))) (A14 := (I.a14 (by omega))) (hn := hn) (hpl := hP) (A2 := I.a2 (by omega)) (A3 := hA3) (A4 := I.a4) (A12 := A12)
    · have hA3 := I.a3 hn.1
      rw [if_pos hn.2, hn.2] at hA3
      have hA2 := I.a2 (by omega)
      rw [hn.2] at hA2
      exact roundLaw_good_true (hw0 := hw0) (A0 := A0) (A1 := I.a1) (A5 := I.a5) (A6 := A6) (A7 := I.a7) (A8 := I.a8) (A9 := I.a9) (A10 := I.a10) (A11 := I.a11) (hK := I.hK) (A13 := (I.a13 (by omega))) (A14 := (I.a14 (by omega))) (A15 := (I.a15 hn.1)) (hn := hn) (hpl := hP) (A2 := hA2) (A3 := hA3) (A4 := I.a4) (A12 := A12)
  | false =>
    have hP := I.no rfl
    obtain ⟨rfl, rfl⟩ := hP
    rcases ways with hn | hn | hn | hn
    · exact roundLaw_far_false (hw0 := hw0) (A0 := A0) (A1 := I.a1) (A5 := I.a5) (A6 := A6) (A7 := I.a7) (A8 := I.a8) (A9 := I.a9) (A10 := I.a10) (A11 := I.a11) (hK := I.hK) (hn := hn) (hpl := ⟨rfl, rfl⟩) (A2 := (I.far hn).1) (A3 := (I.far hn).2) (A4 := I.a4)
    · exact roundLaw_neg_false (hw0 := hw0) (A0 := A0) (A1 := I.a1) (A5 := I.a5) (A6 := A6) (A7 := I.a7) (A8 := I.a8) (A9 := I.a9) (A10 := I.a10) (A11 := I.a11) (hK := I.hK) (A13 := (I.a13 (by omega))) (A14 := (I.a14 (by omega))) (hn := hn) (hpl := ⟨rfl, rfl⟩) (A2 := I.a2 (by omega)) (A3 := I.neg hn) (A4 := I.a4)
    · have hA3 := I.a3 hn.1
      rw [if_neg hn.2] at hA3
      exact roundLaw_bad_false (hw0 := hw0) (A0 := A0) (A1 := I.a1) (A5 := I.a5) (A6 := A6) (A7 := I.a7) (A8 := I.a8) (A9 := I.a9) (A10 := I.a10) (A11 := I.a11) (hK := I.hK) (A13 := (I.a13 (by omega))) (A14 := (I.a14 (by omega))) (hn := hn) (hpl := ⟨rfl, rfl⟩) (A2 := I.a2 (by omega)) (A3 := hA3) (A4 := I.a4)
    · have hA3 := I.a3 hn.1
      rw [if_pos hn.2, hn.2] at hA3
      have hA2 := I.a2 (by omega)
      rw [hn.2] at hA2
      exact roundLaw_good_false (hw0 := hw0) (A0 := A0) (A1 := I.a1) (A5 := I.a5) (A6 := A6) (A7 := I.a7) (A8 := I.a8) (A9 := I.a9) (A10 := I.a10) (A11 := I.a11) (hK := I.hK) (A13 := (I.a13 (by omega))) (A14 := (I.a14 (by omega))) (A15 := (I.a15 hn.1)) (hn := hn) (hpl := ⟨rfl, rfl⟩) (A2 := hA2) (A3 := hA3) (A4 := I.a4)
end Go.Proofs.YtfodbfbljeeojaaGreatDoor
namespace Go.Proofs.YtfodbfbljeeojaaGreatDoor
open Go.ChangeShapes Go.WideShapes Go.ChangeAt Go.RowKit
theorem below_trodAll {H : Type} {enc : TypeId × Value → H} {P : Program} (hl : laidOutB P = true) {W W' : World} (hb : Below W.heap.size W W') :
    ∀ {ts : List TypeId} {vs : List Value} {ds : List (DataW H)} {ps : List MemPlace}, (ts.all fun t => P.readableRec t && decide (t < P.types.size)) = true →
      DataW.TrodAll enc P W 0 (fun _ => true) true ts vs ds ps → DataW.TrodAll enc P W' 0 (fun b => decide (b < W.heap.size)) true ts vs ds ps
  | [], [], [], _, _, h => h
  | [], _ :: _, _, _, _, h => h.elim
  | [], [], _ :: _, _, _, h => h.elim
  | _ :: _, [], _, _, _, h => h.elim
  | _ :: _, _ :: _, [], _, _, h => h.elim
  | t :: ts, v :: vs, d :: ds, ps, hr, h => by
    have hlt := h.lt
    obtain ⟨p, q, h1, h2, e⟩ := h
    simp only [List.all_cons, Bool.and_eq_true, decide_eq_true_eq] at hr
    exact ⟨p, q, Below.trod hl hr.1.1 hr.1.2 h1 hb (fun x hx => hlt x (by rw [e]; exact List.mem_append_left _ hx)), below_trodAll hl hb (by simpa using hr.2) h2, e⟩
theorem wf_i64 {n : Int} (h : (Lit.int .i64 n).wf = true) : -9223372036854775808 ≤ n ∧ n ≤ 9223372036854775807 := by
  simp [Lit.wf, IntKind.min, IntKind.max, IntKind.signed, IntKind.bits] at h
  omega
end Go.Proofs.YtfodbfbljeeojaaGreatDoor
namespace Go.Proofs.YtfodbfbljeeojaaGreatDoor
open Go.ChangeShapes Go.WideShapes Go.ChangeAt Go.RowKit Go.Deep
section
variable {H : Type} {enc : TypeId × Value → H} {P : Program} {w : World} {base : Nat} {spare : Nat → Bool} {held : Bool}
theorem open_struct {r : Reach} {b0 : Nat} {t : TypeId} {fs : Array Field} {v : Value} {d : DataW H} {p : List MemPlace} (hs : P.underlying t = some (.struct fs)) (hone : oneCellFields P fs = true) (hC : P.cellsOf t = fs.size)
    (hv : Value.okWide P w r b0 t v) (h : DataW.Trod enc P w base spare held t v d p) :
    ∃ (cs : List Value) (n : Nat), v = .agg cs.toArray ∧ cs.length = fs.size ∧ ∀ (j : Nat) (f : Field), fs[j]? = some f → ∃ u y, cs[j]? = some u ∧ DataW.trod enc P w base spare held n f.type [u] = some y := by
  obtain ⟨cs, rfl, hsz⟩ := okWide_struct hs hv
  obtain ⟨l⟩ := cs
  obtain ⟨fuel, hf⟩ := h
  obtain ⟨xs, n, _, hx, _, hlen, hg⟩ := DataW.trod_struct hs hf
  have hl : l.length = fs.size := by simpa using hsz.trans hC
  refine ⟨l, n, rfl, hl, fun j f hj => ?_⟩
  obtain ⟨o, k⟩ := hone_of hone j f hj
  have hjl : j < fs.size := (Array.getElem?_eq_some_iff.1 hj).1
  have h1 := hg j f hj
  rw [o, k] at h1
  have h2 : ((Value.agg ⟨l⟩).cells.toList.drop j).take 1 = [l[j]'(by omega)] := by
    show (l.drop j).take 1 = _
    rw [List.drop_eq_getElem_cons (by omega)]; rfl
  rw [h2] at h1
  exact ⟨l[j]'(by omega), xs[j]'(by omega), List.getElem?_eq_getElem (by omega), h1.trans (List.getElem?_eq_getElem (by omega))⟩
theorem field_str {n : Nat} {t : TypeId} {u : Value} {y} (ht : P.underlying t = some .string) (h : DataW.trod enc P w base spare held n t [u] = some y) : ∃ l : List UInt8, u = .string (bstr l) ∧ l.length ≤ 9223372036854775807 := by
  obtain ⟨s, e, -, hs⟩ := DataW.trod_string ht h
  obtain ⟨l, rfl⟩ := bstr_of s
  exact ⟨l, by simpa using e, by rw [bstr_size] at hs; exact hs⟩
end
section
variable {H : Type} {enc : TypeId × Value → H} {w : World} {base : Nat} {spare : Nat → Bool} {held : Bool}
set_option maxRecDepth 100000 in
theorem open_frac {r : Reach} {b0 : Nat} {v : Value} {d : DataW H} {p : List MemPlace} (hv : Value.okWide Tryz.prog w r b0 23 v) (h : DataW.Trod enc Tryz.prog w base spare held 23 v d p) : ∃ f : ExP.Fr, v = frV f ∧ f.1.length ≤ 9223372036854775807 ∧ f.2.length ≤ 9223372036854775807 := by
  obtain ⟨cs, n, rfl, hl, hf⟩ := open_struct Tryz.underlying23 (by kernel_rfl) (by kernel_rfl) hv h
  match cs, hl with
  | [c0, c1], _ =>
    obtain ⟨_, _, e0, h0⟩ := hf 0 _ rfl
    obtain ⟨_, _, e1, h1⟩ := hf 1 _ rfl
    cases e0; cases e1
    obtain ⟨s, rfl, hs⟩ := field_str (by kernel_rfl) h0
    obtain ⟨t, rfl, ht⟩ := field_str (by kernel_rfl) h1
    exact ⟨(s, t), rfl, hs, ht⟩
end
end Go.Proofs.YtfodbfbljeeojaaGreatDoor
