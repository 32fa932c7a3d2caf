/- Powers of the program's fractions. -/
import Derived.Test.YtfodbfbljeeojaaGreatDoorEExG4
import Derived.Test.YtfodbfbljeeojaaGreatDoorEGQ
set_option linter.unusedSimpArgs false
set_option linter.unusedVariables false
namespace Go.Proofs.YtfodbfbljeeojaaGreatDoor
open Go.RowKit
open Sym
attribute [local irreducible] Calls Sym.AggEq ExP.nd ExP.dig ExP.upd
theorem Sym.callPw2 {C : Ctx} {d : Nat} {f : FuncId} {args : List SV} {fr : List (Nat × SV)} {rows : List (Nat × Bool × SRow)} {nx n : Nat} {K : St → Prop} (L : List (Option Addr)) (z : Nat) (h0 : 0 < C.base)
    (he : entersB C.P f = true) (hd : Nat.blt d n = true) (hL : ApartL C L rows nx) (hc : ∀ β w, Mem C.base C.w0 rows nx β w → Calls C.P f (SV.dens β args).toArray w (PwOut L z w))
    (h1 : ∀ a cap, (a = none → cap = 0) → ExP.nd 1000000000 z ≤ cap → K ⟨(d, .tup [.any (.slice a (ExP.nd 1000000000 z) cap), .bool true]) :: fr, (nx, false, .blob (SlB a (nv .u32 1000000000 z))) :: rows, nx + 1, n⟩)
    (h2 : ∀ a cap, ExP.lim ≤ z → K ⟨(d, .tup [.any (.slice a (ExP.nd 1000000000 0) cap), .bool false]) :: fr, (nx, false, .blob (SlB a (nv .u32 1000000000 0))) :: rows, nx + 1, n⟩) : CallX C (some d) f args ⟨fr, rows, nx, n⟩ K :=
  callPw L z h0 he hd hL hc (fun ok y a cap o1 o2 o3 o4 => by
    cases ok with
    | true => obtain rfl := o1 rfl; exact h1 a cap o3 o4
    | false => obtain ⟨rfl, hz⟩ := o2 rfl; exact h2 a cap hz)
def sgI (neg : Bool) (m : Nat) : Int := if neg = true then -(m : Int) else (m : Int)
def sgR (neg : Bool) (m : Nat) : Int := if neg = true then -((m % 2 : Nat) : Int) else ((m % 2 : Nat) : Int)
theorem sg_quo (neg : Bool) (m : Nat) : Int.tdiv (sgI neg m) 2 = sgI neg (m / 2) := by
  unfold sgI; split
  · rw [Int.neg_tdiv]; simp [Int.tdiv_eq_ediv_of_nonneg]
  · simp [Int.tdiv_eq_ediv_of_nonneg]
theorem sg_rem (neg : Bool) (m : Nat) : Int.tmod (sgI neg m) 2 = sgR neg m := by
  unfold sgI sgR; split
  · rw [Int.neg_tmod]; simp [Int.tmod_eq_emod_of_nonneg]
  · simp [Int.tmod_eq_emod_of_nonneg]
theorem sgpow_any (neg : Bool) (L : List (Option Addr)) (a : Option Addr) (ca x k : Nat) (w : World) (hw0 : 0 < w.heap.size) (hx : ExP.nd 1000000000 x ≤ 1000) (hk : k ≤ 1000) (ha : a = none → ca = 0) (hca : ExP.nd 1000000000 x ≤ ca) (hLa : 0 < x → a ∈ L) (hs : SlAt a (nv .u32 1000000000 x) w) :
    Calls Tryz.prog 72 #[.slice a (ExP.nd 1000000000 x) ca, .int .i64 (sgI neg k)] w (PwOut L (x ^ k) w) :=
  power_any (sgI neg) (sgR neg) (sg_quo neg) (sg_rem neg) (fun m h => by unfold sgR; rw [h]; simp) (fun m h => by unfold sgR; split <;> omega) (by unfold sgI; split <;> simp) (fun m h => by unfold sgI; split <;> omega) (fun m h => by unfold sgI; split <;> omega) L a ca x k w hw0 hx hk ha hca hLa hs
theorem ExP.long_of {y : Nat} (h : ExP.lim ≤ y) : 300 < (Lib.decDigits y).length := by
  have hp : 0 < ExP.lim := by decide +kernel
  rw [ExP.nd_dec (Nat.lt_of_lt_of_le hp h)]
  rcases Nat.lt_or_ge 300 (ExP.nd 10 y) with h1 | h1
  · exact h1
  · have key : ∀ m, ExP.nd 10 y ≤ m → y < 10 ^ m := fun m hm => ExP.lt_pow_mono (by omega) (ExP.nd_lt (by omega) y) hm
    have h2 := key 300 h1
    unfold ExP.lim at h
    exact absurd h (Nat.not_le_of_lt h2)
/-- a power that is too long is written as such -/
theorem ExP.pow_over {x : ExP.Num} {k : Nat} (hg : Nat.gcd x.n x.d = 1) (h : ExP.lim ≤ x.n ^ k ∨ ExP.lim ≤ x.d ^ k) : ExP.writeF (ExP.powN x k) = ([], []) ∧ ExP.writeE (ExP.powN x k) = 19 := by
  have hbig : 1 < ExP.lim := by decide +kernel
  have hn : x.n ≠ 0 := by
    intro h0
    rw [h0, Nat.gcd_zero_left] at hg
    rw [h0, hg, Nat.one_pow] at h
    rcases h with h | h
    · rcases Nat.eq_zero_or_pos k with h1 | h1
      · rw [h1, Nat.pow_zero] at h; omega
      · rw [Nat.zero_pow h1] at h; omega
    · omega
  have hnk : (ExP.powN x k).n ≠ 0 := by
    show x.n ^ k ≠ 0
    exact Nat.ne_of_gt (Nat.pow_pos (Nat.pos_of_ne_zero hn))
  have hgk : Nat.gcd (x.n ^ k) (x.d ^ k) = 1 := Nat.Coprime.pow k k hg
  have ho : ExP.overP (ExP.powN x k) := by
    unfold ExP.overP ExP.redN ExP.redD
    show 300 < (Lib.decDigits (x.n ^ k / Nat.gcd (x.n ^ k) (x.d ^ k))).length ∨ 300 < (Lib.decDigits (x.d ^ k / Nat.gcd (x.n ^ k) (x.d ^ k))).length
    rw [hgk, Nat.div_one, Nat.div_one]
    exact h.imp ExP.long_of ExP.long_of
  rw [ExP.writeF, ExP.writeE, if_neg hnk, if_neg hnk, if_pos ho, if_pos ho]
  exact ⟨rfl, rfl⟩
theorem sgR_odd (neg : Bool) (k : Nat) : decide (¬ sgR neg k = 0) = decide (k % 2 = 1) := by
  by_cases h : k % 2 = 1
  · rw [decide_eq_true h, decide_eq_true]; unfold sgR; split <;> omega
  · rw [decide_eq_false h, decide_eq_false]; unfold sgR; split <;> omega
/-- what Power answers -/
def ExP.pwN (x : ExP.Num) (neg : Bool) (k : Nat) : ExP.Num := ExP.powN (if neg = true then ExP.invN x else x) k
set_option maxRecDepth 100000 in
set_option maxHeartbeats 4000000 in
theorem power_pos (f : ExP.Fr) (k : Nat) (w : World) (hw : XW w) (hw0 : 0 < w.heap.size) (hk : k ≤ 1000) (h1 : f.1.length ≤ 9223372036854775807) (h2 : f.2.length ≤ 9223372036854775807) (hE : ExP.readE f = 0) :
    Calls Tryz.prog 30 #[frV f, .int .i64 (sgI false k)] w (WrOut (ExP.writeF (ExP.powN (ExP.readN f) k)) (ExP.writeE (ExP.powN (ExP.readN f) k)) w) := by
  have R1 := fun (w' : World) (h : Below w.heap.size w w') => read_any f w' (Nat.lt_of_lt_of_le hw0 h.size) h1 h2
  obtain ⟨q1, q2, q3⟩ := ExP.read_nd hE (b := 1000000000) (by omega)
  obtain ⟨-, -, -, -, -, hg, -⟩ := ExP.read_ok hE
  rw [ExP.readV_ok hE, hE] at R1
  have W1 := fun (x : FrV) (w' : World) (h : Below w.heap.size w w') => write_any x w' (hw.below h) (Nat.lt_of_lt_of_le hw0 h.size)
  have hov := ExP.pow_over (x := ExP.readN f) (k := k) hg
  have b1 := ExP.nd_pow (b := 1000000000) (by omega) q1 k
  have b2 := ExP.nd_pow (b := 1000000000) (by omega) q2 k
  have b3 : 0 < (ExP.readN f).d ^ k := Nat.pow_pos q3
  have hP : ExP.powN (ExP.readN f) k = ⟨(ExP.readN f).m && decide (k % 2 = 1), (ExP.readN f).n ^ k, (ExP.readN f).d ^ k⟩ := rfl
  have hodd := sgR_odd false k
  have hPW := fun a ca x w' h0 hx => sgpow_any false (Lz x a []) a ca x k w' h0 hx hk
  have hrm := sg_rem false k
  have hsg : sgI false k = (k : Int) := rfl
  rw [← hodd] at hP
  generalize hPd : ExP.powN (ExP.readN f) k = P at *
  clear hPd
  generalize ExP.readN f = V at *
  obtain ⟨m, x, y⟩ := V
  obtain ⟨f1, f2⟩ := f
  dsimp only at *
  generalize sgR false k = R at *
  cases m with
  | true =>
    simp only [Bool.true_and] at hP
    refine enter env_ok Tryz.func30 rfl Tryz.results30 Tryz.ntmps30 [] [] [.agg [.str f1, .str f2], .int .i64 (sgI false k)] (by simp [SV.oks, SV.ok]) (Nat.le_of_ble_eq_true rfl) w _ 1000 ?_
    repeat' (first | ((with_reducible first | show wpS _ _ _ _ | show putD _ _ _ _ | show putW _ _ _ _ | show splitG _ _ _ | show wpQ _ _ _ _ _ _ | show wpD _ _ _ _ _ _ _ | show wpX _ _ _ _ _ _ _ | show expX _ _ _ _ _ _ | show stepX _ _ _ _ | show keepR _ _ _ | show wpY _ _ _ _); conv => whnf) | ((with_reducible show RetN _ _ _); refine retB fun β => ?_) | ((with_reducible show _ ∧ _); first | (apply And.intro; (· intro h; exfalso; first | omega | (revert h; decide)); intro _) | (apply And.intro; rotate_left; (· intro h; exfalso; first | omega | (revert h; decide)); intro _) | (refine ⟨fun _ => ?_, fun _ => ?_⟩) | (apply And.intro; · kernel_rfl) | (apply And.intro; · (show inK _ _; unfold inK; omega)) | (apply And.intro; · (show (_ : Int) ≤ 9223372036854775807; (try simp only [List.length_append, List.length_drop, List.length_take, List.length_cons, List.length_nil]); omega))) | ((with_reducible show AllBe _); refine allBe fun βe => ?_; conv => whnf) | ((with_reducible show bothX _ _); refine bothI ?_ ?_; conv => whnf) | (with_reducible exact trivial) | ((with_reducible show CallN _ _ _ _ _ _ _ _); refine call_of env_ok rfl 1000 ?_) | ((with_reducible show XopN _ _ _ _ _ _); refine xop_of env_ok rfl 1000 ?_) | ((with_reducible show CallX _ _ _ _ _ _); first | (refine callFrE .u32 1000000000 ⟨true, x, y⟩ 0 hw0 (by kernel_rfl) rfl (fun β w' hm => R1 w' hm.below) (fun a1 c1 a2 c2 hcap => ?_)) | (refine callPw2 (Lz x a1 []) (x ^ k) hw0 (by kernel_rfl) rfl (by repeat (first | exact apart_nil | refine apart_row 1 (Nat.le_of_ble_eq_true rfl) rfl ?_ | refine apart_row 2 (Nat.le_of_ble_eq_true rfl) rfl ?_ | refine apart_row 3 (Nat.le_of_ble_eq_true rfl) rfl ?_ | refine apart_row 4 (Nat.le_of_ble_eq_true rfl) rfl ?_ | refine apart_row 5 (Nat.le_of_ble_eq_true rfl) rfl ?_)) (fun β w' hm => hPW a1 c1 x w' (Nat.lt_of_lt_of_le hw0 hm.base_le) (by omega) hcap.an hcap.cn Lz_in (by first | exact hm.slF 1 rfl | exact hm.slF 2 rfl | exact hm.slF 3 rfl | exact hm.slF 4 rfl | exact hm.slF 5 rfl | exact hm.slB 3 rfl | exact hm.slB 4 rfl | exact hm.slB 5 rfl | exact hm.slB 6 rfl)) (fun a3 c3 n1 n2 => ?_) (fun a3 c3 n1 => ?_)) | (refine callPw2 (Lz y a2 []) (y ^ k) hw0 (by kernel_rfl) rfl (by repeat (first | exact apart_nil | refine apart_row 1 (Nat.le_of_ble_eq_true rfl) rfl ?_ | refine apart_row 2 (Nat.le_of_ble_eq_true rfl) rfl ?_ | refine apart_row 3 (Nat.le_of_ble_eq_true rfl) rfl ?_ | refine apart_row 4 (Nat.le_of_ble_eq_true rfl) rfl ?_ | refine apart_row 5 (Nat.le_of_ble_eq_true rfl) rfl ?_)) (fun β w' hm => hPW a2 c2 y w' (Nat.lt_of_lt_of_le hw0 hm.base_le) (by omega) hcap.bn hcap.cd Lz_in (by first | exact hm.slF 1 rfl | exact hm.slF 2 rfl | exact hm.slF 3 rfl | exact hm.slF 4 rfl | exact hm.slF 5 rfl | exact hm.slB 3 rfl | exact hm.slB 4 rfl | exact hm.slB 5 rfl | exact hm.slB 6 rfl)) (fun a4 c4 n3 n4 => ?_) (fun a4 c4 n3 => ?_)) | (refine callX (.tup [.agg [.str (ExP.writeF ⟨decide (¬R = 0), x ^ k, y ^ k⟩).1, .str (ExP.writeF ⟨decide (¬R = 0), x ^ k, y ^ k⟩).2], .int .i64 (ExP.writeE ⟨decide (¬R = 0), x ^ k, y ^ k⟩)]) (by kernel_rfl) rfl (⟨⟨trivial, trivial, trivial⟩, trivial, trivial⟩) (fun β w hm => W1 ⟨decide (¬R = 0), x ^ k, y ^ k, a3, c3, a4, c4⟩ w hm.below (FrIn.of (by first | exact hm.slF 1 rfl | exact hm.slF 2 rfl | exact hm.slF 3 rfl | exact hm.slF 4 rfl | exact hm.slF 5 rfl | exact hm.slB 3 rfl | exact hm.slB 4 rfl | exact hm.slB 5 rfl | exact hm.slB 6 rfl) (by first | exact hm.slF 1 rfl | exact hm.slF 2 rfl | exact hm.slF 3 rfl | exact hm.slF 4 rfl | exact hm.slF 5 rfl | exact hm.slB 3 rfl | exact hm.slB 4 rfl | exact hm.slB 5 rfl | exact hm.slB 6 rfl) ⟨n1, n3, n2, n4⟩) b3 (by dsimp only; omega) (by dsimp only; omega)) ?_)) | ((with_reducible show OpX _ _ _ _); first | fail) | ((with_reducible show ∃ _ : SV, _); first | (refine ⟨_, ?ok, x_remT (by decide) hrm, ?_⟩; (case ok => exact fun _ _ => trivial))) | ((with_reducible show ∃ _, _); first | fail))
    all_goals first
      | (exfalso; omega)
      | (exfalso; simp_all; done)
      | (rw [(hov (.inl (by assumption))).1, (hov (.inl (by assumption))).2]; rfl)
      | (rw [(hov (.inr (by assumption))).1, (hov (.inr (by assumption))).2]; rfl)
      | (rw [hP]; rfl)
  | false =>
    simp only [Bool.false_and] at hP
    refine enter env_ok Tryz.func30 rfl Tryz.results30 Tryz.ntmps30 [] [] [.agg [.str f1, .str f2], .int .i64 (sgI false k)] (by simp [SV.oks, SV.ok]) (Nat.le_of_ble_eq_true rfl) w _ 1000 ?_
    repeat' (first | ((with_reducible first | show wpS _ _ _ _ | show putD _ _ _ _ | show putW _ _ _ _ | show splitG _ _ _ | show wpQ _ _ _ _ _ _ | show wpD _ _ _ _ _ _ _ | show wpX _ _ _ _ _ _ _ | show expX _ _ _ _ _ _ | show stepX _ _ _ _ | show keepR _ _ _ | show wpY _ _ _ _); conv => whnf) | ((with_reducible show RetN _ _ _); refine retB fun β => ?_) | ((with_reducible show _ ∧ _); first | (apply And.intro; (· intro h; exfalso; first | omega | (revert h; decide)); intro _) | (apply And.intro; rotate_left; (· intro h; exfalso; first | omega | (revert h; decide)); intro _) | (refine ⟨fun _ => ?_, fun _ => ?_⟩) | (apply And.intro; · kernel_rfl) | (apply And.intro; · (show inK _ _; unfold inK; omega)) | (apply And.intro; · (show (_ : Int) ≤ 9223372036854775807; (try simp only [List.length_append, List.length_drop, List.length_take, List.length_cons, List.length_nil]); omega))) | ((with_reducible show AllBe _); refine allBe fun βe => ?_; conv => whnf) | ((with_reducible show bothX _ _); refine bothI ?_ ?_; conv => whnf) | (with_reducible exact trivial) | ((with_reducible show CallN _ _ _ _ _ _ _ _); refine call_of env_ok rfl 1000 ?_) | ((with_reducible show XopN _ _ _ _ _ _); refine xop_of env_ok rfl 1000 ?_) | ((with_reducible show CallX _ _ _ _ _ _); first | (refine callFrE .u32 1000000000 ⟨false, x, y⟩ 0 hw0 (by kernel_rfl) rfl (fun β w' hm => R1 w' hm.below) (fun a1 c1 a2 c2 hcap => ?_)) | (refine callPw2 (Lz x a1 []) (x ^ k) hw0 (by kernel_rfl) rfl (by repeat (first | exact apart_nil | refine apart_row 1 (Nat.le_of_ble_eq_true rfl) rfl ?_ | refine apart_row 2 (Nat.le_of_ble_eq_true rfl) rfl ?_ | refine apart_row 3 (Nat.le_of_ble_eq_true rfl) rfl ?_ | refine apart_row 4 (Nat.le_of_ble_eq_true rfl) rfl ?_ | refine apart_row 5 (Nat.le_of_ble_eq_true rfl) rfl ?_)) (fun β w' hm => hPW a1 c1 x w' (Nat.lt_of_lt_of_le hw0 hm.base_le) (by omega) hcap.an hcap.cn Lz_in (by first | exact hm.slF 1 rfl | exact hm.slF 2 rfl | exact hm.slF 3 rfl | exact hm.slF 4 rfl | exact hm.slF 5 rfl | exact hm.slB 3 rfl | exact hm.slB 4 rfl | exact hm.slB 5 rfl | exact hm.slB 6 rfl)) (fun a3 c3 n1 n2 => ?_) (fun a3 c3 n1 => ?_)) | (refine callPw2 (Lz y a2 []) (y ^ k) hw0 (by kernel_rfl) rfl (by repeat (first | exact apart_nil | refine apart_row 1 (Nat.le_of_ble_eq_true rfl) rfl ?_ | refine apart_row 2 (Nat.le_of_ble_eq_true rfl) rfl ?_ | refine apart_row 3 (Nat.le_of_ble_eq_true rfl) rfl ?_ | refine apart_row 4 (Nat.le_of_ble_eq_true rfl) rfl ?_ | refine apart_row 5 (Nat.le_of_ble_eq_true rfl) rfl ?_)) (fun β w' hm => hPW a2 c2 y w' (Nat.lt_of_lt_of_le hw0 hm.base_le) (by omega) hcap.bn hcap.cd Lz_in (by first | exact hm.slF 1 rfl | exact hm.slF 2 rfl | exact hm.slF 3 rfl | exact hm.slF 4 rfl | exact hm.slF 5 rfl | exact hm.slB 3 rfl | exact hm.slB 4 rfl | exact hm.slB 5 rfl | exact hm.slB 6 rfl)) (fun a4 c4 n3 n4 => ?_) (fun a4 c4 n3 => ?_)) | (refine callX (.tup [.agg [.str (ExP.writeF ⟨false, x ^ k, y ^ k⟩).1, .str (ExP.writeF ⟨false, x ^ k, y ^ k⟩).2], .int .i64 (ExP.writeE ⟨false, x ^ k, y ^ k⟩)]) (by kernel_rfl) rfl (⟨⟨trivial, trivial, trivial⟩, trivial, trivial⟩) (fun β w hm => W1 ⟨false, x ^ k, y ^ k, a3, c3, a4, c4⟩ w hm.below (FrIn.of (by first | exact hm.slF 1 rfl | exact hm.slF 2 rfl | exact hm.slF 3 rfl | exact hm.slF 4 rfl | exact hm.slF 5 rfl | exact hm.slB 3 rfl | exact hm.slB 4 rfl | exact hm.slB 5 rfl | exact hm.slB 6 rfl) (by first | exact hm.slF 1 rfl | exact hm.slF 2 rfl | exact hm.slF 3 rfl | exact hm.slF 4 rfl | exact hm.slF 5 rfl | exact hm.slB 3 rfl | exact hm.slB 4 rfl | exact hm.slB 5 rfl | exact hm.slB 6 rfl) ⟨n1, n3, n2, n4⟩) b3 (by dsimp only; omega) (by dsimp only; omega)) ?_)) | ((with_reducible show OpX _ _ _ _); first | fail) | ((with_reducible show ∃ _ : SV, _); first | (refine ⟨_, ?ok, x_remT (by decide) hrm, ?_⟩; (case ok => exact fun _ _ => trivial))) | ((with_reducible show ∃ _, _); first | fail))
    all_goals first
      | (exfalso; omega)
      | (exfalso; simp_all; done)
      | (rw [(hov (.inl (by assumption))).1, (hov (.inl (by assumption))).2]; rfl)
      | (rw [(hov (.inr (by assumption))).1, (hov (.inr (by assumption))).2]; rfl)
      | (rw [hP]; rfl)
set_option maxRecDepth 100000 in
set_option maxHeartbeats 4000000 in
theorem power_neg (f : ExP.Fr) (k : Nat) (w : World) (hw : XW w) (hw0 : 0 < w.heap.size) (hk : k ≤ 1000) (h1 : f.1.length ≤ 9223372036854775807) (h2 : f.2.length ≤ 9223372036854775807) (hE : ExP.readE f = 0) (hk0 : 0 < k) (hx0 : (ExP.readN f).n ≠ 0) :
    Calls Tryz.prog 30 #[frV f, .int .i64 (sgI true k)] w (WrOut (ExP.writeF (ExP.powN (ExP.invN (ExP.readN f)) k)) (ExP.writeE (ExP.powN (ExP.invN (ExP.readN f)) k)) w) := by
  have R1 := fun (w' : World) (h : Below w.heap.size w w') => read_any f w' (Nat.lt_of_lt_of_le hw0 h.size) h1 h2
  obtain ⟨q1, q2, q3⟩ := ExP.read_nd hE (b := 1000000000) (by omega)
  obtain ⟨-, -, -, -, -, hg, -⟩ := ExP.read_ok hE
  rw [ExP.readV_ok hE, hE] at R1
  have W1 := fun (x : FrV) (w' : World) (h : Below w.heap.size w w') => write_any x w' (hw.below h) (Nat.lt_of_lt_of_le hw0 h.size)
  have hov : ExP.lim ≤ (ExP.readN f).d ^ k ∨ ExP.lim ≤ (ExP.readN f).n ^ k → ExP.writeF (ExP.powN (ExP.invN (ExP.readN f)) k) = ([], []) ∧ ExP.writeE (ExP.powN (ExP.invN (ExP.readN f)) k) = 19 := ExP.pow_over (x := ExP.invN (ExP.readN f)) (k := k) (by rw [Nat.gcd_comm] at hg; exact hg)
  have b1 := ExP.nd_pow (b := 1000000000) (by omega) q1 k
  have b2 := ExP.nd_pow (b := 1000000000) (by omega) q2 k
  have b3 : 0 < (ExP.readN f).n ^ k := Nat.pow_pos (Nat.pos_of_ne_zero hx0)
  have hP : ExP.powN (ExP.invN (ExP.readN f)) k = ⟨(ExP.readN f).m && decide (k % 2 = 1), (ExP.readN f).d ^ k, (ExP.readN f).n ^ k⟩ := rfl
  have hodd := sgR_odd true k
  have hPW := fun a ca x w' h0 hx => sgpow_any true (Lz x a []) a ca x k w' h0 hx hk
  have hrm := sg_rem true k
  have hsg : sgI true k = -(k : Int) := rfl
  rw [← hodd] at hP
  generalize hPd : ExP.powN (ExP.invN (ExP.readN f)) k = P at *
  clear hPd
  generalize ExP.readN f = V at *
  obtain ⟨m, x, y⟩ := V
  obtain ⟨f1, f2⟩ := f
  dsimp only at *
  have hz := fun a c w' => zero_any a (ExP.nd 1000000000 x) c w'
  rw [show decide ((ExP.nd 1000000000 x : Int) = 0) = false by simp only [ExP.nd_z (b := 1000000000) (by omega)]; exact decide_eq_false hx0] at hz
  generalize sgR true k = R at *
  cases m with
  | true =>
    simp only [Bool.true_and] at hP
    refine enter env_ok Tryz.func30 rfl Tryz.results30 Tryz.ntmps30 [] [] [.agg [.str f1, .str f2], .int .i64 (sgI true k)] (by simp [SV.oks, SV.ok]) (Nat.le_of_ble_eq_true rfl) w _ 1000 ?_
    repeat' (first | ((with_reducible first | show wpS _ _ _ _ | show putD _ _ _ _ | show putW _ _ _ _ | show splitG _ _ _ | show wpQ _ _ _ _ _ _ | show wpD _ _ _ _ _ _ _ | show wpX _ _ _ _ _ _ _ | show expX _ _ _ _ _ _ | show stepX _ _ _ _ | show keepR _ _ _ | show wpY _ _ _ _); conv => whnf) | ((with_reducible show RetN _ _ _); refine retB fun β => ?_) | ((with_reducible show _ ∧ _); first | (apply And.intro; (· intro h; exfalso; first | omega | (revert h; decide)); intro _) | (apply And.intro; rotate_left; (· intro h; exfalso; first | omega | (revert h; decide)); intro _) | (refine ⟨fun _ => ?_, fun _ => ?_⟩) | (apply And.intro; · kernel_rfl) | (apply And.intro; · (show inK _ _; unfold inK; omega)) | (apply And.intro; · (show (_ : Int) ≤ 9223372036854775807; (try simp only [List.length_append, List.length_drop, List.length_take, List.length_cons, List.length_nil]); omega))) | ((with_reducible show AllBe _); refine allBe fun βe => ?_; conv => whnf) | ((with_reducible show bothX _ _); refine bothI ?_ ?_; conv => whnf) | (with_reducible exact trivial) | ((with_reducible show CallN _ _ _ _ _ _ _ _); refine call_of env_ok rfl 1000 ?_) | ((with_reducible show XopN _ _ _ _ _ _); refine xop_of env_ok rfl 1000 ?_) | ((with_reducible show CallX _ _ _ _ _ _); first | (refine callFrE .u32 1000000000 ⟨true, x, y⟩ 0 hw0 (by kernel_rfl) rfl (fun β w' hm => R1 w' hm.below) (fun a1 c1 a2 c2 hcap => ?_)) | (refine callPw2 (Lz y a2 []) (y ^ k) hw0 (by kernel_rfl) rfl (by repeat (first | exact apart_nil | refine apart_row 1 (Nat.le_of_ble_eq_true rfl) rfl ?_ | refine apart_row 2 (Nat.le_of_ble_eq_true rfl) rfl ?_ | refine apart_row 3 (Nat.le_of_ble_eq_true rfl) rfl ?_ | refine apart_row 4 (Nat.le_of_ble_eq_true rfl) rfl ?_ | refine apart_row 5 (Nat.le_of_ble_eq_true rfl) rfl ?_)) (fun β w' hm => hPW a2 c2 y w' (Nat.lt_of_lt_of_le hw0 hm.base_le) (by omega) hcap.bn hcap.cd Lz_in (by first | exact hm.slF 1 rfl | exact hm.slF 2 rfl | exact hm.slF 3 rfl | exact hm.slF 4 rfl | exact hm.slF 5 rfl | exact hm.slB 3 rfl | exact hm.slB 4 rfl | exact hm.slB 5 rfl | exact hm.slB 6 rfl)) (fun a3 c3 n1 n2 => ?_) (fun a3 c3 n1 => ?_)) | (refine callPw2 (Lz x a1 []) (x ^ k) hw0 (by kernel_rfl) rfl (by repeat (first | exact apart_nil | refine apart_row 1 (Nat.le_of_ble_eq_true rfl) rfl ?_ | refine apart_row 2 (Nat.le_of_ble_eq_true rfl) rfl ?_ | refine apart_row 3 (Nat.le_of_ble_eq_true rfl) rfl ?_ | refine apart_row 4 (Nat.le_of_ble_eq_true rfl) rfl ?_ | refine apart_row 5 (Nat.le_of_ble_eq_true rfl) rfl ?_)) (fun β w' hm => hPW a1 c1 x w' (Nat.lt_of_lt_of_le hw0 hm.base_le) (by omega) hcap.an hcap.cn Lz_in (by first | exact hm.slF 1 rfl | exact hm.slF 2 rfl | exact hm.slF 3 rfl | exact hm.slF 4 rfl | exact hm.slF 5 rfl | exact hm.slB 3 rfl | exact hm.slB 4 rfl | exact hm.slB 5 rfl | exact hm.slB 6 rfl)) (fun a4 c4 n3 n4 => ?_) (fun a4 c4 n3 => ?_)) | (refine callX (.lit false) (by kernel_rfl) rfl (trivial) (fun β w hm => hz _ _ w) ?_) | (refine callX (.tup [.agg [.str (ExP.writeF ⟨decide (¬R = 0), y ^ k, x ^ k⟩).1, .str (ExP.writeF ⟨decide (¬R = 0), y ^ k, x ^ k⟩).2], .int .i64 (ExP.writeE ⟨decide (¬R = 0), y ^ k, x ^ k⟩)]) (by kernel_rfl) rfl (⟨⟨trivial, trivial, trivial⟩, trivial, trivial⟩) (fun β w hm => W1 ⟨decide (¬R = 0), y ^ k, x ^ k, a3, c3, a4, c4⟩ w hm.below (FrIn.of (by first | exact hm.slF 1 rfl | exact hm.slF 2 rfl | exact hm.slF 3 rfl | exact hm.slF 4 rfl | exact hm.slF 5 rfl | exact hm.slB 3 rfl | exact hm.slB 4 rfl | exact hm.slB 5 rfl | exact hm.slB 6 rfl) (by first | exact hm.slF 1 rfl | exact hm.slF 2 rfl | exact hm.slF 3 rfl | exact hm.slF 4 rfl | exact hm.slF 5 rfl | exact hm.slB 3 rfl | exact hm.slB 4 rfl | exact hm.slB 5 rfl | exact hm.slB 6 rfl) ⟨n1, n3, n2, n4⟩) b3 (by dsimp only; omega) (by dsimp only; omega)) ?_)) | ((with_reducible show OpX _ _ _ _); first | fail) | ((with_reducible show ∃ _ : SV, _); first | (refine ⟨_, ?ok, x_remT (by decide) hrm, ?_⟩; (case ok => exact fun _ _ => trivial))) | ((with_reducible show ∃ _, _); first | fail))
    all_goals first
      | (exfalso; omega)
      | (exfalso; simp_all; done)
      | (rw [(hov (.inl (by assumption))).1, (hov (.inl (by assumption))).2]; rfl)
      | (rw [(hov (.inr (by assumption))).1, (hov (.inr (by assumption))).2]; rfl)
      | (rw [hP]; rfl)
  | false =>
    simp only [Bool.false_and] at hP
    refine enter env_ok Tryz.func30 rfl Tryz.results30 Tryz.ntmps30 [] [] [.agg [.str f1, .str f2], .int .i64 (sgI true k)] (by simp [SV.oks, SV.ok]) (Nat.le_of_ble_eq_true rfl) w _ 1000 ?_
    repeat' (first | ((with_reducible first | show wpS _ _ _ _ | show putD _ _ _ _ | show putW _ _ _ _ | show splitG _ _ _ | show wpQ _ _ _ _ _ _ | show wpD _ _ _ _ _ _ _ | show wpX _ _ _ _ _ _ _ | show expX _ _ _ _ _ _ | show stepX _ _ _ _ | show keepR _ _ _ | show wpY _ _ _ _); conv => whnf) | ((with_reducible show RetN _ _ _); refine retB fun β => ?_) | ((with_reducible show _ ∧ _); first | (apply And.intro; (· intro h; exfalso; first | omega | (revert h; decide)); intro _) | (apply And.intro; rotate_left; (· intro h; exfalso; first | omega | (revert h; decide)); intro _) | (refine ⟨fun _ => ?_, fun _ => ?_⟩) | (apply And.intro; · kernel_rfl) | (apply And.intro; · (show inK _ _; unfold inK; omega)) | (apply And.intro; · (show (_ : Int) ≤ 9223372036854775807; (try simp only [List.length_append, List.length_drop, List.length_take, List.length_cons, List.length_nil]); omega))) | ((with_reducible show AllBe _); refine allBe fun βe => ?_; conv => whnf) | ((with_reducible show bothX _ _); refine bothI ?_ ?_; conv => whnf) | (with_reducible exact trivial) | ((with_reducible show CallN _ _ _ _ _ _ _ _); refine call_of env_ok rfl 1000 ?_) | ((with_reducible show XopN _ _ _ _ _ _); refine xop_of env_ok rfl 1000 ?_) | ((with_reducible show CallX _ _ _ _ _ _); first | (refine callFrE .u32 1000000000 ⟨false, x, y⟩ 0 hw0 (by kernel_rfl) rfl (fun β w' hm => R1 w' hm.below) (fun a1 c1 a2 c2 hcap => ?_)) | (refine callPw2 (Lz y a2 []) (y ^ k) hw0 (by kernel_rfl) rfl (by repeat (first | exact apart_nil | refine apart_row 1 (Nat.le_of_ble_eq_true rfl) rfl ?_ | refine apart_row 2 (Nat.le_of_ble_eq_true rfl) rfl ?_ | refine apart_row 3 (Nat.le_of_ble_eq_true rfl) rfl ?_ | refine apart_row 4 (Nat.le_of_ble_eq_true rfl) rfl ?_ | refine apart_row 5 (Nat.le_of_ble_eq_true rfl) rfl ?_)) (fun β w' hm => hPW a2 c2 y w' (Nat.lt_of_lt_of_le hw0 hm.base_le) (by omega) hcap.bn hcap.cd Lz_in (by first | exact hm.slF 1 rfl | exact hm.slF 2 rfl | exact hm.slF 3 rfl | exact hm.slF 4 rfl | exact hm.slF 5 rfl | exact hm.slB 3 rfl | exact hm.slB 4 rfl | exact hm.slB 5 rfl | exact hm.slB 6 rfl)) (fun a3 c3 n1 n2 => ?_) (fun a3 c3 n1 => ?_)) | (refine callPw2 (Lz x a1 []) (x ^ k) hw0 (by kernel_rfl) rfl (by repeat (first | exact apart_nil | refine apart_row 1 (Nat.le_of_ble_eq_true rfl) rfl ?_ | refine apart_row 2 (Nat.le_of_ble_eq_true rfl) rfl ?_ | refine apart_row 3 (Nat.le_of_ble_eq_true rfl) rfl ?_ | refine apart_row 4 (Nat.le_of_ble_eq_true rfl) rfl ?_ | refine apart_row 5 (Nat.le_of_ble_eq_true rfl) rfl ?_)) (fun β w' hm => hPW a1 c1 x w' (Nat.lt_of_lt_of_le hw0 hm.base_le) (by omega) hcap.an hcap.cn Lz_in (by first | exact hm.slF 1 rfl | exact hm.slF 2 rfl | exact hm.slF 3 rfl | exact hm.slF 4 rfl | exact hm.slF 5 rfl | exact hm.slB 3 rfl | exact hm.slB 4 rfl | exact hm.slB 5 rfl | exact hm.slB 6 rfl)) (fun a4 c4 n3 n4 => ?_) (fun a4 c4 n3 => ?_)) | (refine callX (.lit false) (by kernel_rfl) rfl (trivial) (fun β w hm => hz _ _ w) ?_) | (refine callX (.tup [.agg [.str (ExP.writeF ⟨false, y ^ k, x ^ k⟩).1, .str (ExP.writeF ⟨false, y ^ k, x ^ k⟩).2], .int .i64 (ExP.writeE ⟨false, y ^ k, x ^ k⟩)]) (by kernel_rfl) rfl (⟨⟨trivial, trivial, trivial⟩, trivial, trivial⟩) (fun β w hm => W1 ⟨false, y ^ k, x ^ k, a3, c3, a4, c4⟩ w hm.below (FrIn.of (by first | exact hm.slF 1 rfl | exact hm.slF 2 rfl | exact hm.slF 3 rfl | exact hm.slF 4 rfl | exact hm.slF 5 rfl | exact hm.slB 3 rfl | exact hm.slB 4 rfl | exact hm.slB 5 rfl | exact hm.slB 6 rfl) (by first | exact hm.slF 1 rfl | exact hm.slF 2 rfl | exact hm.slF 3 rfl | exact hm.slF 4 rfl | exact hm.slF 5 rfl | exact hm.slB 3 rfl | exact hm.slB 4 rfl | exact hm.slB 5 rfl | exact hm.slB 6 rfl) ⟨n1, n3, n2, n4⟩) b3 (by dsimp only; omega) (by dsimp only; omega)) ?_)) | ((with_reducible show OpX _ _ _ _); first | fail) | ((with_reducible show ∃ _ : SV, _); first | (refine ⟨_, ?ok, x_remT (by decide) hrm, ?_⟩; (case ok => exact fun _ _ => trivial))) | ((with_reducible show ∃ _, _); first | fail))
    all_goals first
      | (exfalso; omega)
      | (exfalso; simp_all; done)
      | (rw [(hov (.inl (by assumption))).1, (hov (.inl (by assumption))).2]; rfl)
      | (rw [(hov (.inr (by assumption))).1, (hov (.inr (by assumption))).2]; rfl)
      | (rw [hP]; rfl)
set_option maxRecDepth 100000 in
set_option maxHeartbeats 4000000 in
theorem power_zero (f : ExP.Fr) (k : Nat) (w : World) (hw0 : 0 < w.heap.size) (hk : k ≤ 1000) (h1 : f.1.length ≤ 9223372036854775807) (h2 : f.2.length ≤ 9223372036854775807) (hE : ExP.readE f = 0) (hk0 : 0 < k) (hx0 : (ExP.readN f).n = 0) :
    Calls Tryz.prog 30 #[frV f, .int .i64 (sgI true k)] w (WrOut ([], []) 1 w) := by
  have R1 := fun (w' : World) (h : Below w.heap.size w w') => read_any f w' (Nat.lt_of_lt_of_le hw0 h.size) h1 h2
  rw [ExP.readV_ok hE, hE] at R1
  have hrm := sg_rem true k
  have hsg : sgI true k = -(k : Int) := rfl
  generalize ExP.readN f = V at *
  obtain ⟨m, x, y⟩ := V
  obtain ⟨f1, f2⟩ := f
  dsimp only at *
  have hz := fun a c w' => zero_any a (ExP.nd 1000000000 x) c w'
  rw [show decide ((ExP.nd 1000000000 x : Int) = 0) = true by simp only [ExP.nd_z (b := 1000000000) (by omega)]; exact decide_eq_true hx0] at hz
  refine enter env_ok Tryz.func30 rfl Tryz.results30 Tryz.ntmps30 [] [] [.agg [.str f1, .str f2], .int .i64 (sgI true k)] (by simp [SV.oks, SV.ok]) (Nat.le_of_ble_eq_true rfl) w _ 1000 ?_
  repeat' (first | ((with_reducible first | show wpS _ _ _ _ | show putD _ _ _ _ | show putW _ _ _ _ | show splitG _ _ _ | show wpQ _ _ _ _ _ _ | show wpD _ _ _ _ _ _ _ | show wpX _ _ _ _ _ _ _ | show expX _ _ _ _ _ _ | show stepX _ _ _ _ | show keepR _ _ _ | show wpY _ _ _ _); conv => whnf) | ((with_reducible show RetN _ _ _); refine retB fun β => ?_) | ((with_reducible show _ ∧ _); first | (apply And.intro; (· intro h; exfalso; first | omega | (revert h; decide)); intro _) | (apply And.intro; rotate_left; (· intro h; exfalso; first | omega | (revert h; decide)); intro _) | (refine ⟨fun _ => ?_, fun _ => ?_⟩) | (apply And.intro; · kernel_rfl) | (apply And.intro; · (show inK _ _; unfold inK; omega)) | (apply And.intro; · (show (_ : Int) ≤ 9223372036854775807; (try simp only [List.length_append, List.length_drop, List.length_take, List.length_cons, List.length_nil]); omega))) | ((with_reducible show AllBe _); refine allBe fun βe => ?_; conv => whnf) | ((with_reducible show bothX _ _); refine bothI ?_ ?_; conv => whnf) | (with_reducible exact trivial) | ((with_reducible show CallN _ _ _ _ _ _ _ _); refine call_of env_ok rfl 1000 ?_) | ((with_reducible show XopN _ _ _ _ _ _); refine xop_of env_ok rfl 1000 ?_) | ((with_reducible show CallX _ _ _ _ _ _); first | (refine callFrE .u32 1000000000 ⟨m, x, y⟩ 0 hw0 (by kernel_rfl) rfl (fun β w' hm => R1 w' hm.below) (fun a1 c1 a2 c2 hcap => ?_)) | (refine callX (.lit true) (by kernel_rfl) rfl (trivial) (fun β w hm => hz _ _ w) ?_)) | ((with_reducible show OpX _ _ _ _); first | fail) | ((with_reducible show ∃ _ : SV, _); first | (refine ⟨_, ?ok, x_remT (by decide) hrm, ?_⟩; (case ok => exact fun _ _ => trivial))) | ((with_reducible show ∃ _, _); first | fail))
  all_goals first | rfl | (exfalso; omega) | (exfalso; simp_all; done)
set_option maxRecDepth 100000 in
set_option maxHeartbeats 4000000 in
theorem power_bad (f : ExP.Fr) (n : Int) (w : World) (hw0 : 0 < w.heap.size) (h1 : f.1.length ≤ 9223372036854775807) (h2 : f.2.length ≤ 9223372036854775807) (hE : ExP.readE f ≠ 0) :
    Calls Tryz.prog 30 #[frV f, .int .i64 n] w (WrOut ([], []) (ExP.readE f) w) := by
  have R1 := fun (w' : World) (h : Below w.heap.size w w') => read_any f w' (Nat.lt_of_lt_of_le hw0 h.size) h1 h2
  rw [ExP.readV_bad rfl hE] at R1
  generalize ExP.readE f = E at *
  obtain ⟨f1, f2⟩ := f
  refine enter env_ok Tryz.func30 rfl Tryz.results30 Tryz.ntmps30 [] [] [.agg [.str f1, .str f2], .int .i64 n] (by simp [SV.oks, SV.ok]) (Nat.le_of_ble_eq_true rfl) w _ 1000 ?_
  repeat' (first | ((with_reducible first | show wpS _ _ _ _ | show putD _ _ _ _ | show putW _ _ _ _ | show splitG _ _ _ | show wpQ _ _ _ _ _ _ | show wpD _ _ _ _ _ _ _ | show wpX _ _ _ _ _ _ _ | show expX _ _ _ _ _ _ | show stepX _ _ _ _ | show keepR _ _ _ | show wpY _ _ _ _); conv => whnf) | ((with_reducible show RetN _ _ _); refine retB fun β => ?_) | ((with_reducible show _ ∧ _); first | (apply And.intro; (· intro h; exfalso; first | omega | (revert h; decide)); intro _) | (apply And.intro; rotate_left; (· intro h; exfalso; first | omega | (revert h; decide)); intro _) | (refine ⟨fun _ => ?_, fun _ => ?_⟩) | (apply And.intro; · kernel_rfl) | (apply And.intro; · (show inK _ _; unfold inK; omega)) | (apply And.intro; · (show (_ : Int) ≤ 9223372036854775807; (try simp only [List.length_append, List.length_drop, List.length_take, List.length_cons, List.length_nil]); omega))) | ((with_reducible show AllBe _); refine allBe fun βe => ?_; conv => whnf) | ((with_reducible show bothX _ _); refine bothI ?_ ?_; conv => whnf) | (with_reducible exact trivial) | ((with_reducible show CallN _ _ _ _ _ _ _ _); refine call_of env_ok rfl 1000 ?_) | ((with_reducible show XopN _ _ _ _ _ _); refine xop_of env_ok rfl 1000 ?_) | ((with_reducible show CallX _ _ _ _ _ _); first | (refine callFrE .u32 1000000000 ⟨false, 0, 0⟩ E hw0 (by kernel_rfl) rfl (fun β w' hm => R1 w' hm.below) (fun a1 c1 a2 c2 hcap => ?_))) | ((with_reducible show OpX _ _ _ _); first | fail) | ((with_reducible show ∃ _ : SV, _); first | fail) | ((with_reducible show ∃ _, _); first | fail))
  all_goals first | rfl | (exfalso; simp_all; done)
end Go.Proofs.YtfodbfbljeeojaaGreatDoor
