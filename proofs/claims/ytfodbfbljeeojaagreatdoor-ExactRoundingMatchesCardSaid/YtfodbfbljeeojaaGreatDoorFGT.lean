/- Rounding: the program's Floor, scaled, rounded and Round. Rounding: the program's Round. A walk that reckons: fractions whose slices are new to the function. -/
import Derived.Test.YtfodbfbljeeojaaGreatDoorFGS
set_option linter.unusedSimpArgs false
set_option linter.unusedVariables false
namespace Go.Proofs.YtfodbfbljeeojaaGreatDoor
open Go.RowKit
open Sym
attribute [local irreducible] Calls Sym.AggEq ExP.nd ExP.dig ExP.upd ExP.writeF ExP.writeE
/-- the nearest whole number -/
def ExP.nearN (x : ExP.Num) : ExP.Num := ⟨x.m, (x.n + x.n + x.d) / (x.d + x.d), 1⟩
section
variable (f : ExP.Fr) (w : World) (hw : XW w) (hw0 : 0 < w.heap.size) (h1 : f.1.length ≤ 9223372036854775807) (h2 : f.2.length ≤ 9223372036854775807)
include hw hw0 h1 h2
set_option maxRecDepth 100000 in
set_option maxHeartbeats 4000000 in
theorem floor_ok (hE : ExP.readE f = 0) :
    Calls Tryz.prog 38 #[frV f] w (WrOut (ExP.writeF (ExP.floorN (ExP.readN f))) (ExP.writeE (ExP.floorN (ExP.readN f))) w) := by
  have R1 := fun (w' : World) (h : Below w.heap.size w w') => read_any f w' (Nat.lt_of_lt_of_le hw0 h.size) h1 h2
  obtain ⟨q1, q2, q3⟩ := ExP.read_nd hE (b := 1000000000) (by omega)
  have hV := ExP.readV_ok hE
  rw [hE, hV] at R1
  obtain ⟨i0, hi, hz0, hz1, hz2⟩ := info_parts u32Info
  have hu := Tryz.underlying67
  have hsz := fun w => Tryz.sizeOf97 w
  have hzv := fun w => Tryz.zeroValue97 w
  have hn1 : ExP.nd 1000000000 1 = 1 := ExP.nd_one (by omega)
  have hv1 : nv .u32 1000000000 1 = [.int .u32 1] := nv_one (by omega)
  have W1 := fun (m : Bool) (Q : Nat) qa qc g (w' : World) (h : Below w.heap.size w w') => write_any ⟨m, Q, 1, qa, qc, some ⟨g, 0, none⟩, 1⟩ w' (hw.below h) (Nat.lt_of_lt_of_le hw0 h.size)
  simp only [FrV.val, FrV.num, hn1] at W1
  generalize ExP.readN f = V at *
  obtain ⟨m, n, d⟩ := V
  have hF : ExP.floorN ⟨m, n, d⟩ = ⟨m, n / d + (if m = true ∧ n % d ≠ 0 then 1 else 0), 1⟩ := rfl
  rw [hF]
  clear hF
  dsimp only at *
  have DV := fun a1 c1 a2 c2 (w' : World) (h : Below w.heap.size w w') => divide_any a1 a2 c1 c2 n d w' (Nat.lt_of_lt_of_le hw0 h.size) (by omega) (by omega) q3
  have hq := ExP.nd_mono (b := 1000000000) (by omega) (Nat.div_le_self n d)
  have hq1 : ExP.nd 1000000000 (n / d + 1) ≤ 1000 := Nat.le_trans (ExP.nd_add (m := 300) (by omega) (by omega) (by rw [hn1]; omega)) (by omega)
  have hr0 := ExP.nd_pos (b := 1000000000) (x := n % d) (by omega)
  have hr1 : ExP.nd 1000000000 (n % d) ≤ 300 := Nat.le_trans (ExP.nd_mono (by omega) (Nat.le_of_lt (Nat.mod_lt n q3))) q2
  generalize n / d = q at *
  generalize n % d = r at *
  have PL := fun qa qc g (w' : World) hs ht => plus_any qa (some ⟨g, 0, none⟩) qc 1 q 1 w' (by omega) (by omega) hs ht
  rw [hn1, hv1] at PL
  have hz := fun a c w => zero_any a (ExP.nd 1000000000 r) c w
  obtain ⟨f1, f2⟩ := f
  have eq1 : ∀ m Q, ExP.writeF ⟨m, Q, 1⟩ = ((ExP.writeF ⟨m, Q, 1⟩).1, (ExP.writeF ⟨m, Q, 1⟩).2) := fun _ _ => rfl
  cases m with
  | false =>
    rw [if_neg (by simp), Nat.add_zero]
    refine enter env_ok Tryz.func38 rfl Tryz.results38 Tryz.ntmps38 [] [] [.agg [.str f1, .str f2]] (by simp [SV.oks, SV.ok]) (Nat.le_of_ble_eq_true rfl) w _ 1000 ?_
    repeat' (first | ((with_reducible first | show wpS _ _ _ _ | show putD _ _ _ _ | show putW _ _ _ _ | show splitG _ _ _ | show wpQ _ _ _ _ _ _ | show wpD _ _ _ _ _ _ _ | show wpX _ _ _ _ _ _ _ | show expX _ _ _ _ _ _ | show stepX _ _ _ _ | show keepR _ _ _ | show wpY _ _ _ _); conv => whnf) | ((with_reducible show RetN _ _ _); refine retB fun β => ?_) | ((with_reducible show _ ∧ _); first | (apply And.intro; (· intro h; exfalso; first | omega | (revert h; decide)); intro _) | (apply And.intro; rotate_left; (· intro h; exfalso; first | omega | (revert h; decide)); intro _) | (refine ⟨fun _ => ?_, fun _ => ?_⟩) | (apply And.intro; · kernel_rfl) | (apply And.intro; · (show inK _ _; unfold inK; omega)) | (apply And.intro; · (show (_ : Int) ≤ 9223372036854775807; (try simp only [List.length_append, List.length_drop, List.length_take, List.length_cons, List.length_nil]); omega))) | ((with_reducible show AllBe _); refine allBe fun βe => ?_; conv => whnf) | ((with_reducible show bothX _ _); refine bothI ?_ ?_; conv => whnf) | (with_reducible exact trivial) | ((with_reducible show CallN _ _ _ _ _ _ _ _); refine call_of env_ok rfl 1000 ?_) | ((with_reducible show XopN _ _ _ _ _ _); refine xop_of env_ok rfl 1000 ?_) | ((with_reducible show CallX _ _ _ _ _ _); first | (refine callFrE .u32 1000000000 ⟨false, n, d⟩ 0 hw0 (by kernel_rfl) rfl (fun β w' hm => R1 w' hm.below) (fun a1 c1 a2 c2 hcap => ?_)) | (refine callNat2 .u32 1000000000 q r hw0 (by kernel_rfl) rfl (fun β w' hm => DV a1 c1 a2 c2 w' hm.below (by first | exact hm.slF 2 rfl | exact hm.slF 3 rfl | exact hm.slF 4 rfl | exact hm.slF 5 rfl | exact hm.slF 6 rfl | exact hm.slF 7 rfl | exact hm.slF 8 rfl | exact hm.slF 9 rfl | exact hm.slF 10 rfl | exact hm.slF 11 rfl) (by first | exact hm.slF 2 rfl | exact hm.slF 3 rfl | exact hm.slF 4 rfl | exact hm.slF 5 rfl | exact hm.slF 6 rfl | exact hm.slF 7 rfl | exact hm.slF 8 rfl | exact hm.slF 9 rfl | exact hm.slF 10 rfl | exact hm.slF 11 rfl)) (fun u1 v1 u2 v2 k1 k2 k3 k4 k5 k6 => ?_)) | (refine callX (.tup [.agg [.str (ExP.writeF ⟨false, q, 1⟩).1, .str (ExP.writeF ⟨false, q, 1⟩).2], .int .i64 (ExP.writeE ⟨false, q, 1⟩)]) (by kernel_rfl) rfl (⟨⟨trivial, trivial, trivial⟩, trivial, trivial⟩) (fun β w hm => W1 false q u1 v1 g1 w hm.below (FrIn.of (by first | exact hm.slF 2 rfl | exact hm.slF 3 rfl | exact hm.slF 4 rfl | exact hm.slF 5 rfl | exact hm.slF 6 rfl | exact hm.slF 7 rfl | exact hm.slF 8 rfl | exact hm.slF 9 rfl | exact hm.slF 10 rfl | exact hm.slF 11 rfl) (by rw [hv1]; first | exact (hm.own 5 rfl).1 | exact (hm.own 6 rfl).1 | exact (hm.own 7 rfl).1) ⟨k1, (fun h => by cases h), k2, by dsimp only; omega⟩) (by omega) (by omega) (by omega)) ?_) | fail) | ((with_reducible show OpX _ _ _ _); first | (refine opx_build1 (sz := 1) rfl rfl rfl (xs := [.int .u32 1]) (fun β => rfl) rfl (by omega) (by omega) hu hsz hzv (fun g1 => ?_))) | ((with_reducible show ∃ _ : SV, _); first | fail) | ((with_reducible show ∃ _, _); first | fail))
    all_goals first | rfl | (exfalso; omega) | (exfalso; clear W1 DV PL R1; simp_all; done)
  | true =>
    by_cases hr : r = 0
    · have hrn : ExP.nd 1000000000 r = 0 := by rw [hr]; exact ExP.nd_zero _
      rw [if_neg (by simp [hr]), Nat.add_zero]
      refine enter env_ok Tryz.func38 rfl Tryz.results38 Tryz.ntmps38 [] [] [.agg [.str f1, .str f2]] (by simp [SV.oks, SV.ok]) (Nat.le_of_ble_eq_true rfl) w _ 1000 ?_
      repeat' (first | ((with_reducible first | show wpS _ _ _ _ | show putD _ _ _ _ | show putW _ _ _ _ | show splitG _ _ _ | show wpQ _ _ _ _ _ _ | show wpD _ _ _ _ _ _ _ | show wpX _ _ _ _ _ _ _ | show expX _ _ _ _ _ _ | show stepX _ _ _ _ | show keepR _ _ _ | show wpY _ _ _ _); conv => whnf) | ((with_reducible show RetN _ _ _); refine retB fun β => ?_) | ((with_reducible show _ ∧ _); first | (apply And.intro; (· intro h; exfalso; first | omega | (revert h; decide)); intro _) | (apply And.intro; rotate_left; (· intro h; exfalso; first | omega | (revert h; decide)); intro _) | (refine ⟨fun _ => ?_, fun _ => ?_⟩) | (apply And.intro; · kernel_rfl) | (apply And.intro; · (show inK _ _; unfold inK; omega)) | (apply And.intro; · (show (_ : Int) ≤ 9223372036854775807; (try simp only [List.length_append, List.length_drop, List.length_take, List.length_cons, List.length_nil]); omega))) | ((with_reducible show AllBe _); refine allBe fun βe => ?_; conv => whnf) | ((with_reducible show bothX _ _); refine bothI ?_ ?_; conv => whnf) | (with_reducible exact trivial) | ((with_reducible show CallN _ _ _ _ _ _ _ _); refine call_of env_ok rfl 1000 ?_) | ((with_reducible show XopN _ _ _ _ _ _); refine xop_of env_ok rfl 1000 ?_) | ((with_reducible show CallX _ _ _ _ _ _); first | (refine callFrE .u32 1000000000 ⟨true, n, d⟩ 0 hw0 (by kernel_rfl) rfl (fun β w' hm => R1 w' hm.below) (fun a1 c1 a2 c2 hcap => ?_)) | (refine callNat2 .u32 1000000000 q r hw0 (by kernel_rfl) rfl (fun β w' hm => DV a1 c1 a2 c2 w' hm.below (by first | exact hm.slF 2 rfl | exact hm.slF 3 rfl | exact hm.slF 4 rfl | exact hm.slF 5 rfl | exact hm.slF 6 rfl | exact hm.slF 7 rfl | exact hm.slF 8 rfl | exact hm.slF 9 rfl | exact hm.slF 10 rfl | exact hm.slF 11 rfl) (by first | exact hm.slF 2 rfl | exact hm.slF 3 rfl | exact hm.slF 4 rfl | exact hm.slF 5 rfl | exact hm.slF 6 rfl | exact hm.slF 7 rfl | exact hm.slF 8 rfl | exact hm.slF 9 rfl | exact hm.slF 10 rfl | exact hm.slF 11 rfl)) (fun u1 v1 u2 v2 k1 k2 k3 k4 k5 k6 => ?_)) | (refine callX (.prop (((ExP.nd 1000000000 r : Nat) : Int) = 0) inferInstance) (by kernel_rfl) rfl (trivial) (fun β w hm => hz u2 v2 w) ?_) | (refine callX (.tup [.agg [.str (ExP.writeF ⟨true, q, 1⟩).1, .str (ExP.writeF ⟨true, q, 1⟩).2], .int .i64 (ExP.writeE ⟨true, q, 1⟩)]) (by kernel_rfl) rfl (⟨⟨trivial, trivial, trivial⟩, trivial, trivial⟩) (fun β w hm => W1 true q u1 v1 g1 w hm.below (FrIn.of (by first | exact hm.slF 2 rfl | exact hm.slF 3 rfl | exact hm.slF 4 rfl | exact hm.slF 5 rfl | exact hm.slF 6 rfl | exact hm.slF 7 rfl | exact hm.slF 8 rfl | exact hm.slF 9 rfl | exact hm.slF 10 rfl | exact hm.slF 11 rfl) (by rw [hv1]; first | exact (hm.own 5 rfl).1 | exact (hm.own 6 rfl).1 | exact (hm.own 7 rfl).1) ⟨k1, (fun h => by cases h), k2, by dsimp only; omega⟩) (by omega) (by omega) (by omega)) ?_) | fail) | ((with_reducible show OpX _ _ _ _); first | (refine opx_build1 (sz := 1) rfl rfl rfl (xs := [.int .u32 1]) (fun β => rfl) rfl (by omega) (by omega) hu hsz hzv (fun g1 => ?_))) | ((with_reducible show ∃ _ : SV, _); first | fail) | ((with_reducible show ∃ _, _); first | fail))
      all_goals first | rfl | (exfalso; omega) | (exfalso; clear W1 DV PL R1; simp_all; done)
    · have hrn : ExP.nd 1000000000 r ≠ 0 := fun h => hr (Nat.eq_zero_of_not_pos fun hp => by have := hr0.2 hp; omega)
      rw [if_pos ⟨rfl, hr⟩]
      refine enter env_ok Tryz.func38 rfl Tryz.results38 Tryz.ntmps38 [] [] [.agg [.str f1, .str f2]] (by simp [SV.oks, SV.ok]) (Nat.le_of_ble_eq_true rfl) w _ 1000 ?_
      repeat' (first | ((with_reducible first | show wpS _ _ _ _ | show putD _ _ _ _ | show putW _ _ _ _ | show splitG _ _ _ | show wpQ _ _ _ _ _ _ | show wpD _ _ _ _ _ _ _ | show wpX _ _ _ _ _ _ _ | show expX _ _ _ _ _ _ | show stepX _ _ _ _ | show keepR _ _ _ | show wpY _ _ _ _); conv => whnf) | ((with_reducible show RetN _ _ _); refine retB fun β => ?_) | ((with_reducible show _ ∧ _); first | (apply And.intro; (· intro h; exfalso; first | omega | (revert h; decide)); intro _) | (apply And.intro; rotate_left; (· intro h; exfalso; first | omega | (revert h; decide)); intro _) | (refine ⟨fun _ => ?_, fun _ => ?_⟩) | (apply And.intro; · kernel_rfl) | (apply And.intro; · (show inK _ _; unfold inK; omega)) | (apply And.intro; · (show (_ : Int) ≤ 9223372036854775807; (try simp only [List.length_append, List.length_drop, List.length_take, List.length_cons, List.length_nil]); omega))) | ((with_reducible show AllBe _); refine allBe fun βe => ?_; conv => whnf) | ((with_reducible show bothX _ _); refine bothI ?_ ?_; conv => whnf) | (with_reducible exact trivial) | ((with_reducible show CallN _ _ _ _ _ _ _ _); refine call_of env_ok rfl 1000 ?_) | ((with_reducible show XopN _ _ _ _ _ _); refine xop_of env_ok rfl 1000 ?_) | ((with_reducible show CallX _ _ _ _ _ _); first | (refine callFrE .u32 1000000000 ⟨true, n, d⟩ 0 hw0 (by kernel_rfl) rfl (fun β w' hm => R1 w' hm.below) (fun a1 c1 a2 c2 hcap => ?_)) | (refine callNat2 .u32 1000000000 q r hw0 (by kernel_rfl) rfl (fun β w' hm => DV a1 c1 a2 c2 w' hm.below (by first | exact hm.slF 2 rfl | exact hm.slF 3 rfl | exact hm.slF 4 rfl | exact hm.slF 5 rfl | exact hm.slF 6 rfl | exact hm.slF 7 rfl | exact hm.slF 8 rfl | exact hm.slF 9 rfl | exact hm.slF 10 rfl | exact hm.slF 11 rfl) (by first | exact hm.slF 2 rfl | exact hm.slF 3 rfl | exact hm.slF 4 rfl | exact hm.slF 5 rfl | exact hm.slF 6 rfl | exact hm.slF 7 rfl | exact hm.slF 8 rfl | exact hm.slF 9 rfl | exact hm.slF 10 rfl | exact hm.slF 11 rfl)) (fun u1 v1 u2 v2 k1 k2 k3 k4 k5 k6 => ?_)) | (refine callX (.prop (((ExP.nd 1000000000 r : Nat) : Int) = 0) inferInstance) (by kernel_rfl) rfl (trivial) (fun β w hm => hz u2 v2 w) ?_) | (refine callNat .u32 1000000000 (q + 1) hw0 (by kernel_rfl) rfl (fun β w' hm => PL u1 v1 g0 w' (by first | exact hm.slF 2 rfl | exact hm.slF 3 rfl | exact hm.slF 4 rfl | exact hm.slF 5 rfl | exact hm.slF 6 rfl | exact hm.slF 7 rfl | exact hm.slF 8 rfl | exact hm.slF 9 rfl | exact hm.slF 10 rfl | exact hm.slF 11 rfl) (by first | exact (hm.own 5 rfl).1 | exact (hm.own 6 rfl).1 | exact (hm.own 7 rfl).1)) (fun u3 v3 k7 k8 k9 => ?_)) | (refine callX (.tup [.agg [.str (ExP.writeF ⟨true, q + 1, 1⟩).1, .str (ExP.writeF ⟨true, q + 1, 1⟩).2], .int .i64 (ExP.writeE ⟨true, q + 1, 1⟩)]) (by kernel_rfl) rfl (⟨⟨trivial, trivial, trivial⟩, trivial, trivial⟩) (fun β w hm => W1 true (q + 1) u3 v3 g0 w hm.below (FrIn.of (by first | exact hm.slF 2 rfl | exact hm.slF 3 rfl | exact hm.slF 4 rfl | exact hm.slF 5 rfl | exact hm.slF 6 rfl | exact hm.slF 7 rfl | exact hm.slF 8 rfl | exact hm.slF 9 rfl | exact hm.slF 10 rfl | exact hm.slF 11 rfl) (by rw [hv1]; first | exact (hm.own 7 rfl).1 | exact (hm.own 8 rfl).1 | exact (hm.own 9 rfl).1) ⟨k7, (fun h => by cases h), k8, by dsimp only; omega⟩) (by omega) (by omega) (by omega)) ?_) | fail) | ((with_reducible show OpX _ _ _ _); first | (refine opx_build1 (sz := 1) rfl rfl rfl (xs := [.int .u32 1]) (fun β => rfl) rfl (by omega) (by omega) hu hsz hzv (fun g0 => ?_))) | ((with_reducible show ∃ _ : SV, _); first | fail) | ((with_reducible show ∃ _, _); first | fail))
      all_goals first | rfl | (exfalso; omega) | (exfalso; clear W1 DV PL R1; simp_all; done)
end
theorem nv_empty (k : IntKind) (b : Nat) : nv k b 0 = [] := by
  have := nv_len k b 0
  rw [ExP.nd_zero] at this
  exact List.length_eq_zero_iff.1 this
theorem lz_1 {a : Option Addr} {k : IntKind} {b n : Nat} {w : World} (L : List (Option Addr)) : FreshX a (nv k b n) w ∨ a ∈ Lz n a L := by
  unfold Lz
  split
  · rename_i h; subst h; exact .inl (fun h => absurd (nv_empty k b) h)
  · exact .inr (List.mem_cons_self ..)
theorem lz_2 {a c : Option Addr} {k : IntKind} {b n d : Nat} {w : World} (L : List (Option Addr)) : FreshX c (nv k b d) w ∨ c ∈ Lz n a (Lz d c L) := by
  refine (lz_1 (w := w) (k := k) (b := b) (n := d) L).imp id fun h => ?_
  unfold Lz at *
  split
  · exact h
  · exact List.mem_cons_of_mem _ h
section
variable (x : FrV) (k : Int) (w : World) (hw0 : 0 < w.heap.size) (hk : k.natAbs ≤ 500000)
include hw0 hk
theorem scaled_fr (hx : FrIn .u32 1000000000 x w) (hxn : ExP.nd 1000000000 x.n ≤ 1000000) (hxd : ExP.nd 1000000000 x.d ≤ 1000000) :
    Calls Tryz.prog 85 #[x.val 1000000000, .int .i64 k] w (FrAny (Lz x.n x.a (Lz x.d x.b [])) .u32 1000000000 (ExP.scaleN x.num k) w) := by
  obtain ⟨m, n, d, a, c, b, e⟩ := x
  obtain ⟨hx1, hx2, ⟨hx3, hx4, hx5, hx6⟩⟩ := hx
  dsimp only [FrV.num, FrV.val] at *
  unfold ExP.scaleN
  split
  · rename_i h
    have h3 : k = -(k.natAbs : Int) := by omega
    generalize k.natAbs = j at *
    subst h3
    refine (scaled_neg m n d a c b e j w hw0 (by omega) hk hxd hx2).mono ?_
    rintro _ w' ⟨a', c', rfl, g1, g2, g3, g4, g5⟩
    exact ⟨⟨m, n, d * 10 ^ j, a, c, a', c'⟩, rfl, rfl, ⟨hx3, g3, hx5, g4⟩, Ls2L (hx1.below g5) (lz_1 _) g1 (.inl g2), g5⟩
  · rename_i h
    have h3 : k = (k.natAbs : Int) := by omega
    generalize k.natAbs = j at *
    subst h3
    refine (scaled_pos m n d a c b e j w hw0 hk hxn hx1).mono ?_
    rintro _ w' ⟨a', c', rfl, g1, g2, g3, g4, g5⟩
    exact ⟨⟨m, n * 10 ^ j, d, a', c', b, e⟩, rfl, rfl, ⟨g3, hx4, g4, hx6⟩, Ls2L g1 (.inl g2) (hx2.below g5) (lz_2 _), g5⟩
theorem rscaled_fr (hx : FrIn .i64 10 x w) (hxn : ExP.nd 10 x.n ≤ 1000000) (hxd : ExP.nd 10 x.d ≤ 1000000) :
    Calls Tryz.prog 34 #[x.val 10, .int .i64 k] w (FrAny (Lz x.n x.a (Lz x.d x.b [])) .i64 10 (ExP.scaleN x.num k) w) := by
  obtain ⟨m, n, d, a, c, b, e⟩ := x
  obtain ⟨hx1, hx2, ⟨hx3, hx4, hx5, hx6⟩⟩ := hx
  dsimp only [FrV.num, FrV.val] at *
  unfold ExP.scaleN
  split
  · rename_i h
    have h3 : k = -(k.natAbs : Int) := by omega
    generalize k.natAbs = j at *
    subst h3
    refine (rscaled_neg m n d a c b e j w hw0 (by omega) hk hxd hx2).mono ?_
    rintro _ w' ⟨a', c', rfl, g1, g2, g3, g4, g5⟩
    exact ⟨⟨m, n, d * 10 ^ j, a, c, a', c'⟩, rfl, rfl, ⟨hx3, g3, hx5, g4⟩, Ls2L (hx1.below g5) (lz_1 _) g1 (.inl g2), g5⟩
  · rename_i h
    have h3 : k = (k.natAbs : Int) := by omega
    generalize k.natAbs = j at *
    subst h3
    refine (rscaled_pos m n d a c b e j w hw0 hk hxn hx1).mono ?_
    rintro _ w' ⟨a', c', rfl, g1, g2, g3, g4, g5⟩
    exact ⟨⟨m, n * 10 ^ j, d, a', c', b, e⟩, rfl, rfl, ⟨g3, hx4, g4, hx6⟩, Ls2L g1 (.inl g2) (hx2.below g5) (lz_2 _), g5⟩
end
set_option maxRecDepth 100000 in
set_option maxHeartbeats 4000000 in
theorem rounded_any (x : FrV) (w : World) (hw0 : 0 < w.heap.size) (hx : FrIn .u32 1000000000 x w) (hd : 0 < x.d) (hxn : ExP.nd 1000000000 x.n ≤ 1000000) (hxd : ExP.nd 1000000000 x.d ≤ 1000000) :
    Calls Tryz.prog 86 #[x.val 1000000000] w (FrOut .u32 1000000000 (ExP.nearN x.num) w) := by
  obtain ⟨i0, hi, hz0, hz1, hz2⟩ := info_parts u32Info
  have hu := Tryz.underlying67
  have hsz := fun w => Tryz.sizeOf97 w
  have hzv := fun w => Tryz.zeroValue97 w
  have hn1 : ExP.nd 1000000000 1 = 1 := ExP.nd_one (by omega)
  have hv1 : nv .u32 1000000000 1 = [.int .u32 1] := nv_one (by omega)
  obtain ⟨m, n, d, a, c, b, e⟩ := x
  obtain ⟨hx1, hx2, ⟨hx3, hx4, hx5, hx6⟩⟩ := hx
  dsimp only [FrV.num, FrV.val, ExP.nearN] at *
  have P1 := fun (w' : World) (h : Below w.heap.size w w') => plus_any a a c c n n w' (by omega) (by omega) (hx1.below h) (hx1.below h)
  have P2 := fun (w' : World) (h : Below w.heap.size w w') => plus_any b b e e d d w' (by omega) (by omega) (hx2.below h) (hx2.below h)
  have m1 := ExP.nd_add (b := 1000000000) (m := 1000000) (by omega) hxn hxn
  have m2 := ExP.nd_add (b := 1000000000) (m := 1000000) (by omega) hxd hxd
  have m3 := ExP.nd_add (b := 1000000000) (m := 1000001) (x := n + n) (y := d) (by omega) m1 (by omega)
  have hD : 0 < d + d := by omega
  have P3 := fun a1 c1 (w' : World) (h : Below w.heap.size w w') h1 => plus_any a1 b c1 e (n + n) d w' (by omega) (by omega) h1 (hx2.below h)
  generalize n + n = S at *
  generalize S + d = T at *
  generalize d + d = D at *
  have DV := fun a1 c1 a2 c2 (w' : World) (h : Below w.heap.size w w') => divide_any a1 a2 c1 c2 T D w' (Nat.lt_of_lt_of_le hw0 h.size) (by omega) (by omega) hD
  generalize T / D = Q at *
  generalize T % D = R at *
  refine enter env_ok Tryz.func86 rfl Tryz.results86 Tryz.ntmps86 [] [200001] [.agg [.bool m, .any (.slice a (ExP.nd 1000000000 n) c), .any (.slice b (ExP.nd 1000000000 d) e)]] ⟨⟨trivial, rfl, rfl, trivial⟩, trivial⟩ (Nat.le_of_ble_eq_true rfl) w _ 1000 ?_
  repeat' (first | ((with_reducible first | show wpS _ _ _ _ | show putD _ _ _ _ | show putW _ _ _ _ | show splitG _ _ _ | show wpQ _ _ _ _ _ _ | show wpD _ _ _ _ _ _ _ | show wpX _ _ _ _ _ _ _ | show expX _ _ _ _ _ _ | show stepX _ _ _ _ | show keepR _ _ _ | show wpY _ _ _ _); conv => whnf) | ((with_reducible show RetN _ _ _); refine retB fun β => ?_) | ((with_reducible show _ ∧ _); first | (apply And.intro; (· intro h; exfalso; first | omega | (revert h; decide)); intro _) | (apply And.intro; rotate_left; (· intro h; exfalso; first | omega | (revert h; decide)); intro _) | (refine ⟨fun _ => ?_, fun _ => ?_⟩) | (apply And.intro; · kernel_rfl) | (apply And.intro; · (show inK _ _; unfold inK; omega)) | (apply And.intro; · (show (_ : Int) ≤ 9223372036854775807; (try simp only [List.length_append, List.length_drop, List.length_take, List.length_cons, List.length_nil]); omega))) | ((with_reducible show AllBe _); refine allBe fun βe => ?_; conv => whnf) | ((with_reducible show bothX _ _); refine bothI ?_ ?_; conv => whnf) | (with_reducible exact trivial) | ((with_reducible show CallN _ _ _ _ _ _ _ _); refine call_of env_ok rfl 1000 ?_) | ((with_reducible show XopN _ _ _ _ _ _); refine xop_of env_ok rfl 1000 ?_) | ((with_reducible show CallX _ _ _ _ _ _); first | (refine callNat .u32 1000000000 S hw0 (by kernel_rfl) rfl (fun β w' hm => P1 w' hm.below) (fun a1 c1 h1 h2 h3 => ?_)) | (refine callNat .u32 1000000000 D hw0 (by kernel_rfl) rfl (fun β w' hm => P2 w' hm.below) (fun a2 c2 h4 h5 h6 => ?_)) | (refine callNat .u32 1000000000 T hw0 (by kernel_rfl) rfl (fun β w' hm => P3 a1 c1 w' hm.below (by first | exact hm.slF 2 rfl | exact hm.slF 3 rfl | exact hm.slF 4 rfl | exact hm.slF 5 rfl | exact hm.slF 6 rfl | exact hm.slF 7 rfl | exact hm.slF 8 rfl | exact hm.slF 9 rfl | exact hm.slF 10 rfl | exact hm.slF 11 rfl)) (fun a3 c3 h7 h8 h9 => ?_)) | (refine callNat2 .u32 1000000000 Q R hw0 (by kernel_rfl) rfl (fun β w' hm => DV a3 c3 a2 c2 w' hm.below (by first | exact hm.slF 2 rfl | exact hm.slF 3 rfl | exact hm.slF 4 rfl | exact hm.slF 5 rfl | exact hm.slF 6 rfl | exact hm.slF 7 rfl | exact hm.slF 8 rfl | exact hm.slF 9 rfl | exact hm.slF 10 rfl | exact hm.slF 11 rfl) (by first | exact hm.slF 2 rfl | exact hm.slF 3 rfl | exact hm.slF 4 rfl | exact hm.slF 5 rfl | exact hm.slF 6 rfl | exact hm.slF 7 rfl | exact hm.slF 8 rfl | exact hm.slF 9 rfl | exact hm.slF 10 rfl | exact hm.slF 11 rfl)) (fun u1 v1 u2 v2 k1 k2 k3 k4 k5 k6 => ?_)) | fail) | ((with_reducible show OpX _ _ _ _); first | (refine opx_build1 (sz := 1) rfl rfl rfl (xs := [.int .u32 1]) (fun β => rfl) rfl (by omega) (by omega) hu hsz hzv (fun g1 => ?_))) | ((with_reducible show ∃ _ : SV, _); first | fail) | ((with_reducible show ∃ _, _); first | fail))
  all_goals first | (exfalso; omega) | skip
  all_goals refine ret fun β w' hm => ?_
  all_goals exact ⟨⟨m, Q, 1, u1, v1, some ⟨g1, 0, none⟩, 1⟩, by simp only [FrV.val, hn1]; rfl, rfl, ⟨k1, (fun h => by cases h), k2, by dsimp only; omega⟩, Ls2 (by first | exact hm.slF 5 rfl | exact hm.slF 6 rfl) (by first | exact hm.freshF 5 rfl rfl | exact hm.freshF 6 rfl rfl) (by dsimp only; rw [hv1]; exact (hm.own 7 rfl).1) (by dsimp only; rw [hv1]; exact fresh_own (hm.own 7 rfl).2.1 rfl), hm.below⟩
end Go.Proofs.YtfodbfbljeeojaaGreatDoor
namespace Go.Proofs.YtfodbfbljeeojaaGreatDoor
open Go.RowKit
open Sym
attribute [local irreducible] Calls Sym.AggEq ExP.nd ExP.dig ExP.upd ExP.writeF ExP.writeE
namespace ExP
theorem scale_nd {b : Nat} (hb : 10 ≤ b) {x : Num} {k : Int} {A K : Nat} (h1 : nd b x.n ≤ A) (h2 : nd b x.d ≤ A) (hk : k.natAbs ≤ K) (hd : 0 < x.d) : nd b (scaleN x k).n ≤ A + (K + 1) ∧ nd b (scaleN x k).d ≤ A + (K + 1) ∧ 0 < (scaleN x k).d ∧ (scaleN x k).m = x.m := by
  have ht := nd_ten (b := b) hb k.natAbs
  have hp : 0 < 10 ^ k.natAbs := Nat.pow_pos (by omega)
  unfold scaleN
  split
  · have := nd_mul (b := b) (x := x.d) (y := 10 ^ k.natAbs) (by omega)
    exact ⟨by dsimp only; omega, by dsimp only; omega, Nat.mul_pos hd hp, rfl⟩
  · have := nd_mul (b := b) (x := x.n) (y := 10 ^ k.natAbs) (by omega)
    exact ⟨by dsimp only; omega, by dsimp only; omega, hd, rfl⟩
theorem near_nd {b : Nat} (hb : 10 ≤ b) {x : Num} {A : Nat} (h1 : nd b x.n ≤ A) (h2 : nd b x.d ≤ A) : nd b (nearN x).n ≤ A + 2 := by
  have m1 := nd_add (b := b) (m := A) (by omega) h1 h1
  have m3 := nd_add (b := b) (m := A + 1) (x := x.n + x.n) (y := x.d) (by omega) m1 (by omega)
  exact Nat.le_trans (nd_mono (by omega) (Nat.div_le_self _ _)) m3
/-- rounded to places -/
def roundN (x : Num) (k : Int) : Num := scaleN (nearN (scaleN x k)) (-k)
end ExP
section
variable (f : ExP.Fr) (p : Int) (w : World) (hw : XW w) (hw0 : 0 < w.heap.size) (h1 : f.1.length ≤ 9223372036854775807) (h2 : f.2.length ≤ 9223372036854775807)
include hw0 h1 h2
set_option maxRecDepth 100000 in
set_option maxHeartbeats 4000000 in
theorem round_bad (hE : ExP.readE f ≠ 0) :
    Calls Tryz.prog 39 #[frV f, .int .i64 p] w (WrOut ([], []) (ExP.readE f) w) := by
  have R1 := fun (w' : World) (h : Below w.heap.size w w') => read_any f w' (Nat.lt_of_lt_of_le hw0 h.size) h1 h2
  rw [ExP.readV_bad rfl hE] at R1
  generalize ExP.readE f = E at *
  obtain ⟨f1, f2⟩ := f
  refine enter env_ok Tryz.func39 rfl Tryz.results39 Tryz.ntmps39 [] [] [.agg [.str f1, .str f2], .int .i64 p] (by simp [SV.oks, SV.ok]) (Nat.le_of_ble_eq_true rfl) w _ 1000 ?_
  repeat' (first | ((with_reducible first | show wpS _ _ _ _ | show putD _ _ _ _ | show putW _ _ _ _ | show splitG _ _ _ | show wpQ _ _ _ _ _ _ | show wpD _ _ _ _ _ _ _ | show wpX _ _ _ _ _ _ _ | show expX _ _ _ _ _ _ | show stepX _ _ _ _ | show keepR _ _ _ | show wpY _ _ _ _); conv => whnf) | ((with_reducible show RetN _ _ _); refine retB fun β => ?_) | ((with_reducible show _ ∧ _); first | (apply And.intro; (· intro h; exfalso; first | omega | (revert h; decide)); intro _) | (apply And.intro; rotate_left; (· intro h; exfalso; first | omega | (revert h; decide)); intro _) | (refine ⟨fun _ => ?_, fun _ => ?_⟩) | (apply And.intro; · kernel_rfl) | (apply And.intro; · (show inK _ _; unfold inK; omega)) | (apply And.intro; · (show (_ : Int) ≤ 9223372036854775807; (try simp only [List.length_append, List.length_drop, List.length_take, List.length_cons, List.length_nil]); omega))) | ((with_reducible show AllBe _); refine allBe fun βe => ?_; conv => whnf) | ((with_reducible show bothX _ _); refine bothI ?_ ?_; conv => whnf) | (with_reducible exact trivial) | ((with_reducible show CallN _ _ _ _ _ _ _ _); refine call_of env_ok rfl 1000 ?_) | ((with_reducible show XopN _ _ _ _ _ _); refine xop_of env_ok rfl 1000 ?_) | ((with_reducible show CallX _ _ _ _ _ _); first | (refine callFrE .u32 1000000000 ⟨false, 0, 0⟩ E hw0 (by kernel_rfl) rfl (fun β w' hm => R1 w' hm.below) (fun a1 c1 a2 c2 hcap => ?_))) | ((with_reducible show OpX _ _ _ _); first | fail) | ((with_reducible show ∃ _ : SV, _); first | fail) | ((with_reducible show ∃ _, _); first | fail))
  all_goals first | rfl | (exfalso; simp_all; done)
set_option maxRecDepth 100000 in
set_option maxHeartbeats 4000000 in
theorem floor_bad (hE : ExP.readE f ≠ 0) :
    Calls Tryz.prog 38 #[frV f] w (WrOut ([], []) (ExP.readE f) w) := by
  have R1 := fun (w' : World) (h : Below w.heap.size w w') => read_any f w' (Nat.lt_of_lt_of_le hw0 h.size) h1 h2
  rw [ExP.readV_bad rfl hE] at R1
  generalize ExP.readE f = E at *
  obtain ⟨f1, f2⟩ := f
  refine enter env_ok Tryz.func38 rfl Tryz.results38 Tryz.ntmps38 [] [] [.agg [.str f1, .str f2]] (by simp [SV.oks, SV.ok]) (Nat.le_of_ble_eq_true rfl) w _ 1000 ?_
  repeat' (first | ((with_reducible first | show wpS _ _ _ _ | show putD _ _ _ _ | show putW _ _ _ _ | show splitG _ _ _ | show wpQ _ _ _ _ _ _ | show wpD _ _ _ _ _ _ _ | show wpX _ _ _ _ _ _ _ | show expX _ _ _ _ _ _ | show stepX _ _ _ _ | show keepR _ _ _ | show wpY _ _ _ _); conv => whnf) | ((with_reducible show RetN _ _ _); refine retB fun β => ?_) | ((with_reducible show _ ∧ _); first | (apply And.intro; (· intro h; exfalso; first | omega | (revert h; decide)); intro _) | (apply And.intro; rotate_left; (· intro h; exfalso; first | omega | (revert h; decide)); intro _) | (refine ⟨fun _ => ?_, fun _ => ?_⟩) | (apply And.intro; · kernel_rfl) | (apply And.intro; · (show inK _ _; unfold inK; omega)) | (apply And.intro; · (show (_ : Int) ≤ 9223372036854775807; (try simp only [List.length_append, List.length_drop, List.length_take, List.length_cons, List.length_nil]); omega))) | ((with_reducible show AllBe _); refine allBe fun βe => ?_; conv => whnf) | ((with_reducible show bothX _ _); refine bothI ?_ ?_; conv => whnf) | (with_reducible exact trivial) | ((with_reducible show CallN _ _ _ _ _ _ _ _); refine call_of env_ok rfl 1000 ?_) | ((with_reducible show XopN _ _ _ _ _ _); refine xop_of env_ok rfl 1000 ?_) | ((with_reducible show CallX _ _ _ _ _ _); first | (refine callFrE .u32 1000000000 ⟨false, 0, 0⟩ E hw0 (by kernel_rfl) rfl (fun β w' hm => R1 w' hm.below) (fun a1 c1 a2 c2 hcap => ?_))) | ((with_reducible show OpX _ _ _ _); first | fail) | ((with_reducible show ∃ _ : SV, _); first | fail) | ((with_reducible show ∃ _, _); first | fail))
  all_goals first | rfl | (exfalso; simp_all; done)
set_option maxRecDepth 100000 in
set_option maxHeartbeats 4000000 in
theorem round_far (hE : ExP.readE f = 0) (hp : p < -100 ∨ 100 < p) :
    Calls Tryz.prog 39 #[frV f, .int .i64 p] w (WrOut ([], []) 2 w) := by
  have R1 := fun (w' : World) (h : Below w.heap.size w w') => read_any f w' (Nat.lt_of_lt_of_le hw0 h.size) h1 h2
  rw [ExP.readV_ok hE, hE] at R1
  generalize ExP.readN f = V at *
  obtain ⟨m, n, d⟩ := V
  obtain ⟨f1, f2⟩ := f
  refine enter env_ok Tryz.func39 rfl Tryz.results39 Tryz.ntmps39 [] [] [.agg [.str f1, .str f2], .int .i64 p] (by simp [SV.oks, SV.ok]) (Nat.le_of_ble_eq_true rfl) w _ 1000 ?_
  repeat' (first | ((with_reducible first | show wpS _ _ _ _ | show putD _ _ _ _ | show putW _ _ _ _ | show splitG _ _ _ | show wpQ _ _ _ _ _ _ | show wpD _ _ _ _ _ _ _ | show wpX _ _ _ _ _ _ _ | show expX _ _ _ _ _ _ | show stepX _ _ _ _ | show keepR _ _ _ | show wpY _ _ _ _); conv => whnf) | ((with_reducible show RetN _ _ _); refine retB fun β => ?_) | ((with_reducible show _ ∧ _); first | (apply And.intro; (· intro h; exfalso; first | omega | (revert h; decide)); intro _) | (apply And.intro; rotate_left; (· intro h; exfalso; first | omega | (revert h; decide)); intro _) | (refine ⟨fun _ => ?_, fun _ => ?_⟩) | (apply And.intro; · kernel_rfl) | (apply And.intro; · (show inK _ _; unfold inK; omega)) | (apply And.intro; · (show (_ : Int) ≤ 9223372036854775807; (try simp only [List.length_append, List.length_drop, List.length_take, List.length_cons, List.length_nil]); omega))) | ((with_reducible show AllBe _); refine allBe fun βe => ?_; conv => whnf) | ((with_reducible show bothX _ _); refine bothI ?_ ?_; conv => whnf) | (with_reducible exact trivial) | ((with_reducible show CallN _ _ _ _ _ _ _ _); refine call_of env_ok rfl 1000 ?_) | ((with_reducible show XopN _ _ _ _ _ _); refine xop_of env_ok rfl 1000 ?_) | ((with_reducible show CallX _ _ _ _ _ _); first | (refine callFrE .u32 1000000000 ⟨m, n, d⟩ 0 hw0 (by kernel_rfl) rfl (fun β w' hm => R1 w' hm.below) (fun a1 c1 a2 c2 hcap => ?_))) | ((with_reducible show OpX _ _ _ _); first | fail) | ((with_reducible show ∃ _ : SV, _); first | fail) | ((with_reducible show ∃ _, _); first | fail))
  all_goals first | rfl | (exfalso; omega) | (exfalso; simp_all; done)
include hw
set_option maxRecDepth 100000 in
set_option maxHeartbeats 4000000 in
theorem round_ok (hE : ExP.readE f = 0) (hp : -100 ≤ p ∧ p ≤ 100) :
    Calls Tryz.prog 39 #[frV f, .int .i64 p] w (WrOut (ExP.writeF (ExP.roundN (ExP.readN f) p)) (ExP.writeE (ExP.roundN (ExP.readN f) p)) w) := by
  have R1 := fun (w' : World) (h : Below w.heap.size w w') => read_any f w' (Nat.lt_of_lt_of_le hw0 h.size) h1 h2
  obtain ⟨q1, q2, q3⟩ := ExP.read_nd hE (b := 1000000000) (by omega)
  rw [ExP.readV_ok hE, hE] at R1
  unfold ExP.roundN
  have W1 := fun (x : FrV) (w' : World) (h : Below w.heap.size w w') => write_any x w' (hw.below h) (Nat.lt_of_lt_of_le hw0 h.size)
  generalize ExP.readN f = V at *
  have hpk : p.natAbs ≤ 100 := by omega
  obtain ⟨b1, b2, b3, b4⟩ := ExP.scale_nd (b := 1000000000) (by omega) q1 q2 hpk q3
  have b5 := ExP.near_nd (b := 1000000000) (by omega) b1 b2
  have b6 : ExP.nd 1000000000 (ExP.nearN (ExP.scaleN V p)).d ≤ 300 + (100 + 1) + 2 := by show ExP.nd 1000000000 1 ≤ _; rw [ExP.nd_one (by omega)]; omega
  have b7 : 0 < (ExP.nearN (ExP.scaleN V p)).d := Nat.one_pos
  have hnk : (-p).natAbs ≤ 100 := by omega
  obtain ⟨b8, b9, b10, b11⟩ := ExP.scale_nd (b := 1000000000) (by omega) b5 b6 hnk b7
  have S1 := fun a1 c1 a2 c2 (w' : World) (h : Below w.heap.size w w') hx => scaled_fr ⟨V.m, V.n, V.d, a1, c1, a2, c2⟩ p w' (Nat.lt_of_lt_of_le hw0 h.size) (by omega) hx (by dsimp only; omega) (by dsimp only; omega)
  have S3 := fun a1 c1 a2 c2 (w' : World) (h : Below w.heap.size w w') hx => scaled_fr ⟨(ExP.nearN (ExP.scaleN V p)).m, (ExP.nearN (ExP.scaleN V p)).n, (ExP.nearN (ExP.scaleN V p)).d, a1, c1, a2, c2⟩ (0 - p) w' (Nat.lt_of_lt_of_le hw0 h.size) (by omega) hx (by dsimp only; omega) (by dsimp only; omega)
  have eta : ∀ X : ExP.Num, (⟨X.m, X.n, X.d⟩ : ExP.Num) = X := fun _ => rfl
  dsimp only [FrV.num, FrV.val] at S1 S3
  simp only [eta, Int.zero_sub] at S1 S3
  have S2 := fun a1 c1 a2 c2 (w' : World) (h : Below w.heap.size w w') hx => rounded_any ⟨(ExP.scaleN V p).m, (ExP.scaleN V p).n, (ExP.scaleN V p).d, a1, c1, a2, c2⟩ w' (Nat.lt_of_lt_of_le hw0 h.size) hx b3 (by dsimp only; omega) (by dsimp only; omega)
  dsimp only [FrV.num, FrV.val] at S2
  simp only [eta] at S2
  generalize ExP.scaleN (ExP.nearN (ExP.scaleN V p)) (-p) = X3 at *
  generalize ExP.nearN (ExP.scaleN V p) = X2 at *
  generalize ExP.scaleN V p = X1 at *
  obtain ⟨m, n, d⟩ := V
  obtain ⟨m1, n1, d1⟩ := X1
  obtain ⟨m2, n2, d2⟩ := X2
  obtain ⟨m3, n3, d3⟩ := X3
  dsimp only at *
  simp only [← Int.zero_sub p] at S3
  obtain ⟨f1, f2⟩ := f
  refine enter env_ok Tryz.func39 rfl Tryz.results39 Tryz.ntmps39 [] [] [.agg [.str f1, .str f2], .int .i64 p] (by simp [SV.oks, SV.ok]) (Nat.le_of_ble_eq_true rfl) w _ 1000 ?_
  repeat' (first | ((with_reducible first | show wpS _ _ _ _ | show putD _ _ _ _ | show putW _ _ _ _ | show splitG _ _ _ | show wpQ _ _ _ _ _ _ | show wpD _ _ _ _ _ _ _ | show wpX _ _ _ _ _ _ _ | show expX _ _ _ _ _ _ | show stepX _ _ _ _ | show keepR _ _ _ | show wpY _ _ _ _); conv => whnf) | ((with_reducible show RetN _ _ _); refine retB fun β => ?_) | ((with_reducible show _ ∧ _); first | (apply And.intro; (· intro h; exfalso; first | omega | (revert h; decide)); intro _) | (apply And.intro; rotate_left; (· intro h; exfalso; first | omega | (revert h; decide)); intro _) | (refine ⟨fun _ => ?_, fun _ => ?_⟩) | (apply And.intro; · kernel_rfl) | (apply And.intro; · (show inK _ _; unfold inK; omega)) | (apply And.intro; · (show (_ : Int) ≤ 9223372036854775807; (try simp only [List.length_append, List.length_drop, List.length_take, List.length_cons, List.length_nil]); omega))) | ((with_reducible show AllBe _); refine allBe fun βe => ?_; conv => whnf) | ((with_reducible show bothX _ _); refine bothI ?_ ?_; conv => whnf) | (with_reducible exact trivial) | ((with_reducible show CallN _ _ _ _ _ _ _ _); refine call_of env_ok rfl 1000 ?_) | ((with_reducible show XopN _ _ _ _ _ _); refine xop_of env_ok rfl 1000 ?_) | ((with_reducible show CallX _ _ _ _ _ _); first | (refine callFrE .u32 1000000000 ⟨m, n, d⟩ 0 hw0 (by kernel_rfl) rfl (fun β w' hm => R1 w' hm.below) (fun a1 c1 a2 c2 hc1 => ?_)) | (refine callFrL (Lz n a1 (Lz d a2 [])) .u32 1000000000 ⟨m1, n1, d1⟩ hw0 (by kernel_rfl) rfl (apart_row 2 (Nat.le_of_ble_eq_true rfl) rfl (apart_row 3 (Nat.le_of_ble_eq_true rfl) rfl apart_nil)) (fun β w' hm => S1 a1 c1 a2 c2 w' hm.below (FrIn.of (hm.slF 2 rfl) (hm.slF 3 rfl) hc1)) (fun a3 c3 a4 c4 hc2 => ?_)) | (refine callFr .u32 1000000000 ⟨m2, n2, d2⟩ hw0 (by kernel_rfl) rfl (fun β w' hm => S2 a3 c3 a4 c4 w' hm.below (FrIn.of (hm.slB 5 rfl) (hm.slB 6 rfl) hc2)) (fun a5 c5 a6 c6 hc3 => ?_)) | (refine callFrL (Lz n2 a5 (Lz d2 a6 [])) .u32 1000000000 ⟨m3, n3, d3⟩ hw0 (by kernel_rfl) rfl (apart_row 7 (Nat.le_of_ble_eq_true rfl) rfl (apart_row 8 (Nat.le_of_ble_eq_true rfl) rfl apart_nil)) (fun β w' hm => S3 a5 c5 a6 c6 w' hm.below (FrIn.of (hm.slF 7 rfl) (hm.slF 8 rfl) hc3)) (fun a7 c7 a8 c8 hc4 => ?_)) | (refine callX (.tup [.agg [.str (ExP.writeF ⟨m3, n3, d3⟩).1, .str (ExP.writeF ⟨m3, n3, d3⟩).2], .int .i64 (ExP.writeE ⟨m3, n3, d3⟩)]) (by kernel_rfl) rfl (⟨⟨trivial, trivial, trivial⟩, trivial, trivial⟩) (fun β w hm => W1 ⟨m3, n3, d3, a7, c7, a8, c8⟩ w hm.below (FrIn.of (hm.slB 9 rfl) (hm.slB 10 rfl) hc4) b10 (by dsimp only; omega) (by dsimp only; omega)) ?_) | fail) | ((with_reducible show OpX _ _ _ _); first | fail) | ((with_reducible show ∃ _ : SV, _); first | fail) | ((with_reducible show ∃ _, _); first | fail))
  all_goals first | rfl | (exfalso; omega) | skip
end
end Go.Proofs.YtfodbfbljeeojaaGreatDoor
namespace Go.Proofs.YtfodbfbljeeojaaGreatDoor
open Go.RowKit
namespace Sym
open ExP (nd)
theorem Sat.learnC {base : Nat} {w0 : Base} {act : Act} {w w' : World} {fr : List (Nat × SV)} {n nx : Nat} {rows : List (Nat × Bool × SRow)} {β : Nat → Nat} {a : Option Addr} {xs : List Value} (h0 : 0 < base) (hb : base ≤ w.heap.size) (hb' : w.heap.size ≤ w'.heap.size)
    (hs : Sat base w0 ⟨fr, rows, nx, n⟩ β act w') (ho : ∀ i r, get rows i = some (true, r) → base ≤ β i ∧ β i < w.heap.size) (hsl : SlAt a xs w') (hf : FreshX a xs w ∨ ∀ ad, a = some ad → base ≤ ad.block ∧ ∀ i r, get rows i = some (true, r) → β i ≠ ad.block) :
    ∃ q, Sat base w0 ⟨fr, (nx, false, .blob (SlF base a xs)) :: rows, nx + 1, n⟩ (fun i => if i = nx then q else β i) act w' := by
  have hex : ∃ q, q < w'.heap.size ∧ SlF base a xs q w'.heap[q]? ∧ ∀ i r, get rows i = some (true, r) → β i ≠ q := by
    cases xs with
    | nil => exact ⟨0, by omega, ⟨fun _ _ i v hi => by simp at hi, fun h => absurd rfl h⟩, fun i r hi => by have := (ho i r hi).1; omega⟩
    | cons y r =>
      obtain ⟨ad, e, h1, _⟩ := hsl 0 y rfl
      refine ⟨ad.block, h1, ⟨fun W hW i v hi => ?_, fun _ => ?_⟩, fun i r hi => ?_⟩
      · obtain ⟨ad', e', h2, h3⟩ := hsl i v hi
        rw [e] at e'
        cases e'
        exact ⟨ad, e, rfl, by rw [World.cell?_of_block (w := w') (by rw [add_block]; exact hW)]; exact h3⟩
      · rcases hf with hf | hf
        · have := hf (by simp) ad e
          omega
        · exact (hf ad e).1
      · rcases hf with hf | hf
        · have := hf (by simp) ad e
          have := (ho i r hi).2
          omega
        · exact (hf ad e).2 i r hi
  obtain ⟨q, h2, h3, h4⟩ := hex
  exact ⟨q, hs.learn (o := false) h2 h3 (fun e => by cases e) h4⟩
def NewL (C : Ctx) (L : List (Option Addr)) (rows : List (Nat × Bool × SRow)) (nx : Nat) : Prop := ∀ β w, Mem C.base C.w0 rows nx β w → ∀ ad, some ad ∈ L → C.base ≤ ad.block ∧ ∀ i r, get rows i = some (true, r) → β i ≠ ad.block
theorem new_nil {C : Ctx} {rows : List (Nat × Bool × SRow)} {nx : Nat} : NewL C [] rows nx := fun _ _ _ _ h => by cases h
theorem new_row {C : Ctx} {L : List (Option Addr)} {rows : List (Nat × Bool × SRow)} {nx : Nat} {a : Option Addr} {k : IntKind} {b x : Nat} (j : Nat) (hb : 2 ≤ b) (hj : get rows j = some (false, .blob (SlF C.base a (nv k b x)))) (h : NewL C L rows nx) : NewL C (Lz x a L) rows nx := by
  intro β w hm ad hL
  refine ⟨?_, fun i r hi => apart_row j hb hj (fun β w hm ad hL i r hi => (h β w hm ad hL).2 i r hi) β w hm ad hL i r hi⟩
  unfold Lz at hL
  split at hL
  · exact (h β w hm ad hL).1
  rename_i hx
  rcases List.mem_cons.1 hL with e | hL
  · subst e
    obtain ⟨-, hB, hF⟩ := (hm.row j _ _ hj).1
    have hne : nv k b x ≠ [] := fun h0 => by
      have h1 := nv_len k b x
      have h2 := (ExP.nd_pos (b := b) (x := x) hb).2 (Nat.pos_of_ne_zero hx)
      rw [h0] at h1
      simp at h1
      omega
    obtain ⟨ad', e1, e2, -⟩ := hB w rfl 0 _ (nv_get ((ExP.nd_pos hb).2 (Nat.pos_of_ne_zero hx)))
    cases e1
    rw [e2]
    exact hF hne
  · exact (h β w hm ad hL).1
end Sym
open Sym
theorem callFrN {C : Ctx} {d : Nat} {f : FuncId} {args : List SV} {fr : List (Nat × SV)} {rows : List (Nat × Bool × SRow)} {nx n : Nat} {K : St → Prop} (L : List (Option Addr)) (k : IntKind) (b : Nat) (x : ExP.Num) (h0 : 0 < C.base)
    (he : entersB C.P f = true) (hd : Nat.blt d n = true) (hL : NewL C L rows nx) (hc : ∀ β w, Mem C.base C.w0 rows nx β w → Calls C.P f (SV.dens β args).toArray w (FrAny L k b x w))
    (h : ∀ a c a2 c2, FrCap b ⟨x.m, x.n, x.d, a, c, a2, c2⟩ → K ⟨(d, .agg [.bool x.m, .any (.slice a (ExP.nd b x.n) c), .any (.slice a2 (ExP.nd b x.d) c2)]) :: fr, (nx + 1, false, .blob (SlF C.base a2 (nv k b x.d))) :: (nx, false, .blob (SlF C.base a (nv k b x.n))) :: rows, nx + 2, n⟩) : CallX C (some d) f args ⟨fr, rows, nx, n⟩ K := by
  unfold CallX
  refine ⟨he, fun β act w hs => (hc β w hs.mem).mono ?_⟩
  rintro e w' ⟨⟨m, tn, td, a, c, a2, c2⟩, rfl, rfl, hcap, hl, hb⟩
  have hm := hs.mem
  have hs' : Sat C.base C.w0 ⟨fr, rows, nx, n⟩ β act w' := ⟨hs.defers, hs.size, hs.slot, hm.belowNext hb⟩
  have hbl := hm.base_le
  have ho : ∀ i r, get rows i = some (true, r) → C.base ≤ β i ∧ β i < w.heap.size := fun i r hi => ⟨(hm.row i true r hi).2.2.2 rfl, hm.lt i (hm.row i true r hi).2.2.1⟩
  have hlt : ∀ i o q, get rows i = some (o, q) → i < nx := fun i o q hi => (hm.row i o q hi).2.2.1
  obtain ⟨g1, g2⟩ := hl (a, nv k b tn) (by simp [FrV.L])
  obtain ⟨g3, g4⟩ := hl (a2, nv k b td) (by simp [FrV.L])
  obtain ⟨p1, k1⟩ := hs'.learnC h0 hbl hb.size ho g1 (g2.imp id (fun hi ad e => hL β w hm ad (by rw [← e]; exact hi)))
  have ho2 : ∀ i r, get ((nx, false, SRow.blob (SlF C.base a (nv k b tn))) :: rows) i = some (true, r) → get rows i = some (true, r) ∧ i < nx := fun i r hi => by
    rw [get_cons] at hi
    by_cases e0 : nx = i
    · rw [if_pos e0] at hi; cases hi
    · rw [if_neg e0] at hi; exact ⟨hi, hlt _ _ _ hi⟩
  obtain ⟨p2, k2⟩ := k1.learnC (w := w) h0 hbl hb.size (fun i r hi => by
    obtain ⟨hi, hin⟩ := ho2 i r hi
    rw [if_neg (by omega)]; exact ho i r hi) g3 (g4.imp id (fun hi ad e => ⟨(hL β w hm ad (by rw [← e]; exact hi)).1, fun i r hr => by
    obtain ⟨hr, hrn⟩ := ho2 i r hr
    rw [if_neg (by omega)]
    exact (hL β w hm ad (by rw [← e]; exact hi)).2 i r hr⟩))
  have hs3 := k2.put (d := d) (by simpa [Nat.blt_eq] using hd) (v := .agg [.bool m, .any (.slice a (ExP.nd b tn) c), .any (.slice a2 (ExP.nd b td) c2)]) ⟨trivial, rfl, rfl, trivial⟩
  exact ⟨_, _, _, rfl, h a c a2 c2 hcap, hs3⟩
end Go.Proofs.YtfodbfbljeeojaaGreatDoor
