/- References: the walk of Check. -/
import Derived.Test.YtmodjglbjempkaaGreatDoorHRfW7
import Derived.Test.YtmodjglbjempkaaGreatDoorHMa
import Derived.Deep.RegionWith
set_option linter.unusedSimpArgs false
set_option linter.unusedVariables false
namespace Go.Proofs.YtmodjglbjempkaaGreatDoor
open Go.RowKit
theorem perm_permP (n : Int) : perm n = RfP.permP n := rfl
set_option maxRecDepth 100000 in
theorem flatRef : Flat Tryz.prog (Tryz.prog.fieldsOf 35).toList [.str, .int .i64, .int .i64, .int .i64, .int .i64, .int .i64, .bool, .bool, .bool, .bool] 0 :=
  flat_of _ _ _ (by kernel_rfl)
set_option maxRecDepth 100000 in
theorem ref_agg (x y : Array Value) (w : World) (hx : x.toList.map ckOf = [CK.str, .int .i64, .int .i64, .int .i64, .int .i64, .int .i64, .bool, .bool, .bool, .bool].map some) (hy : y.toList.map ckOf = [CK.str, .int .i64, .int .i64, .int .i64, .int .i64, .int .i64, .bool, .bool, .bool, .bool].map some) : (Op.equalIn 10000 35 (.agg x) (.agg y)).run Tryz.prog w = .ok (ceqs x.toList y.toList) w :=
  agg_eq w 35 _ _ _ (by kernel_rfl) (by kernel_rfl) flatRef hx hy
theorem ref_eq (x y : RfP.Ref) (w : World) : (Op.equalIn 10000 35 (.agg (refC x)) (.agg (refC y))).run Tryz.prog w = .ok (RfP.eqR x y) w := by
  rw [ref_agg _ _ w rfl rfl]
  simp [refC, ceqs, ceq, RfP.eqR, bstr_list]
set_option maxRecDepth 100000 in
set_option maxHeartbeats 2000000 in
theorem Check_pre (x : RfP.Ref) (w : World) (hk : 0 ≤ x.k) (hk4 : x.k ≤ 4) (hn : RfP.nameP x.sh = 0) : Calls Tryz.prog 57 #[.agg (refC x)] w fun e w' => e = .returned (.int .i64 (RfP.checkP x)) ∧ Below w.heap.size w w' := by
  have hm := meaning_any x
  have HE := Bx.mk (RfP.eqR_meaning x)
  have hne := ref_eq x (RfP.meaningP x)
  rw [HE.out] at hne
  clear HE
  generalize RfP.meaningP x = y at hm hne
  obtain ⟨sh', k', r', c', r2', c2', ar', ac', ar2', ac2'⟩ := y
  have H := Bx.mk (show RfP.checkP x = if x.k < 0 ∨ 4 < x.k then 8 else if RfP.nameP x.sh ≠ 0 then RfP.nameP x.sh else if RfP.formP x = false then 4 else if (RfP.permP x.r && (RfP.permP x.c && (RfP.permP x.r2 && RfP.permP x.c2))) = false then 2 else if x.k ≠ 0 ∧ (x.r2 < x.r ∨ x.c2 < x.c) then 5 else 0 from rfl)
  generalize RfP.formP x = fo at *
  have hm2 := Bx.mk hm; clear hm
  have HN := Bx.mk hn; clear hn
  obtain ⟨sh, k, r, c, r2, c2, ar, ac, ar2, ac2⟩ := x
  unfold refC at *
  dsimp only at *
  go_enter Tryz.func57, Tryz.ntmps57
  go_upto_region 6 with (first | (go_at_call 109; refine (name_any _ _).mono ?_; rw [HN.out]; rintro e w' ⟨rfl, rfl⟩))
  obtain ⟨wa, hwa⟩ : ∃ wa : World, w.alloc (Obj.cells #[Value.string (bstr sh), Value.int IntKind.i64 k, Value.int IntKind.i64 r, Value.int IntKind.i64 c, Value.int IntKind.i64 r2, Value.int IntKind.i64 c2, Value.bool ar, Value.bool ac, Value.bool ar2, Value.bool ac2] 35) = wa := ⟨_, rfl⟩
  have hR : Row wa w.heap.size 35 #[Value.string (bstr sh), Value.int IntKind.i64 k, Value.int IntKind.i64 r, Value.int IntKind.i64 c, Value.int IntKind.i64 r2, Value.int IntKind.i64 c2, Value.bool ar, Value.bool ac, Value.bool ar2, Value.bool ac2] := by rw [← hwa]; exact Row.new _ _ _
  have hB : Below w.heap.size w wa := by rw [← hwa]; exact (Below.refl _ _).alloc (Nat.le_refl _) _
  rw [hwa]
  clear hwa
  have HR := Bx.mk hR; clear hR
  have HB := Bx.mk hB; clear hB
  go_cut [21] (fun v wx => v = .bool (!fo) ∧ Row wx w.heap.size 35 #[Value.string (bstr sh), Value.int IntKind.i64 k, Value.int IntKind.i64 r, Value.int IntKind.i64 c, Value.int IntKind.i64 r2, Value.int IntKind.i64 c2, Value.bool ar, Value.bool ac, Value.bool ar2, Value.bool ac2] ∧ Below w.heap.size w wx)
  case first =>
    have hlt := HR.out.lt
    have hc0 := fun o => HR.out.cell o
    go_region_with (go_at_call 100; refine (hm2.out _).mono ?_; rintro e w' ⟨rfl, hb⟩; have hc := fun o => hb.cell (p := ⟨w.heap.size, o, none⟩) hlt)
    all_goals
      go_wp2
      go_meet
      exact ⟨rfl, HR.out.drew.below hb hlt, HB.out.drew.trans (hb.mono HB.out.size)⟩
  case rest =>
    clear HR HB
    obtain ⟨rfl, hr, hb⟩ := hcut
    have HB := Bx.mk hb; clear hb
    have hc0 := fun o => hr.cell o
    clear hr
    apply_assumption
    cases fo with
    | false =>
      have HX := Bx.mk (show RfP.checkP ⟨sh, k, r, c, r2, c2, ar, ac, ar2, ac2⟩ = 4 by rw [H.out, if_neg (by omega), if_neg (by rw [HN.out]; simp), if_pos rfl])
      go_wp2
      go_ret
      exact ⟨by rw [HX.out]; rfl, HB.out⟩
    | true =>
      have HX := Bx.mk (show RfP.checkP ⟨sh, k, r, c, r2, c2, ar, ac, ar2, ac2⟩ = if (RfP.permP r && (RfP.permP c && (RfP.permP r2 && RfP.permP c2))) = false then 2 else if k ≠ 0 ∧ (r2 < r ∨ c2 < c) then 5 else 0 by rw [H.out, if_neg (by omega), if_neg (by rw [HN.out]; simp), if_neg (by simp)])
      clear H HN
      go_wp2_with (first | (go_at_call 102; refine (permitted_any _ _).mono ?_; rw [perm_permP]; rintro e w' ⟨rfl, rfl⟩))
      all_goals
        go_ret
        refine ⟨?_, HB.out⟩
        rw [HX.out]
        clear HX hm2 hne hc0
        first
          | (simp [*]; done)
          | (have h2 : (!RfP.permP c2) = true := by assumption
             have h3 : RfP.permP c2 = false := by simpa using h2
             simp [*]; done)
          | (simp_all; done)
theorem Check_kind (x : RfP.Ref) (w : World) (hk : x.k < 0 ∨ 4 < x.k) : Calls Tryz.prog 57 #[.agg (refC x)] w fun e w' => e = .returned (.int .i64 (RfP.checkP x)) ∧ Below w.heap.size w w' := by
  have H := Bx.mk (show RfP.checkP x = 8 by unfold RfP.checkP; rw [if_pos hk])
  obtain ⟨sh, k, r, c, r2, c2, ar, ac, ar2, ac2⟩ := x
  unfold refC
  dsimp only at *
  go_enter Tryz.func57, Tryz.ntmps57
  go_wp2
  all_goals
    go_ret
    exact ⟨by rw [H.out]; rfl, (Below.refl _ _).alloc (Nat.le_refl _) _⟩
theorem Check_name (x : RfP.Ref) (w : World) (hk : 0 ≤ x.k) (hk4 : x.k ≤ 4) (hn : (RfP.nameP x.sh != 0) = true) : Calls Tryz.prog 57 #[.agg (refC x)] w fun e w' => e = .returned (.int .i64 (RfP.checkP x)) ∧ Below w.heap.size w w' := by
  have H := Bx.mk (show RfP.checkP x = RfP.nameP x.sh by unfold RfP.checkP; rw [if_neg (by omega), if_pos (by simpa using hn)])
  obtain ⟨sh, k, r, c, r2, c2, ar, ac, ar2, ac2⟩ := x
  unfold refC
  dsimp only at *
  go_enter Tryz.func57, Tryz.ntmps57
  go_wp2_with (first | (go_at_call 109; refine (name_any _ _).mono ?_; rintro e w' ⟨rfl, rfl⟩))
  go_ret
  exact ⟨by rw [H.out]; rfl, (Below.refl _ _).alloc (Nat.le_refl _) _⟩
theorem Check_any (x : RfP.Ref) (w : World) : Calls Tryz.prog 57 #[.agg (refC x)] w fun e w' => e = .returned (.int .i64 (RfP.checkP x)) ∧ Below w.heap.size w w' := by
  by_cases hk : x.k < 0 ∨ 4 < x.k
  · exact Check_kind x w hk
  · by_cases hn : RfP.nameP x.sh = 0
    · exact Check_pre x w (by omega) (by omega) hn
    · exact Check_name x w (by omega) (by omega) (by simpa using hn)
end Go.Proofs.YtmodjglbjempkaaGreatDoor
