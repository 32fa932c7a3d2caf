/- Decimal numbers read: the program's run, exponent, ten. -/
import Derived.Test.YtfodbfbljeeojaaGreatDoorEGV
import Derived.Test.YtfodbfbljeeojaaGreatDoorEGP
import Derived.Test.YtfodbfbljeeojaaGreatDoorEGO
set_option linter.unusedSimpArgs false
set_option linter.unusedVariables false
namespace Go.Proofs.YtfodbfbljeeojaaGreatDoor
open Go.RowKit
open Sym
attribute [local irreducible] Calls Sym.AggEq ExP.nd ExP.dig ExP.upd
theorem trimLeft_any (s : List UInt8) (w : World) : Calls Tryz.prog 105 #[.string (bstr s), .string (bstr decS)] w fun e w' => e = .returned (.string (bstr (ExP.runR s))) ∧ Below w.heap.size w w' := by
  have hp : (fun c => decS.contains c) = ExP.digC := funext dec_contains
  have := Any.strings_TrimLeft_laid Tryz.lays161 (by kernel_rfl) (bstr s) (bstr decS) w (by decide) (ascii_of_all (by decide))
  refine this.mono ?_
  rintro e w' ⟨rfl, hb⟩
  refine ⟨?_, hb⟩
  have e1 : Lib.trimLeftS s decS = ExP.runR s := by unfold Lib.trimLeftS ExP.runR; rw [hp]
  show Ending.returned (Value.string (bstr (Lib.trimLeftS s decS))) = _
  rw [e1]
set_option maxRecDepth 100000 in
theorem run_any (s : List UInt8) (w : World) (hs : s.length ≤ 9223372036854775807) : Calls Tryz.prog 77 #[.string (bstr s)] w fun e w' => e = .returned (.tuple #[.string (bstr (ExP.runD s)), .string (bstr (ExP.runR s))]) ∧ Below w.heap.size w w' := by
  have HT := fun w => trimLeft_any s w
  have h1 := ExP.run_len s
  have h2 := ExP.run_take s
  generalize ExP.runR s = r at *
  refine enter env_ok Tryz.func77 rfl Tryz.results77 Tryz.ntmps77 [] [] [.str s] (by simp [SV.oks, SV.ok]) (Nat.le_of_ble_eq_true rfl) w _ 1000 ?_
  repeat' (first | ((with_reducible first | show wpS _ _ _ _ | show putD _ _ _ _ | show putW _ _ _ _ | show splitG _ _ _ | show wpQ _ _ _ _ _ _ | show wpD _ _ _ _ _ _ _ | show wpX _ _ _ _ _ _ _ | show expX _ _ _ _ _ _ | show stepX _ _ _ _ | show keepR _ _ _ | show wpY _ _ _ _); conv => whnf) | ((with_reducible show RetN _ _ _); refine retB fun β => ?_) | ((with_reducible show _ ∧ _); first | (apply And.intro; (· intro h; exfalso; first | omega | (revert h; decide)); intro _) | (apply And.intro; rotate_left; (· intro h; exfalso; first | omega | (revert h; decide)); intro _) | (refine ⟨fun _ => ?_, fun _ => ?_⟩) | (apply And.intro; · kernel_rfl) | (apply And.intro; · (show inK _ _; unfold inK; omega)) | (apply And.intro; · (show (_ : Int) ≤ 9223372036854775807; (try simp only [List.length_append, List.length_drop, List.length_take, List.length_cons, List.length_nil]); omega))) | ((with_reducible show AllBe _); refine allBe fun βe => ?_; conv => whnf) | ((with_reducible show bothX _ _); refine bothI ?_ ?_; conv => whnf) | (with_reducible exact trivial) | ((with_reducible show CallN _ _ _ _ _ _ _ _); refine call_of env_ok rfl 1000 ?_) | ((with_reducible show XopN _ _ _ _ _ _); refine xop_of env_ok rfl 1000 ?_) | ((with_reducible show CallX _ _ _ _ _ _); first | (refine callX (.str r) (by kernel_rfl) rfl (trivial) (fun β w hm => HT w) ?_)) | ((with_reducible show OpX _ _ _ _); first | fail) | ((with_reducible show ∃ _ : SV, _); first | fail) | ((with_reducible show ∃ _, _); first | (refine ⟨s.length - r.length, by omega, by omega, ?_⟩)))
  all_goals first | (rw [h2]; rfl) | (simp [SV.den, SV.dens, h2]; done) | skip
theorem hasOne_any (s : List UInt8) (c : UInt8) (w : World) : Calls Tryz.prog 106 #[.string (bstr s), .string (bstr [c])] w fun e w' => e = .returned (.bool (s.head? == some c)) ∧ Below w.heap.size w w' := by
  refine (Tryz.strings_HasPrefix (bstr s) (bstr [c]) w).mono ?_
  rintro e w' ⟨h, rfl⟩
  refine ⟨?_, Below.refl _ _⟩
  rw [h, show (bstr s).data.toList = s from rfl, show (bstr [c]).data.toList = [c] from rfl]
  congr 2
  unfold Lib.hasPrefix
  cases s with
  | nil => rfl
  | cons d r =>
    by_cases h : d = c
    · subst h; simp
    · have h' : ¬ c = d := fun e => h e.symm
      simp [List.isPrefixOf, beq_eq_false_iff_ne.2 h, beq_eq_false_iff_ne.2 h']
theorem repeat48 (k : Nat) : Lib.repeatL [48] k = List.replicate k 48 := by
  induction k with
  | zero => rfl
  | succ k ih => rw [Lib.repeatL, ih]; rfl
theorem repeat_any (k : Nat) (w : World) (hk : k ≤ 1000000) : Calls Tryz.prog 104 #[.string (bstr [48]), .int .i64 (k : Int)] w fun e w' => e = .returned (.string (bstr (List.replicate k 48))) ∧ Below w.heap.size w w' := by
  rcases Nat.lt_or_ge k 2 with h | h
  · have : k = 0 ∨ k = 1 := by omega
    rcases this with rfl | rfl
    · exact (Tryz.strings_Repeat_zero (bstr [48]) w).mono fun e w' ⟨h1, h2⟩ => ⟨h1, by rw [h2]; exact Below.refl _ _⟩
    · exact (Tryz.strings_Repeat_one (bstr [48]) w).mono fun e w' ⟨h1, h2⟩ => ⟨h1, by rw [h2]; exact Below.refl _ _⟩
  · refine (Tryz.strings_Repeat_main (bstr [48]) k w h (by omega) (by rw [bstr_size]; simp; omega) (by rw [bstr_size]; simp)).mono ?_
    rintro e w' ⟨rfl, hb⟩
    refine ⟨?_, hb⟩
    show Ending.returned (Value.string (bstr (Lib.repeatL [48] k))) = _
    rw [repeat48]
set_option maxRecDepth 100000 in
theorem ten_any (k : Nat) (w : World) (hw0 : 0 < w.heap.size) (hk : k ≤ 500000) : Calls Tryz.prog 74 #[.int .i64 (k : Int)] w (NatOut .u32 1000000000 (10 ^ k) w) := by
  have HR := fun w => repeat_any k w (by omega)
  obtain ⟨hv, ha⟩ := ExP.ten_val k
  have HP := fun w => parse_any (49 :: List.replicate k 48) w (by simp; omega) ha
  rw [hv] at HP
  have hl : (List.replicate k (48 : UInt8)).length = k := by simp
  clear hv ha
  generalize List.replicate k (48 : UInt8) = z at *
  refine enter env_ok Tryz.func74 rfl Tryz.results74 Tryz.ntmps74 [] [] [.int .i64 (k : Int)] (by simp [SV.oks, SV.ok]) (Nat.le_of_ble_eq_true rfl) w _ 1000 ?_
  repeat' (first | ((with_reducible first | show wpS _ _ _ _ | show putD _ _ _ _ | show putW _ _ _ _ | show splitG _ _ _ | show wpQ _ _ _ _ _ _ | show wpD _ _ _ _ _ _ _ | show wpX _ _ _ _ _ _ _ | show expX _ _ _ _ _ _ | show stepX _ _ _ _ | show keepR _ _ _ | show wpY _ _ _ _); conv => whnf) | ((with_reducible show RetN _ _ _); refine retB fun β => ?_) | ((with_reducible show _ ∧ _); first | (apply And.intro; (· intro h; exfalso; first | omega | (revert h; decide)); intro _) | (apply And.intro; rotate_left; (· intro h; exfalso; first | omega | (revert h; decide)); intro _) | (refine ⟨fun _ => ?_, fun _ => ?_⟩) | (apply And.intro; · kernel_rfl) | (apply And.intro; · (show inK _ _; unfold inK; omega)) | (apply And.intro; · (show (_ : Int) ≤ 9223372036854775807; (try simp only [List.length_append, List.length_drop, List.length_take, List.length_cons, List.length_nil]); omega))) | ((with_reducible show AllBe _); refine allBe fun βe => ?_; conv => whnf) | ((with_reducible show bothX _ _); refine bothI ?_ ?_; conv => whnf) | (with_reducible exact trivial) | ((with_reducible show CallN _ _ _ _ _ _ _ _); refine call_of env_ok rfl 1000 ?_) | ((with_reducible show XopN _ _ _ _ _ _); refine xop_of env_ok rfl 1000 ?_) | ((with_reducible show CallX _ _ _ _ _ _); first | (refine callX (.str z) (by kernel_rfl) rfl (trivial) (fun β w hm => HR w) ?_) | (refine callNat .u32 1000000000 (10 ^ k) hw0 (by kernel_rfl) rfl (fun β w' hm => HP w') (fun a1 c1 q1 q2 q3 => ?_))) | ((with_reducible show OpX _ _ _ _); first | fail) | ((with_reducible show ∃ _ : SV, _); first | fail) | ((with_reducible show ∃ _, _); first | fail))
  all_goals first | (exfalso; omega) | skip
  all_goals refine ret fun β w' hm => ?_
  all_goals exact ⟨a1, c1, rfl, hm.slF 0 rfl, hm.freshF 0 rfl rfl, q1, q2, hm.below⟩
set_option maxRecDepth 100000 in
set_option maxHeartbeats 4000000 in
theorem exponent_any (s : List UInt8) (w : World) (hs : s.length ≤ 9223372036854775807) : Calls Tryz.prog 78 #[.string (bstr s)] w fun e w' => e = .returned (.tuple #[.int .i64 (if ExP.expB s = true then ExP.expV s else 0), .bool (ExP.expB s)]) ∧ Below w.heap.size w w' := by
  cases s with
  | nil =>
    refine enter env_ok Tryz.func78 rfl Tryz.results78 Tryz.ntmps78 [] [] [.str []] (by simp [SV.oks, SV.ok]) (Nat.le_of_ble_eq_true rfl) w _ 1000 ?_
    repeat' (first | ((with_reducible first | show wpS _ _ _ _ | show putD _ _ _ _ | show putW _ _ _ _ | show splitG _ _ _ | show wpQ _ _ _ _ _ _ | show wpD _ _ _ _ _ _ _ | show wpX _ _ _ _ _ _ _ | show expX _ _ _ _ _ _ | show stepX _ _ _ _ | show keepR _ _ _ | show wpY _ _ _ _); conv => whnf) | ((with_reducible show RetN _ _ _); refine retB fun β => ?_) | ((with_reducible show _ ∧ _); first | (apply And.intro; (· intro h; exfalso; first | omega | (revert h; decide)); intro _) | (apply And.intro; rotate_left; (· intro h; exfalso; first | omega | (revert h; decide)); intro _) | (refine ⟨fun _ => ?_, fun _ => ?_⟩) | (apply And.intro; · kernel_rfl) | (apply And.intro; · (show inK _ _; unfold inK; omega)) | (apply And.intro; · (show (_ : Int) ≤ 9223372036854775807; (try simp only [List.length_append, List.length_drop, List.length_take, List.length_cons, List.length_nil]); omega))) | ((with_reducible show AllBe _); refine allBe fun βe => ?_; conv => whnf) | ((with_reducible show bothX _ _); refine bothI ?_ ?_; conv => whnf) | (with_reducible exact trivial) | ((with_reducible show CallN _ _ _ _ _ _ _ _); refine call_of env_ok rfl 1000 ?_) | ((with_reducible show XopN _ _ _ _ _ _); refine xop_of env_ok rfl 1000 ?_) | ((with_reducible show CallX _ _ _ _ _ _); first | fail) | ((with_reducible show OpX _ _ _ _); first | fail) | ((with_reducible show ∃ _ : SV, _); first | fail) | ((with_reducible show ∃ _, _); first | fail))
    all_goals first | rfl | (exfalso; simp_all; done)
  | cons c t =>
    have hB : ExP.expB (c :: t) = ((c == 101 || c == 69) && ExP.expOK (ExP.sgnR t)) := rfl
    have hV : ExP.expV (c :: t) = if ExP.sgnP t = true then -(ExP.valS (ExP.sgnR t) : Int) else (ExP.valS (ExP.sgnR t) : Int) := rfl
    have hc0 : ((c :: t : List UInt8).getD 0 0).toNat = c.toNat := rfl
    have hc8 := c.toNat_lt
    by_cases hc : c = 101 ∨ c = 69
    · have hce : (c == 101 || c == 69) = true := by rcases hc with rfl | rfl <;> rfl
      have hcn : c.toNat = 101 ∨ c.toNat = 69 := by rcases hc with rfl | rfl <;> simp
      rw [hce, Bool.true_and] at hB
      rw [hB, hV]
      have hsP : ExP.sgnP t = (t.head? == some 45) := rfl
      have hsR : ExP.sgnR t = if t.head? = some 45 ∨ t.head? = some 43 then t.tail else t := rfl
      by_cases h45 : t.head? = some 45
      · obtain ⟨u, rfl⟩ : ∃ u, t = 45 :: u := by
          cases t with
          | nil => cases h45
          | cons d u => simp at h45; subst h45; exact ⟨u, rfl⟩
        have e1 : ExP.sgnP (45 :: u) = true := rfl
        have e2 : ExP.sgnR (45 :: u) = u := rfl
        simp only [e1, e2, if_true]
        have HH1 := fun w => hasOne_any (45 :: u) 45 w
        have HH2 := fun w => hasOne_any (45 :: u) 43 w
        rw [show (((45 : UInt8) :: u).head? == some 45) = true from rfl] at HH1
        have RU := fun w => run_any u w (by simp only [List.length_cons] at hs; omega)
        by_cases hok : ExP.expOK u = true
        · obtain ⟨o1, o2, o3, o4, o5⟩ := ExP.expOK_run hok
          have hv := ExP.val3 hok
          have AT := fun w => atoi_any u w o1 (by omega) o5
          rw [o2, o3] at RU
          rw [hok, if_pos rfl]
          generalize ExP.valS u = v at *
          refine enter env_ok Tryz.func78 rfl Tryz.results78 Tryz.ntmps78 [] [] [.str (c :: 45 :: u)] (by simp [SV.oks, SV.ok]) (Nat.le_of_ble_eq_true rfl) w _ 1000 ?_
          repeat' (first | ((with_reducible first | show wpS _ _ _ _ | show putD _ _ _ _ | show putW _ _ _ _ | show splitG _ _ _ | show wpQ _ _ _ _ _ _ | show wpD _ _ _ _ _ _ _ | show wpX _ _ _ _ _ _ _ | show expX _ _ _ _ _ _ | show stepX _ _ _ _ | show keepR _ _ _ | show wpY _ _ _ _); conv => whnf) | ((with_reducible show RetN _ _ _); refine retB fun β => ?_) | ((with_reducible show _ ∧ _); first | (apply And.intro; (· intro h; exfalso; first | omega | (revert h; decide)); intro _) | (apply And.intro; rotate_left; (· intro h; exfalso; first | omega | (revert h; decide)); intro _) | (refine ⟨fun _ => ?_, fun _ => ?_⟩) | (apply And.intro; · kernel_rfl) | (apply And.intro; · (show inK _ _; unfold inK; omega)) | (apply And.intro; · (show (_ : Int) ≤ 9223372036854775807; (try simp only [List.length_append, List.length_drop, List.length_take, List.length_cons, List.length_nil]); omega))) | ((with_reducible show AllBe _); refine allBe fun βe => ?_; conv => whnf) | ((with_reducible show bothX _ _); refine bothI ?_ ?_; conv => whnf) | (with_reducible exact trivial) | ((with_reducible show CallN _ _ _ _ _ _ _ _); refine call_of env_ok rfl 1000 ?_) | ((with_reducible show XopN _ _ _ _ _ _); refine xop_of env_ok rfl 1000 ?_) | ((with_reducible show CallX _ _ _ _ _ _); first | (refine callX (.lit true) (by kernel_rfl) rfl (trivial) (fun β w hm => HH1 w) ?_) | (refine callX (.lit false) (by kernel_rfl) rfl (trivial) (fun β w hm => HH2 w) ?_) | (refine callX (.tup [.str u, .str []]) (by kernel_rfl) rfl (⟨trivial, trivial, trivial⟩) (fun β w hm => RU w) ?_) | (refine callX (.tup [.int .i64 (v : Nat), .any .nilIface]) (by kernel_rfl) rfl (⟨trivial, rfl, trivial⟩) (fun β w hm => AT w) ?_)) | ((with_reducible show OpX _ _ _ _); first | fail) | ((with_reducible show ∃ _ : SV, _); first | fail) | ((with_reducible show ∃ _, _); first | (refine ⟨0, rfl, by simp, ?_⟩) | (refine ⟨1, rfl, by simp, ?_⟩)))
          all_goals first | rfl | (exfalso; omega) | (exfalso; simp_all; done) | (simp [SV.den, SV.dens]; done)
        · have hno := ExP.expOK_not (Bool.eq_false_iff.2 hok)
          rw [Bool.eq_false_iff.2 hok, if_neg (by decide)]
          generalize ExP.runD u = d at *
          generalize ExP.runR u = r at *
          refine enter env_ok Tryz.func78 rfl Tryz.results78 Tryz.ntmps78 [] [] [.str (c :: 45 :: u)] (by simp [SV.oks, SV.ok]) (Nat.le_of_ble_eq_true rfl) w _ 1000 ?_
          repeat' (first | ((with_reducible first | show wpS _ _ _ _ | show putD _ _ _ _ | show putW _ _ _ _ | show splitG _ _ _ | show wpQ _ _ _ _ _ _ | show wpD _ _ _ _ _ _ _ | show wpX _ _ _ _ _ _ _ | show expX _ _ _ _ _ _ | show stepX _ _ _ _ | show keepR _ _ _ | show wpY _ _ _ _); conv => whnf) | ((with_reducible show RetN _ _ _); refine retB fun β => ?_) | ((with_reducible show _ ∧ _); first | (apply And.intro; (· intro h; exfalso; first | omega | (revert h; decide)); intro _) | (apply And.intro; rotate_left; (· intro h; exfalso; first | omega | (revert h; decide)); intro _) | (refine ⟨fun _ => ?_, fun _ => ?_⟩) | (apply And.intro; · kernel_rfl) | (apply And.intro; · (show inK _ _; unfold inK; omega)) | (apply And.intro; · (show (_ : Int) ≤ 9223372036854775807; (try simp only [List.length_append, List.length_drop, List.length_take, List.length_cons, List.length_nil]); omega))) | ((with_reducible show AllBe _); refine allBe fun βe => ?_; conv => whnf) | ((with_reducible show bothX _ _); refine bothI ?_ ?_; conv => whnf) | (with_reducible exact trivial) | ((with_reducible show CallN _ _ _ _ _ _ _ _); refine call_of env_ok rfl 1000 ?_) | ((with_reducible show XopN _ _ _ _ _ _); refine xop_of env_ok rfl 1000 ?_) | ((with_reducible show CallX _ _ _ _ _ _); first | (refine callX (.lit true) (by kernel_rfl) rfl (trivial) (fun β w hm => HH1 w) ?_) | (refine callX (.lit false) (by kernel_rfl) rfl (trivial) (fun β w hm => HH2 w) ?_) | (refine callX (.tup [.str d, .str r]) (by kernel_rfl) rfl (⟨trivial, trivial, trivial⟩) (fun β w hm => RU w) ?_)) | ((with_reducible show OpX _ _ _ _); first | fail) | ((with_reducible show ∃ _ : SV, _); first | fail) | ((with_reducible show ∃ _, _); first | (refine ⟨0, rfl, by simp, ?_⟩) | (refine ⟨1, rfl, by simp, ?_⟩)))
          all_goals first | rfl | (exfalso; omega) | (exfalso; rcases hno with h | h | h <;> first | omega | contradiction | (exact h (by assumption))) | (exfalso; simp_all; done)
      by_cases h43 : t.head? = some 43
      · obtain ⟨u, rfl⟩ : ∃ u, t = 43 :: u := by
          cases t with
          | nil => cases h43
          | cons d u => simp at h43; subst h43; exact ⟨u, rfl⟩
        have e1 : ExP.sgnP (43 :: u) = false := rfl
        have e2 : ExP.sgnR (43 :: u) = u := rfl
        simp only [e1, e2, Bool.false_eq_true, if_false]
        have HH1 := fun w => hasOne_any (43 :: u) 45 w
        have HH2 := fun w => hasOne_any (43 :: u) 43 w
        rw [show (((43 : UInt8) :: u).head? == some 45) = false from rfl] at HH1
        rw [show (((43 : UInt8) :: u).head? == some 43) = true from rfl] at HH2
        have RU := fun w => run_any u w (by simp only [List.length_cons] at hs; omega)
        by_cases hok : ExP.expOK u = true
        · obtain ⟨o1, o2, o3, o4, o5⟩ := ExP.expOK_run hok
          have hv := ExP.val3 hok
          have AT := fun w => atoi_any u w o1 (by omega) o5
          rw [o2, o3] at RU
          rw [hok, if_pos rfl]
          generalize ExP.valS u = v at *
          refine enter env_ok Tryz.func78 rfl Tryz.results78 Tryz.ntmps78 [] [] [.str (c :: 43 :: u)] (by simp [SV.oks, SV.ok]) (Nat.le_of_ble_eq_true rfl) w _ 1000 ?_
          repeat' (first | ((with_reducible first | show wpS _ _ _ _ | show putD _ _ _ _ | show putW _ _ _ _ | show splitG _ _ _ | show wpQ _ _ _ _ _ _ | show wpD _ _ _ _ _ _ _ | show wpX _ _ _ _ _ _ _ | show expX _ _ _ _ _ _ | show stepX _ _ _ _ | show keepR _ _ _ | show wpY _ _ _ _); conv => whnf) | ((with_reducible show RetN _ _ _); refine retB fun β => ?_) | ((with_reducible show _ ∧ _); first | (apply And.intro; (· intro h; exfalso; first | omega | (revert h; decide)); intro _) | (apply And.intro; rotate_left; (· intro h; exfalso; first | omega | (revert h; decide)); intro _) | (refine ⟨fun _ => ?_, fun _ => ?_⟩) | (apply And.intro; · kernel_rfl) | (apply And.intro; · (show inK _ _; unfold inK; omega)) | (apply And.intro; · (show (_ : Int) ≤ 9223372036854775807; (try simp only [List.length_append, List.length_drop, List.length_take, List.length_cons, List.length_nil]); omega))) | ((with_reducible show AllBe _); refine allBe fun βe => ?_; conv => whnf) | ((with_reducible show bothX _ _); refine bothI ?_ ?_; conv => whnf) | (with_reducible exact trivial) | ((with_reducible show CallN _ _ _ _ _ _ _ _); refine call_of env_ok rfl 1000 ?_) | ((with_reducible show XopN _ _ _ _ _ _); refine xop_of env_ok rfl 1000 ?_) | ((with_reducible show CallX _ _ _ _ _ _); first | (refine callX (.lit false) (by kernel_rfl) rfl (trivial) (fun β w hm => HH1 w) ?_) | (refine callX (.lit true) (by kernel_rfl) rfl (trivial) (fun β w hm => HH2 w) ?_) | (refine callX (.tup [.str u, .str []]) (by kernel_rfl) rfl (⟨trivial, trivial, trivial⟩) (fun β w hm => RU w) ?_) | (refine callX (.tup [.int .i64 (v : Nat), .any .nilIface]) (by kernel_rfl) rfl (⟨trivial, rfl, trivial⟩) (fun β w hm => AT w) ?_)) | ((with_reducible show OpX _ _ _ _); first | fail) | ((with_reducible show ∃ _ : SV, _); first | fail) | ((with_reducible show ∃ _, _); first | (refine ⟨0, rfl, by simp, ?_⟩) | (refine ⟨1, rfl, by simp, ?_⟩)))
          all_goals first | rfl | (exfalso; omega) | (exfalso; simp_all; done) | (simp [SV.den, SV.dens]; done)
        · have hno := ExP.expOK_not (Bool.eq_false_iff.2 hok)
          rw [Bool.eq_false_iff.2 hok, if_neg (by decide)]
          generalize ExP.runD u = d at *
          generalize ExP.runR u = r at *
          refine enter env_ok Tryz.func78 rfl Tryz.results78 Tryz.ntmps78 [] [] [.str (c :: 43 :: u)] (by simp [SV.oks, SV.ok]) (Nat.le_of_ble_eq_true rfl) w _ 1000 ?_
          repeat' (first | ((with_reducible first | show wpS _ _ _ _ | show putD _ _ _ _ | show putW _ _ _ _ | show splitG _ _ _ | show wpQ _ _ _ _ _ _ | show wpD _ _ _ _ _ _ _ | show wpX _ _ _ _ _ _ _ | show expX _ _ _ _ _ _ | show stepX _ _ _ _ | show keepR _ _ _ | show wpY _ _ _ _); conv => whnf) | ((with_reducible show RetN _ _ _); refine retB fun β => ?_) | ((with_reducible show _ ∧ _); first | (apply And.intro; (· intro h; exfalso; first | omega | (revert h; decide)); intro _) | (apply And.intro; rotate_left; (· intro h; exfalso; first | omega | (revert h; decide)); intro _) | (refine ⟨fun _ => ?_, fun _ => ?_⟩) | (apply And.intro; · kernel_rfl) | (apply And.intro; · (show inK _ _; unfold inK; omega)) | (apply And.intro; · (show (_ : Int) ≤ 9223372036854775807; (try simp only [List.length_append, List.length_drop, List.length_take, List.length_cons, List.length_nil]); omega))) | ((with_reducible show AllBe _); refine allBe fun βe => ?_; conv => whnf) | ((with_reducible show bothX _ _); refine bothI ?_ ?_; conv => whnf) | (with_reducible exact trivial) | ((with_reducible show CallN _ _ _ _ _ _ _ _); refine call_of env_ok rfl 1000 ?_) | ((with_reducible show XopN _ _ _ _ _ _); refine xop_of env_ok rfl 1000 ?_) | ((with_reducible show CallX _ _ _ _ _ _); first | (refine callX (.lit false) (by kernel_rfl) rfl (trivial) (fun β w hm => HH1 w) ?_) | (refine callX (.lit true) (by kernel_rfl) rfl (trivial) (fun β w hm => HH2 w) ?_) | (refine callX (.tup [.str d, .str r]) (by kernel_rfl) rfl (⟨trivial, trivial, trivial⟩) (fun β w hm => RU w) ?_)) | ((with_reducible show OpX _ _ _ _); first | fail) | ((with_reducible show ∃ _ : SV, _); first | fail) | ((with_reducible show ∃ _, _); first | (refine ⟨0, rfl, by simp, ?_⟩) | (refine ⟨1, rfl, by simp, ?_⟩)))
          all_goals first | rfl | (exfalso; omega) | (exfalso; rcases hno with h | h | h <;> first | omega | contradiction | (exact h (by assumption))) | (exfalso; simp_all; done)
      · have e1 : ExP.sgnP t = false := by rw [hsP]; exact beq_eq_false_iff_ne.2 h45
        have e2 : ExP.sgnR t = t := by rw [hsR, if_neg (by simp [h45, h43])]
        simp only [e1, e2, Bool.false_eq_true, if_false]
        have HH1 := fun w => hasOne_any (t) 45 w
        have HH2 := fun w => hasOne_any (t) 43 w
        rw [beq_eq_false_iff_ne.2 h45] at HH1
        rw [beq_eq_false_iff_ne.2 h43] at HH2
        have RU := fun w => run_any t w (by simp only [List.length_cons] at hs; omega)
        by_cases hok : ExP.expOK t = true
        · obtain ⟨o1, o2, o3, o4, o5⟩ := ExP.expOK_run hok
          have hv := ExP.val3 hok
          have AT := fun w => atoi_any t w o1 (by omega) o5
          rw [o2, o3] at RU
          rw [hok, if_pos rfl]
          generalize ExP.valS t = v at *
          refine enter env_ok Tryz.func78 rfl Tryz.results78 Tryz.ntmps78 [] [] [.str (c :: t)] (by simp [SV.oks, SV.ok]) (Nat.le_of_ble_eq_true rfl) w _ 1000 ?_
          repeat' (first | ((with_reducible first | show wpS _ _ _ _ | show putD _ _ _ _ | show putW _ _ _ _ | show splitG _ _ _ | show wpQ _ _ _ _ _ _ | show wpD _ _ _ _ _ _ _ | show wpX _ _ _ _ _ _ _ | show expX _ _ _ _ _ _ | show stepX _ _ _ _ | show keepR _ _ _ | show wpY _ _ _ _); conv => whnf) | ((with_reducible show RetN _ _ _); refine retB fun β => ?_) | ((with_reducible show _ ∧ _); first | (apply And.intro; (· intro h; exfalso; first | omega | (revert h; decide)); intro _) | (apply And.intro; rotate_left; (· intro h; exfalso; first | omega | (revert h; decide)); intro _) | (refine ⟨fun _ => ?_, fun _ => ?_⟩) | (apply And.intro; · kernel_rfl) | (apply And.intro; · (show inK _ _; unfold inK; omega)) | (apply And.intro; · (show (_ : Int) ≤ 9223372036854775807; (try simp only [List.length_append, List.length_drop, List.length_take, List.length_cons, List.length_nil]); omega))) | ((with_reducible show AllBe _); refine allBe fun βe => ?_; conv => whnf) | ((with_reducible show bothX _ _); refine bothI ?_ ?_; conv => whnf) | (with_reducible exact trivial) | ((with_reducible show CallN _ _ _ _ _ _ _ _); refine call_of env_ok rfl 1000 ?_) | ((with_reducible show XopN _ _ _ _ _ _); refine xop_of env_ok rfl 1000 ?_) | ((with_reducible show CallX _ _ _ _ _ _); first | (refine callX (.lit false) (by kernel_rfl) rfl (trivial) (fun β w hm => HH1 w) ?_) | (refine callX (.lit false) (by kernel_rfl) rfl (trivial) (fun β w hm => HH2 w) ?_) | (refine callX (.tup [.str t, .str []]) (by kernel_rfl) rfl (⟨trivial, trivial, trivial⟩) (fun β w hm => RU w) ?_) | (refine callX (.tup [.int .i64 (v : Nat), .any .nilIface]) (by kernel_rfl) rfl (⟨trivial, rfl, trivial⟩) (fun β w hm => AT w) ?_)) | ((with_reducible show OpX _ _ _ _); first | fail) | ((with_reducible show ∃ _ : SV, _); first | fail) | ((with_reducible show ∃ _, _); first | (refine ⟨0, rfl, by simp, ?_⟩) | (refine ⟨1, rfl, by simp, ?_⟩)))
          all_goals first | rfl | (exfalso; omega) | (exfalso; simp_all; done) | (simp [SV.den, SV.dens]; done)
        · have hno := ExP.expOK_not (Bool.eq_false_iff.2 hok)
          rw [Bool.eq_false_iff.2 hok, if_neg (by decide)]
          generalize ExP.runD t = d at *
          generalize ExP.runR t = r at *
          refine enter env_ok Tryz.func78 rfl Tryz.results78 Tryz.ntmps78 [] [] [.str (c :: t)] (by simp [SV.oks, SV.ok]) (Nat.le_of_ble_eq_true rfl) w _ 1000 ?_
          repeat' (first | ((with_reducible first | show wpS _ _ _ _ | show putD _ _ _ _ | show putW _ _ _ _ | show splitG _ _ _ | show wpQ _ _ _ _ _ _ | show wpD _ _ _ _ _ _ _ | show wpX _ _ _ _ _ _ _ | show expX _ _ _ _ _ _ | show stepX _ _ _ _ | show keepR _ _ _ | show wpY _ _ _ _); conv => whnf) | ((with_reducible show RetN _ _ _); refine retB fun β => ?_) | ((with_reducible show _ ∧ _); first | (apply And.intro; (· intro h; exfalso; first | omega | (revert h; decide)); intro _) | (apply And.intro; rotate_left; (· intro h; exfalso; first | omega | (revert h; decide)); intro _) | (refine ⟨fun _ => ?_, fun _ => ?_⟩) | (apply And.intro; · kernel_rfl) | (apply And.intro; · (show inK _ _; unfold inK; omega)) | (apply And.intro; · (show (_ : Int) ≤ 9223372036854775807; (try simp only [List.length_append, List.length_drop, List.length_take, List.length_cons, List.length_nil]); omega))) | ((with_reducible show AllBe _); refine allBe fun βe => ?_; conv => whnf) | ((with_reducible show bothX _ _); refine bothI ?_ ?_; conv => whnf) | (with_reducible exact trivial) | ((with_reducible show CallN _ _ _ _ _ _ _ _); refine call_of env_ok rfl 1000 ?_) | ((with_reducible show XopN _ _ _ _ _ _); refine xop_of env_ok rfl 1000 ?_) | ((with_reducible show CallX _ _ _ _ _ _); first | (refine callX (.lit false) (by kernel_rfl) rfl (trivial) (fun β w hm => HH1 w) ?_) | (refine callX (.lit false) (by kernel_rfl) rfl (trivial) (fun β w hm => HH2 w) ?_) | (refine callX (.tup [.str d, .str r]) (by kernel_rfl) rfl (⟨trivial, trivial, trivial⟩) (fun β w hm => RU w) ?_)) | ((with_reducible show OpX _ _ _ _); first | fail) | ((with_reducible show ∃ _ : SV, _); first | fail) | ((with_reducible show ∃ _, _); first | (refine ⟨0, rfl, by simp, ?_⟩) | (refine ⟨1, rfl, by simp, ?_⟩)))
          all_goals first | rfl | (exfalso; omega) | (exfalso; rcases hno with h | h | h <;> first | omega | contradiction | (exact h (by assumption))) | (exfalso; simp_all; done)
    · have hce : (c == 101 || c == 69) = false := by
        simp only [not_or] at hc
        simp [hc.1, hc.2]
      have hcn : c.toNat ≠ 101 ∧ c.toNat ≠ 69 := ⟨fun e => hc (.inl (UInt8.toNat_inj.1 e)), fun e => hc (.inr (UInt8.toNat_inj.1 e))⟩
      rw [hce, Bool.false_and] at hB
      rw [hB]
      refine enter env_ok Tryz.func78 rfl Tryz.results78 Tryz.ntmps78 [] [] [.str (c :: t)] (by simp [SV.oks, SV.ok]) (Nat.le_of_ble_eq_true rfl) w _ 1000 ?_
      repeat' (first | ((with_reducible first | show wpS _ _ _ _ | show putD _ _ _ _ | show putW _ _ _ _ | show splitG _ _ _ | show wpQ _ _ _ _ _ _ | show wpD _ _ _ _ _ _ _ | show wpX _ _ _ _ _ _ _ | show expX _ _ _ _ _ _ | show stepX _ _ _ _ | show keepR _ _ _ | show wpY _ _ _ _); conv => whnf) | ((with_reducible show RetN _ _ _); refine retB fun β => ?_) | ((with_reducible show _ ∧ _); first | (apply And.intro; (· intro h; exfalso; first | omega | (revert h; decide)); intro _) | (apply And.intro; rotate_left; (· intro h; exfalso; first | omega | (revert h; decide)); intro _) | (refine ⟨fun _ => ?_, fun _ => ?_⟩) | (apply And.intro; · kernel_rfl) | (apply And.intro; · (show inK _ _; unfold inK; omega)) | (apply And.intro; · (show (_ : Int) ≤ 9223372036854775807; (try simp only [List.length_append, List.length_drop, List.length_take, List.length_cons, List.length_nil]); omega))) | ((with_reducible show AllBe _); refine allBe fun βe => ?_; conv => whnf) | ((with_reducible show bothX _ _); refine bothI ?_ ?_; conv => whnf) | (with_reducible exact trivial) | ((with_reducible show CallN _ _ _ _ _ _ _ _); refine call_of env_ok rfl 1000 ?_) | ((with_reducible show XopN _ _ _ _ _ _); refine xop_of env_ok rfl 1000 ?_) | ((with_reducible show CallX _ _ _ _ _ _); first | fail) | ((with_reducible show OpX _ _ _ _); first | fail) | ((with_reducible show ∃ _ : SV, _); first | fail) | ((with_reducible show ∃ _, _); first | (refine ⟨0, rfl, by simp, ?_⟩)))
      all_goals first | rfl | (exfalso; omega) | (exfalso; simp_all; done)
end Go.Proofs.YtfodbfbljeeojaaGreatDoor
