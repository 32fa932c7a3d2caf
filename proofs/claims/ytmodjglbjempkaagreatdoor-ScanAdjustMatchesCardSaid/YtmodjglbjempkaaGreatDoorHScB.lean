/- Formulas divided into tokens: the program's words and tokens. Formulas divided into tokens: the reference's Has, Index and numbers. Formulas divided into tokens: the reference's numbers and words. Formulas divided into tokens: the reference's words and tokens. Formulas divided into tokens: the reference's Token. -/
import Derived.Test.YtmodjglbjempkaaGreatDoorHScA
import Derived.Test.YtmodjglbjempkaaGreatDoorHWa
import Derived.Test.YtmodjglbjempkaaGreatDoorHShelf
set_option linter.unusedSimpArgs false
set_option linter.unusedVariables false
namespace Go.Proofs.YtmodjglbjempkaaGreatDoor
open Go.RowKit
open Sym
attribute [local irreducible] Calls
namespace Sym
theorem fill_one : ∀ (vs : List Value) (k : Nat) (pre post : List Value), (∀ v ∈ vs, v.cells = #[v]) → pre.length = k → post.length = vs.length →
    Instr.fill (fun i => some (i * 1, 1)) (pre ++ post).toArray ((List.range' k vs.length).zip vs) = some (pre ++ vs).toArray
  | [], k, pre, post, _, _, h => by
    have : post = [] := List.length_eq_zero_iff.1 (by simpa using h)
    subst this; simp [Instr.fill]
  | v :: r, k, pre, [], _, _, h => by simp at h
  | v :: r, k, pre, q :: post, h1, h2, h3 => by
    have e1 : v.cells = #[v] := h1 v (by simp)
    have ih := fill_one r (k + 1) (pre ++ [v]) post (fun u hu => h1 u (by simp [hu])) (by simp [h2]) (by simpa using h3)
    have e2 : ((pre ++ q :: post).toArray.setIfInBounds k v) = (pre ++ [v] ++ post).toArray := by
      apply Array.toList_inj.1
      simp [List.set_append_right _ _ (Nat.le_of_eq h2), h2]
    rw [List.length_cons, List.range'_succ, List.zip_cons_cons]
    unfold Instr.fill
    simp only [e1, Nat.mul_one]
    rw [if_neg (by simp; omega)]
    have e3 : (#[v].zipIdx.foldl (fun cs x => cs.setIfInBounds (k + x.2) x.1) (pre ++ q :: post).toArray) = (pre ++ q :: post).toArray.setIfInBounds k v := by simp
    rw [show (Array.foldl (fun cs (x : Value × Nat) => match x with | (c, j) => cs.setIfInBounds (k + j) c) (pre ++ q :: post).toArray #[v].zipIdx) = (pre ++ q :: post).toArray.setIfInBounds k v from e3, e2]
    simpa using ih
/-- an array built of all its parts, one cell each -/
theorem x_arr {C : Ctx} {G : Blobs} {t e : TypeId} {n : Nat} {ps : List (Nat × Operand)} {us : List SV} {z : Value} (ht : C.P.underlying t = some (.array n e)) (hs : ∀ w, (sizeOf e).run C.P w = .ok 1 w) (hz : ∀ w, (zeroValue t).run C.P w = .ok z w) (hc : z.cells.size = n)
    (hp : ps.map (·.1) = List.range' 0 n) (hn : us.length = n) (h1 : ∀ β, ∀ v ∈ SV.dens β us, v.cells = #[v]) : ExtN C G (.build t ⟨ps⟩) us (.agg us) := by
  unfold ExtN
  intro ρ β w dst ty pos after g _ _ h
  have h' : (ps.map (·.2)).map ρ = SV.dens β us := by simpa [opsX] using h
  have q : (underlying t).run C.P w = .ok (.array n e) w := by simp [underlying, ht]
  have hl : (SV.dens β us).length = n := by rw [SV.dens_len]; exact hn
  have e1 : (ps.map fun p => (p.1, ρ p.2)) = (List.range' 0 n).zip (SV.dens β us) := by
    rw [← hp, ← h']
    clear h h' hp q
    induction ps with
    | nil => rfl
    | cons p r ih => simp [ih]
  have f1 := fill_one (SV.dens β us) 0 [] z.cells.toList (h1 β) rfl (by simp [hc, hl])
  rw [hl] at f1
  simp only [List.nil_append] at f1
  have e2 : (ps.toArray.map fun (i, x) => (i, ρ x)).toList = (List.range' 0 n).zip (SV.dens β us) := by rw [← e1]; simp
  have f2 : Instr.fill (fun i => some (i * 1, 1)) z.cells ((ps.toArray.map fun (i, x) => (i, ρ x)).toList) = some (SV.dens β us).toArray := by rw [e2]; simpa using f1
  simp only [execOp, Sem.run_bind]
  unfold Instr.build
  simp only [Sem.run_bind, hz, Result.andThen_ok, q, hs, f2, Sem.run_pure, SV.den]
end Sym
theorem hasP_any (s p : List UInt8) (w : World) : Calls Tryz.prog 35 #[.string (bstr s), .string (bstr p)] w fun e w' => e = .returned (.bool (p.isPrefixOf s)) ∧ Below w.heap.size w w' := by
  refine (Tryz.strings_HasPrefix (bstr s) (bstr p) w).mono ?_
  rintro e w' ⟨rfl, rfl⟩
  exact ⟨rfl, Below.refl _ _⟩
theorem index_has (c : UInt8) : ∀ l : List UInt8, decide (0 ≤ Lib.indexByte l c) = l.contains c
  | [] => by simp [Lib.indexByte]
  | b :: l => by
    have ih := index_has c l
    have hg := Lib.indexByte_ge l c
    unfold Lib.indexByte
    by_cases h : b = c
    · subst h; simp
    · have h2 : (b == c) = false := by simpa using h
      have h3 : (c == b) = false := by simpa using fun e => h e.symm
      rw [List.contains_cons, h3, Bool.false_or, ← ih, h2]
      simp only [Bool.false_eq_true, if_false]
      split
      · rename_i h4
        have h4 := eq_of_beq h4
        rw [h4]
      · rw [Bool.eq_iff_iff]
        rename_i h4
        have h5 : ¬ Lib.indexByte l c = -1 := fun e => h4 (by rw [e]; rfl)
        simp; omega
theorem contains_any (s : List UInt8) (w : World) : Calls Tryz.prog 111 #[.string (bstr s), .string (bstr [36])] w fun e w' => e = .returned (.bool (s.contains 36)) ∧ Below w.heap.size w w' := by
  refine (Tryz.strings_Contains_one (bstr s) 36 w).mono ?_
  rintro e w' ⟨rfl, rfl⟩
  exact ⟨by rw [← index_has]; rfl, Below.refl _ _⟩
theorem indexB_any (s : List UInt8) (c : UInt8) (w : World) : Calls Tryz.prog 63 #[.string (bstr s), .int .u8 (c.toNat : Int)] w fun e w' => e = .returned (.int .i64 (Lib.indexByte s c)) ∧ Below w.heap.size w w' := by
  refine (Tryz.strings_IndexByte (bstr s) (c.toNat : Int) w).mono ?_
  rintro e w' ⟨rfl, rfl⟩
  have : ((c.toNat : Int).toNat.toUInt8) = c := by simp
  rw [this]
  exact ⟨rfl, Below.refl _ _⟩
set_option maxRecDepth 100000 in
set_option maxHeartbeats 4000000 in
theorem word_any (s : List UInt8) (w : World) (hs : s.length ≤ 1000000) : Calls Tryz.prog 79 #[.string (bstr s)] w fun e w' => e = .returned (.tuple #[.int .i64 ((ScP.wordP s).1 : Nat), .int .i64 ((ScP.wordP s).2 : Nat)]) ∧ Below w.heap.size w w' := by
  have hd := ScP.run_le ScP.wordlyC s
  have HD := fun w => run_any fwordly s w hs
  unfold ScP.wordP ScP.freeP
  dsimp only
  generalize ScP.runP ScP.wordlyC s = n at *
  have h2 := ScP.sheeted_le s n
  have h3 := ScP.area_le s n hd
  have h4 : ScP.bracketsP (s.drop n) ≤ s.length - n := by have := ScP.br_le (s.drop n) 0 0; unfold ScP.bracketsP; simpa using this
  have HB := fun w => brackets_any (s.drop n) w (by simp; omega)
  generalize ScP.bracketsP (s.drop n) = b at *
  have HA := fun w => area_any s n w hs hd
  generalize ScP.areaP s n = a at *
  have HS := fun w => sheeted_any s n w hs hd
  generalize ScP.sheetedP s n = sh at *
  refine enter env_ok Tryz.func79 rfl Tryz.results79 Tryz.ntmps79 [] [] [.str s] (by simp [SV.oks, SV.ok]) (Nat.le_of_ble_eq_true rfl) w _ 1000 ?_
  repeat' (first | ((with_reducible first | show wpS _ _ _ _ | show putD _ _ _ _ | show putW _ _ _ _ | show splitG _ _ _ | show wpQ _ _ _ _ _ _ | show wpD _ _ _ _ _ _ _ | show wpX _ _ _ _ _ _ | show expX _ _ _ _ _ _ | show stepX _ _ _ _); conv => whnf) | ((with_reducible show RetN _ _ _); refine retB fun β => ?_) | ((with_reducible show _ ∧ _); first | (apply And.intro; (· intro h; exfalso; first | omega | (revert h; decide)); intro _) | (apply And.intro; rotate_left; (· intro h; exfalso; first | omega | (revert h; decide)); intro _) | (refine ⟨fun _ => ?_, fun _ => ?_⟩) | (apply And.intro; · kernel_rfl) | (apply And.intro; · (show inK _ _; unfold inK; omega)) | (apply And.intro; · (show (_ : Int) ≤ 9223372036854775807; (try simp only [List.length_append, List.length_drop, List.length_take, List.length_cons, List.length_nil]); omega))) | ((with_reducible show bothX _ _); refine bothI ?_ ?_; conv => whnf) | (with_reducible exact trivial) | ((with_reducible show CallN _ _ _ _ _ _ _ _); refine call_of env_ok rfl 1000 ?_) | ((with_reducible show XopN _ _ _ _ _ _); refine xop_of env_ok rfl 1000 ?_) | ((with_reducible show CallX _ _ _ _ _ _); first | (refine callX (.int .i64 (n : Nat)) (by kernel_rfl) rfl (trivial) (fun β w hm => HD w) ?_) | (refine callX (.bool ((s.take n).contains 36)) (by kernel_rfl) rfl (trivial) (fun β w hm => contains_any _ w) ?_) | (refine callX (.bool (RfP.plain (s.take n))) (by kernel_rfl) rfl (trivial) (fun β w hm => quiet (Plain_any (s.take n) w (by simp; omega))) ?_) | (refine callX (.int .i64 (sh : Nat)) (by kernel_rfl) rfl (trivial) (fun β w hm => HS w) ?_) | (refine callX (.int .i64 (b : Nat)) (by kernel_rfl) rfl (trivial) (fun β w hm => HB w) ?_) | (refine callX (.int .i64 (a : Nat)) (by kernel_rfl) rfl (trivial) (fun β w hm => HA w) ?_)) | ((with_reducible show OpX _ _ _ _); first | fail) | ((with_reducible show ∃ _ : SV, _); first | fail) | ((with_reducible show ∃ _, _); first | (refine ⟨n, rfl, by omega, ?_⟩)))
  all_goals (show Value.tuple #[Value.int _ _, Value.int _ _] = _; simp_all [bI9, bI32, bI33, bI34, bI35, bI36, bI39, bI40, bI43, bI45, bI46, bI48, bI57, bI58, bI65, bI69, bI91, bI93, bI95, bI97, bI101]; try omega)
  all_goals ((repeat' split) <;> (first | omega | (simp_all; done) | (simp_all; omega)))
set_option maxRecDepth 100000 in
theorem arrF : ∀ β, ∀ v ∈ SV.dens β (ScP.faults.map SV.str), v.cells = #[v] := fun β v hv => by
  simp only [ScP.faults, List.map_cons, List.map_nil, SV.dens, SV.den, List.mem_cons, List.mem_nil_iff, or_false] at hv
  rcases hv with rfl | rfl | rfl | rfl | rfl | rfl | rfl <;> rfl
theorem fault_at {k : Nat} (h : k < 7) : ScP.faults.drop k = ScP.faults.getD k [] :: ScP.faults.drop (k + 1) ∧ (ScP.faults.map SV.str)[k]? = some (.str (ScP.faults.getD k [])) ∧ (ScP.faults.getD k []).length ≤ 10 := by
  have : ∀ k : Fin 7, ScP.faults.drop k.val = ScP.faults.getD k.val [] :: ScP.faults.drop (k.val + 1) ∧ (ScP.faults.getD k.val []).length ≤ 10 ∧ ScP.faults[k.val]? = some (ScP.faults.getD k.val []) := by decide
  obtain ⟨a, b, c⟩ := this ⟨k, h⟩
  exact ⟨a, by rw [List.getElem?_map, c]; rfl, b⟩
set_option maxRecDepth 100000 in
set_option maxHeartbeats 4000000 in
theorem next_any (s : List UInt8) (w : World) (hs : s.length ≤ 1000000) (h0 : 0 < s.length) : Calls Tryz.prog 36 #[.string (bstr s)] w fun e w' => e = .returned (.tuple #[.int .i64 ((ScP.tokP s).1 : Nat), .int .i64 ((ScP.tokP s).2 : Nat)]) ∧ Below w.heap.size w w' := by
  have HB := fun w => run_any fblank s w hs
  have HQ := fun w => quoted_any s (s.getD 0 0) w hs
  have HR := fun w => rows_any s w hs
  have HN := fun w => number_any s w hs
  have HW := fun w => word_any s w hs
  have l1 := ScP.quo_le (s.getD 0 0) (s.drop 1) 1
  have HS := fun w => sheeted_any s (ScP.quotedP s (s.getD 0 0)) w hs (by unfold ScP.quotedP; simp at l1 ⊢; omega)
  unfold ScP.tokP
  dsimp only
  generalize ScP.sheetedP s (ScP.quotedP s (s.getD 0 0)) = sh at *
  generalize ScP.quotedP s (s.getD 0 0) = q at *
  generalize ScP.runP ScP.blankC s = rb at *
  generalize ScP.rowsP s = rr at *
  generalize ScP.numberP s = nn at *
  generalize hwd : ScP.wordP s = wd at *
  obtain ⟨w1, w2⟩ := wd
  refine enter env_ok Tryz.func36 rfl Tryz.results36 Tryz.ntmps36 [] [] [.str s] (by simp [SV.oks, SV.ok]) (Nat.le_of_ble_eq_true rfl) w _ 1000 ?_
  repeat' (first | ((with_reducible first | show wpS _ _ _ _ | show putD _ _ _ _ | show putW _ _ _ _ | show splitG _ _ _ | show wpQ _ _ _ _ _ _ | show wpD _ _ _ _ _ _ _ | show wpX _ _ _ _ _ _ | show expX _ _ _ _ _ _ | show stepX _ _ _ _); conv => whnf) | ((with_reducible show RetN _ _ _); refine retB fun β => ?_) | ((with_reducible show _ ∧ _); first | (apply And.intro; (· intro h; exfalso; first | omega | (revert h; decide)); intro _) | (apply And.intro; rotate_left; (· intro h; exfalso; first | omega | (revert h; decide)); intro _) | (refine ⟨fun _ => ?_, fun _ => ?_⟩) | (apply And.intro; · kernel_rfl) | (apply And.intro; · (show inK _ _; unfold inK; omega)) | (apply And.intro; · (show (_ : Int) ≤ 9223372036854775807; (try simp only [List.length_append, List.length_drop, List.length_take, List.length_cons, List.length_nil]); omega))) | ((with_reducible show bothX _ _); refine bothI ?_ ?_; conv => whnf) | (with_reducible exact trivial) | ((with_reducible show CallN _ _ _ _ _ _ _ _); refine call_of env_ok rfl 1000 ?_) | ((with_reducible show XopN _ _ _ _ _ _); refine xop_of env_ok rfl 1000 ?_) | ((with_reducible show CallX _ _ _ _ _ _); first | (refine callX (.int .i64 (rb : Nat)) (by kernel_rfl) rfl (trivial) (fun β w hm => HB w) ?_) | (refine callX (.int .i64 (q : Nat)) (by kernel_rfl) rfl (trivial) (fun β w hm => HQ w) ?_) | (refine callX (.int .i64 (sh : Nat)) (by kernel_rfl) rfl (trivial) (fun β w hm => HS w) ?_) | (refine callX (.int .i64 (rr : Nat)) (by kernel_rfl) rfl (trivial) (fun β w hm => HR w) ?_) | (refine callX (.int .i64 (nn : Nat)) (by kernel_rfl) rfl (trivial) (fun β w hm => HN w) ?_) | (refine callX (.tup [.int .i64 (w1 : Nat), .int .i64 (w2 : Nat)]) (by kernel_rfl) rfl (⟨trivial, trivial, trivial⟩) (fun β w hm => HW w) ?_) | (refine callX (.bool (RfP.isDigit (s.getD 0 0))) (by kernel_rfl) rfl (trivial) (fun β w hm => fdigit.run _ w) ?_) | (refine callX (.bool (RfP.isLetter (s.getD 0 0))) (by kernel_rfl) rfl (trivial) (fun β w hm => fletter.run _ w) ?_) | (refine callX (.bool (ScP.refT.isPrefixOf s)) (by kernel_rfl) rfl (trivial) (fun β w hm => hasP_any s ScP.refT w) ?_) | (refine callX (.bool (([60, 61] : List UInt8).isPrefixOf s)) (by kernel_rfl) rfl (trivial) (fun β w hm => hasP_any s [60, 61] w) ?_) | (refine callX (.bool (([62, 61] : List UInt8).isPrefixOf s)) (by kernel_rfl) rfl (trivial) (fun β w hm => hasP_any s [62, 61] w) ?_) | (refine callX (.bool (([60, 62] : List UInt8).isPrefixOf s)) (by kernel_rfl) rfl (trivial) (fun β w hm => hasP_any s [60, 62] w) ?_) | (refine callX (.int .i64 (Lib.indexByte ScP.ops (s.getD 0 0))) (by kernel_rfl) rfl (trivial) (fun β w hm => indexB_any ScP.ops _ w) ?_)) | ((with_reducible show OpX _ _ _ _); first | fail) | ((with_reducible show ∃ _ : SV, _); first | (refine ⟨_, ?ok, x_arr (us := ScP.faults.map SV.str) Tryz.underlying93 (fun w => Tryz.sizeOf9 w) (fun w => Tryz.zeroValue93 w) rfl rfl rfl arrF, ?_⟩; (case ok => exact fun _ h => h))) | ((with_reducible show ∃ _, _); first | (refine ⟨0, rfl, h0, ?_⟩)))
  all_goals have hO := index_has (s.getD 0 0) ScP.ops
  all_goals first | (with_reducible show LoopN _ _ _ _) | ((show Value.tuple #[Value.int _ _, Value.int _ _] = _); first | (simp_all [bI9, bI32, bI33, bI34, bI35, bI36, bI39, bI40, bI43, bI45, bI46, bI48, bI57, bI58, bI65, bI69, bI91, bI93, bI95, bI97, bI101, ScP.blankC]; done) | (simp_all [bI9, bI32, bI33, bI34, bI35, bI36, bI39, bI40, bI43, bI45, bI46, bI48, bI57, bI58, bI65, bI69, bI91, bI93, bI95, bI97, bI101, ScP.blankC]; omega) | (have hO2 := hO.symm.trans (decide_eq_false ‹¬ 0 ≤ Lib.indexByte ScP.ops (s.getD 0 0)›); clear hO; simp_all [bI9, bI32, bI33, bI34, bI35, bI36, bI39, bI40, bI43, bI45, bI46, bI48, bI57, bI58, bI65, bI69, bI91, bI93, bI95, bI97, bI101, ScP.blankC]; done) | (simp_all [bI9, bI32, bI33, bI34, bI35, bI36, bI39, bI40, bI43, bI45, bI46, bI48, bI57, bI58, bI65, bI69, bI91, bI93, bI95, bI97, bI101, ScP.blankC]; (repeat' split) <;> (first | omega | simp_all)))
  have hX : (if ScP.blankC (s.getD 0 0) = true then (0, rb) else if s.getD 0 0 = 34 then (2, q) else if s.getD 0 0 = 35 then if List.isPrefixOf ScP.refT s = true then (4, 5) else ScP.faultP s ScP.faults else if s.getD 0 0 = 39 then if q = 0 then (4, 0) else (4, sh) else if RfP.isDigit (s.getD 0 0) = true then if rr = 0 then (1, nn) else (4, rr) else if (RfP.isLetter (s.getD 0 0) || s.getD 0 0 == 95 || s.getD 0 0 == 36) = true then (w1, w2) else if [60, 61].isPrefixOf s = true ∨ [62, 61].isPrefixOf s = true ∨ [60, 62].isPrefixOf s = true then (8, 2) else if List.contains ScP.ops (s.getD 0 0) = true then (8, 1) else (8, 0)) = ScP.faultP s ScP.faults := by
    clear HB HQ HR HN HW HS
    simp_all [bI9, bI32, bI33, bI34, bI35, bI36, bI39, bI40, bI43, bI45, bI46, bI48, bI57, bI58, bI65, bI69, bI91, bI93, bI95, bI97, bI101, ScP.blankC]
  rw [hX]
  clear hX hO HB HQ HR HN HW HS hwd l1
  refine loop env_ok rfl (T := {k : Nat // k ≤ 7 ∧ ScP.faultP s ScP.faults = ScP.faultP s (ScP.faults.drop k)}) (fun t => ⟨[(0, .str s), (31, .agg (ScP.faults.map SV.str)), (32, .int .i64 (t.1 : Nat))], [], 0, 92⟩) (fun t => 7 - t.1) ⟨0, Nat.zero_le _, rfl⟩ 1000 [] [] (fun _ => Nat.zero_le _) (by ((with_reducible show wk _ _); repeat' (first | exact trivial | exact eqSV_refl _ | (refine eqI ?_) | (refine eqS ?_) | (with_reducible exact rfl) | apply And.intro | exact Nat.zero_lt_one | exact Nat.le_of_ble_eq_true rfl | (with_reducible assumption) | ((show (_ : Int) = _); (try dsimp only); omega) | ((show eqSV _ _); simp [eqSV, isB, bval, *]; done) | rfl))) (fun t I hI => ?_)
  obtain ⟨k, hk, hf⟩ := t
  dsimp only
  by_cases hlt : k < 7
  · obtain ⟨f1, f2, f3⟩ := fault_at hlt
    generalize ScP.faults.getD k [] = f at *
    rw [f1] at hf
    rw [show ScP.faultP s (f :: ScP.faults.drop (k + 1)) = if f.isPrefixOf s = true then (3, f.length) else ScP.faultP s (ScP.faults.drop (k + 1)) from rfl] at hf
    repeat' (first | ((with_reducible first | show wpS _ _ _ _ | show putD _ _ _ _ | show putW _ _ _ _ | show splitG _ _ _ | show wpQ _ _ _ _ _ _ | show wpD _ _ _ _ _ _ _ | show wpX _ _ _ _ _ _ | show expX _ _ _ _ _ _ | show stepX _ _ _ _); conv => whnf) | ((with_reducible show RetN _ _ _); refine retB fun β => ?_) | ((with_reducible show _ ∧ _); first | (apply And.intro; (· intro h; exfalso; first | omega | (revert h; decide)); intro _) | (apply And.intro; rotate_left; (· intro h; exfalso; first | omega | (revert h; decide)); intro _) | (refine ⟨fun _ => ?_, fun _ => ?_⟩) | (apply And.intro; · kernel_rfl) | (apply And.intro; · (show inK _ _; unfold inK; omega)) | (apply And.intro; · (show (_ : Int) ≤ 9223372036854775807; (try simp only [List.length_append, List.length_drop, List.length_take, List.length_cons, List.length_nil]); omega))) | ((with_reducible show bothX _ _); refine bothI ?_ ?_; conv => whnf) | (with_reducible exact trivial) | ((with_reducible show CallN _ _ _ _ _ _ _ _); refine call_of env_ok rfl 1000 ?_) | ((with_reducible show XopN _ _ _ _ _ _); refine xop_of env_ok rfl 1000 ?_) | ((with_reducible show CallX _ _ _ _ _ _); first | (refine callX (.bool (f.isPrefixOf s)) (by kernel_rfl) rfl (trivial) (fun β w hm => hasP_any s f w) ?_)) | ((with_reducible show OpX _ _ _ _); first | fail) | ((with_reducible show ∃ _ : SV, _); first | (refine ⟨.str f, ?ok, x_indexAgg (j := k) Tryz.underlying93 (fun w => Tryz.sizeOf9 w) (fun w => Tryz.isAgg9 w) hlt f2, ?_⟩; (case ok => exact fun _ _ => trivial))) | ((with_reducible show ∃ _, _); first | fail))
    · rw [hf, if_pos ‹_›]; rfl
    · refine hI _ ⟨k + 1, by omega, by rw [hf, if_neg (by simp_all)]⟩ (by dsimp only; omega) (by ((with_reducible show wk _ _); repeat' (first | exact trivial | exact eqSV_refl _ | (refine eqI ?_) | (refine eqS ?_) | (with_reducible exact rfl) | apply And.intro | exact Nat.zero_lt_one | exact Nat.le_of_ble_eq_true rfl | (with_reducible assumption) | ((show (_ : Int) = _); (try dsimp only); omega) | ((show eqSV _ _); simp [eqSV, isB, bval, *]; done) | rfl)))
  · rw [List.drop_eq_nil_of_le (by show 7 ≤ k; omega)] at hf
    repeat' (first | ((with_reducible first | show wpS _ _ _ _ | show putD _ _ _ _ | show putW _ _ _ _ | show splitG _ _ _ | show wpQ _ _ _ _ _ _ | show wpD _ _ _ _ _ _ _ | show wpX _ _ _ _ _ _ | show expX _ _ _ _ _ _ | show stepX _ _ _ _); conv => whnf) | ((with_reducible show RetN _ _ _); refine retB fun β => ?_) | ((with_reducible show _ ∧ _); first | (apply And.intro; (· intro h; exfalso; first | omega | (revert h; decide)); intro _) | (apply And.intro; rotate_left; (· intro h; exfalso; first | omega | (revert h; decide)); intro _) | (refine ⟨fun _ => ?_, fun _ => ?_⟩) | (apply And.intro; · kernel_rfl) | (apply And.intro; · (show inK _ _; unfold inK; omega)) | (apply And.intro; · (show (_ : Int) ≤ 9223372036854775807; (try simp only [List.length_append, List.length_drop, List.length_take, List.length_cons, List.length_nil]); omega))) | ((with_reducible show bothX _ _); refine bothI ?_ ?_; conv => whnf) | (with_reducible exact trivial) | ((with_reducible show CallN _ _ _ _ _ _ _ _); refine call_of env_ok rfl 1000 ?_) | ((with_reducible show XopN _ _ _ _ _ _); refine xop_of env_ok rfl 1000 ?_) | ((with_reducible show CallX _ _ _ _ _ _); first | fail) | ((with_reducible show OpX _ _ _ _); first | fail) | ((with_reducible show ∃ _ : SV, _); first | fail) | ((with_reducible show ∃ _, _); first | fail))
    rw [hf]; rfl
end Go.Proofs.YtmodjglbjempkaaGreatDoor
namespace Go.Proofs.YtmodjglbjempkaaGreatDoor
open Go.RowKit
open Sym
attribute [local irreducible] Calls
namespace ScP
theorem pre_take : ∀ (p s : Str), p.isPrefixOf s = (decide (p.length ≤ s.length) && decide (s.take p.length = p))
  | [], s => by simp
  | c :: p, [] => by simp
  | c :: p, d :: s => by
    have ih := pre_take p s
    rw [List.isPrefixOf_cons_cons, ih, Bool.eq_iff_iff]
    simp
    constructor
    · rintro ⟨rfl, h1, h2⟩; exact ⟨h1, rfl, h2⟩
    · rintro ⟨h1, rfl, h2⟩; exact ⟨rfl, h1, h2⟩
theorem pre_one (c : UInt8) (s : Str) (n : Nat) : ([c] : Str).isPrefixOf (s.drop n) = (decide (n < s.length) && decide (s.getD n 0 = c)) := by
  by_cases h : n < s.length
  · rw [drop_at s n h, Bool.eq_iff_iff]
    simp [List.isPrefixOf, h]
    exact ⟨fun e => e.symm, fun e => e.symm⟩
  · rw [List.drop_eq_nil_of_le (by omega)]; simp [List.isPrefixOf, h]
theorem ix_step {c : UInt8} {s : Str} {n : Nat} (h : n < s.length) (hc : ¬ s.getD n 0 = c) : (if Lib.indexByte (s.drop n) c = -1 then -1 else (n : Int) + Lib.indexByte (s.drop n) c) = (if Lib.indexByte (s.drop (n + 1)) c = -1 then -1 else ((n + 1 : Nat) : Int) + Lib.indexByte (s.drop (n + 1)) c) := by
  rw [drop_at s n h]
  have hg := Lib.indexByte_ge (s.drop (n + 1)) c
  have h2 : (s.getD n 0 == c) = false := by simpa using hc
  conv => lhs; unfold Lib.indexByte
  rw [h2]
  simp only [Bool.false_eq_true, if_false]
  by_cases h3 : Lib.indexByte (s.drop (n + 1)) c = -1
  · rw [h3]; rfl
  · have h4 : (Lib.indexByte (s.drop (n + 1)) c == -1) = false := by simpa using h3
    rw [h4]; simp only [Bool.false_eq_true, if_false]
    rw [if_neg (by omega), if_neg h3]; omega
theorem ix_stop {c : UInt8} {s : Str} {n : Nat} (h : n < s.length) (hc : s.getD n 0 = c) : (if Lib.indexByte (s.drop n) c = -1 then -1 else (n : Int) + Lib.indexByte (s.drop n) c) = n := by
  rw [drop_at s n h]
  unfold Lib.indexByte
  have h2 : (s.getD n 0 == c) = true := by simpa using hc
  rw [h2]; simp
theorem ix_end {c : UInt8} {s : Str} {n : Nat} (h : s.length ≤ n) : (if Lib.indexByte (s.drop n) c = -1 then -1 else (n : Int) + Lib.indexByte (s.drop n) c) = -1 := by
  rw [List.drop_eq_nil_of_le h]; rfl
theorem ix_start (c : UInt8) (s : Str) : Lib.indexByte s c = (if Lib.indexByte (s.drop 0) c = -1 then -1 else ((0 : Nat) : Int) + Lib.indexByte (s.drop 0) c) := by
  simp only [List.drop_zero]
  split <;> omega
def starts : List Str := [[101], [69], [101, 43], [69, 43], [101, 45], [69, 45]]
def tryP (s : Str) (N : Nat) (st : Str) : Bool := st.isPrefixOf (s.drop N) && (decide (N + st.length < s.length) && isDig (s.getD (N + st.length) 0))
where isDig (c : UInt8) : Bool := RfP.isDigit c
theorem run_dig {s : Str} {n : Nat} : 0 < runP RfP.isDigit (s.drop n) ↔ (n < s.length ∧ RfP.isDigit (s.getD n 0) = true) := by
  by_cases h : n < s.length
  · by_cases h2 : RfP.isDigit (s.getD n 0) = true
    · rw [run_inn h h2]; exact ⟨fun _ => ⟨h, h2⟩, fun _ => by omega⟩
    · rw [run_out h (by simpa using h2)]; exact ⟨fun e => by omega, fun e => absurd e.2 h2⟩
  · rw [run_end (by omega)]; exact ⟨fun e => by omega, fun e => absurd e.1 h⟩
theorem pre_two (c d : UInt8) (s : Str) (n : Nat) : ([c, d] : Str).isPrefixOf (s.drop n) = true ↔ (n + 1 < s.length ∧ s.getD n 0 = c ∧ s.getD (n + 1) 0 = d) := by
  by_cases h : n + 1 < s.length
  · rw [drop_at s n (by omega), drop_at s (n + 1) h]
    simp only [List.isPrefixOf, Bool.and_true, Bool.and_eq_true, beq_iff_eq]
    exact ⟨fun e => ⟨h, e.1.symm, e.2.symm⟩, fun e => ⟨e.2.1.symm, e.2.2.symm⟩⟩
  · refine ⟨fun e => ?_, fun e => absurd e.1 h⟩
    rw [pre_take] at e
    simp at e
    omega
theorem pre_1 (c : UInt8) (s : Str) (n : Nat) : ([c] : Str).isPrefixOf (s.drop n) = true ↔ (n < s.length ∧ s.getD n 0 = c) := by
  rw [pre_one]; simp only [Bool.and_eq_true, decide_eq_true_iff]
theorem try_iff (s : Str) (N : Nat) (st : Str) : tryP s N st = true ↔ (st.isPrefixOf (s.drop N) = true ∧ N + st.length < s.length ∧ RfP.isDigit (s.getD (N + st.length) 0) = true) := by
  unfold tryP tryP.isDig; simp only [Bool.and_eq_true, decide_eq_true_iff]
theorem dig_sign {c : UInt8} (h : RfP.isDigit c = true) : ¬ (c = 43 ∨ c = 45) := by
  rintro (rfl | rfl) <;> revert h <;> decide
theorem exp_at {s : Str} {N M : Nat} (h1 : N < s.length) (h2 : s.getD N 0 = 101 ∨ s.getD N 0 = 69) (h3 : signP s (N + 1) = M) (h4 : M < s.length) (h5 : RfP.isDigit (s.getD M 0) = true) : expP s N = M + runP RfP.isDigit (s.drop M) := by
  unfold expP
  rw [h3, if_pos ⟨h1, h2, run_dig.2 ⟨h4, h5⟩⟩]
theorem exp_try {s : Str} {N : Nat} {st : Str} (hst : st ∈ starts) (h : tryP s N st = true) : expP s N = N + st.length + runP RfP.isDigit (s.drop (N + st.length)) := by
  rw [try_iff] at h
  obtain ⟨h1, h2, h3⟩ := h
  simp only [starts, List.mem_cons, List.mem_nil_iff, or_false] at hst
  rcases hst with rfl | rfl | rfl | rfl | rfl | rfl
  · rw [pre_1] at h1
    exact exp_at h1.1 (.inl h1.2) (by unfold signP; rw [if_neg (fun e => dig_sign h3 e.2)]; rfl) h2 h3
  · rw [pre_1] at h1
    exact exp_at h1.1 (.inr h1.2) (by unfold signP; rw [if_neg (fun e => dig_sign h3 e.2)]; rfl) h2 h3
  · rw [pre_two] at h1
    exact exp_at (by omega) (.inl h1.2.1) (by unfold signP; rw [if_pos ⟨h1.1, .inl h1.2.2⟩]; rfl) h2 h3
  · rw [pre_two] at h1
    exact exp_at (by omega) (.inr h1.2.1) (by unfold signP; rw [if_pos ⟨h1.1, .inl h1.2.2⟩]; rfl) h2 h3
  · rw [pre_two] at h1
    exact exp_at (by omega) (.inl h1.2.1) (by unfold signP; rw [if_pos ⟨h1.1, .inr h1.2.2⟩]; rfl) h2 h3
  · rw [pre_two] at h1
    exact exp_at (by omega) (.inr h1.2.1) (by unfold signP; rw [if_pos ⟨h1.1, .inr h1.2.2⟩]; rfl) h2 h3
theorem exp_none {s : Str} {N : Nat} (h : ∀ st ∈ starts, tryP s N st = false) : expP s N = N := by
  unfold expP
  refine if_neg fun e => ?_
  obtain ⟨h1, h2, h3⟩ := e
  rw [run_dig] at h3
  unfold signP at h3
  have no : ∀ st ∈ starts, ¬ (st.isPrefixOf (s.drop N) = true ∧ N + st.length < s.length ∧ RfP.isDigit (s.getD (N + st.length) 0) = true) := fun st hs e => by
    have := (try_iff s N st).2 e
    rw [h st hs] at this; cases this
  by_cases hs : N + 1 < s.length ∧ (s.getD (N + 1) 0 = 43 ∨ s.getD (N + 1) 0 = 45)
  · rw [if_pos hs] at h3
    rcases h2 with h2 | h2 <;> rcases hs with ⟨q, hs | hs⟩
    · exact no [101, 43] (by simp [starts]) ⟨(pre_two _ _ _ _).2 ⟨q, h2, hs⟩, h3⟩
    · exact no [101, 45] (by simp [starts]) ⟨(pre_two _ _ _ _).2 ⟨q, h2, hs⟩, h3⟩
    · exact no [69, 43] (by simp [starts]) ⟨(pre_two _ _ _ _).2 ⟨q, h2, hs⟩, h3⟩
    · exact no [69, 45] (by simp [starts]) ⟨(pre_two _ _ _ _).2 ⟨q, h2, hs⟩, h3⟩
  · rw [if_neg hs] at h3
    rcases h2 with h2 | h2
    · exact no [101] (by simp [starts]) ⟨(pre_1 _ _ _).2 ⟨h1, h2⟩, h3⟩
    · exact no [69] (by simp [starts]) ⟨(pre_1 _ _ _).2 ⟨h1, h2⟩, h3⟩
end ScP
set_option maxRecDepth 100000 in
theorem has_any (s p : List UInt8) (w : World) (hs : s.length ≤ 1000000) (hp : p.length ≤ 1000000) : Calls Tryz.prog 37 #[.string (bstr s), .string (bstr p)] w fun e w' => e = .returned (.bool (p.isPrefixOf s)) ∧ Below w.heap.size w w' := by
  rw [ScP.pre_take]
  refine enter env_ok Tryz.func37 rfl Tryz.results37 Tryz.ntmps37 [] [] [.str s, .str p] (by simp [SV.oks, SV.ok]) (Nat.le_of_ble_eq_true rfl) w _ 1000 ?_
  repeat' (first | ((with_reducible first | show wpS _ _ _ _ | show putD _ _ _ _ | show putW _ _ _ _ | show splitG _ _ _ | show wpQ _ _ _ _ _ _ | show wpD _ _ _ _ _ _ _ | show wpX _ _ _ _ _ _ | show expX _ _ _ _ _ _ | show stepX _ _ _ _); conv => whnf) | ((with_reducible show RetN _ _ _); refine retB fun β => ?_) | ((with_reducible show _ ∧ _); first | (apply And.intro; (· intro h; exfalso; first | omega | (revert h; decide)); intro _) | (apply And.intro; rotate_left; (· intro h; exfalso; first | omega | (revert h; decide)); intro _) | (refine ⟨fun _ => ?_, fun _ => ?_⟩) | (apply And.intro; · kernel_rfl) | (apply And.intro; · (show inK _ _; unfold inK; omega)) | (apply And.intro; · (show (_ : Int) ≤ 9223372036854775807; (try simp only [List.length_append, List.length_drop, List.length_take, List.length_cons, List.length_nil]); omega))) | ((with_reducible show bothX _ _); refine bothI ?_ ?_; conv => whnf) | (with_reducible exact trivial) | ((with_reducible show CallN _ _ _ _ _ _ _ _); refine call_of env_ok rfl 1000 ?_) | ((with_reducible show XopN _ _ _ _ _ _); refine xop_of env_ok rfl 1000 ?_) | ((with_reducible show CallX _ _ _ _ _ _); first | fail) | ((with_reducible show OpX _ _ _ _); first | fail) | ((with_reducible show ∃ _ : SV, _); first | fail) | ((with_reducible show ∃ _, _); first | (refine ⟨p.length, rfl, by omega, ?_⟩)))
  all_goals (show Value.bool _ = _; congr 1; rw [Bool.eq_iff_iff]; simp; try omega)
set_option maxRecDepth 100000 in
set_option maxHeartbeats 2000000 in
theorem rIndex_any (s : List UInt8) (c : UInt8) (w : World) (hs : s.length ≤ 1000000) : Calls Tryz.prog 33 #[.string (bstr s), .int .u8 (c.toNat : Int)] w fun e w' => e = .returned (.int .i64 (Lib.indexByte s c)) ∧ Below w.heap.size w w' := by
  rw [ScP.ix_start]
  refine enter env_ok Tryz.func33 rfl Tryz.results33 Tryz.ntmps33 [] [] [.str s, .int .u8 (c.toNat : Int)] (by simp [SV.oks, SV.ok]) (Nat.le_of_ble_eq_true rfl) w _ 1000 ?_
  repeat' (first | ((with_reducible first | show wpS _ _ _ _ | show putD _ _ _ _ | show putW _ _ _ _ | show splitG _ _ _ | show wpQ _ _ _ _ _ _ | show wpD _ _ _ _ _ _ _ | show wpX _ _ _ _ _ _ | show expX _ _ _ _ _ _ | show stepX _ _ _ _); conv => whnf) | ((with_reducible show RetN _ _ _); refine retB fun β => ?_) | ((with_reducible show _ ∧ _); first | (apply And.intro; (· intro h; exfalso; first | omega | (revert h; decide)); intro _) | (apply And.intro; rotate_left; (· intro h; exfalso; first | omega | (revert h; decide)); intro _) | (refine ⟨fun _ => ?_, fun _ => ?_⟩) | (apply And.intro; · kernel_rfl) | (apply And.intro; · (show inK _ _; unfold inK; omega)) | (apply And.intro; · (show (_ : Int) ≤ 9223372036854775807; (try simp only [List.length_append, List.length_drop, List.length_take, List.length_cons, List.length_nil]); omega))) | ((with_reducible show bothX _ _); refine bothI ?_ ?_; conv => whnf) | (with_reducible exact trivial) | ((with_reducible show CallN _ _ _ _ _ _ _ _); refine call_of env_ok rfl 1000 ?_) | ((with_reducible show XopN _ _ _ _ _ _); refine xop_of env_ok rfl 1000 ?_) | ((with_reducible show CallX _ _ _ _ _ _); first | fail) | ((with_reducible show OpX _ _ _ _); first | fail) | ((with_reducible show ∃ _ : SV, _); first | fail) | ((with_reducible show ∃ _, _); first | fail))
  refine loop env_ok rfl (T := {n : Nat // n ≤ s.length ∧ (if Lib.indexByte (s.drop 0) c = -1 then -1 else ((0 : Nat) : Int) + Lib.indexByte (s.drop 0) c) = (if Lib.indexByte (s.drop n) c = -1 then -1 else (n : Int) + Lib.indexByte (s.drop n) c)}) (fun t => ⟨[(0, .str s), (1, .int .u8 (c.toNat : Int)), (7, .int .i64 (s.length : Nat)), (8, .int .i64 (t.1 : Nat))], [], 0, 18⟩) (fun t => s.length - t.1) ⟨0, Nat.zero_le _, rfl⟩ 1000 [] [] (fun _ => Nat.zero_le _) (by ((with_reducible show wk _ _); repeat' (first | exact trivial | exact eqSV_refl _ | (refine eqI ?_) | (refine eqS ?_) | (with_reducible exact rfl) | apply And.intro | exact Nat.zero_lt_one | exact Nat.le_of_ble_eq_true rfl | (with_reducible assumption) | ((show (_ : Int) = _); (try dsimp only); omega) | ((show eqSV _ _); simp [eqSV, isB, bval, *]; done) | rfl))) (fun t I hI => ?_)
  obtain ⟨n, hn, hr⟩ := t
  dsimp only
  repeat' (first | ((with_reducible first | show wpS _ _ _ _ | show putD _ _ _ _ | show putW _ _ _ _ | show splitG _ _ _ | show wpQ _ _ _ _ _ _ | show wpD _ _ _ _ _ _ _ | show wpX _ _ _ _ _ _ | show expX _ _ _ _ _ _ | show stepX _ _ _ _); conv => whnf) | ((with_reducible show RetN _ _ _); refine retB fun β => ?_) | ((with_reducible show _ ∧ _); first | (apply And.intro; (· intro h; exfalso; first | omega | (revert h; decide)); intro _) | (apply And.intro; rotate_left; (· intro h; exfalso; first | omega | (revert h; decide)); intro _) | (refine ⟨fun _ => ?_, fun _ => ?_⟩) | (apply And.intro; · kernel_rfl) | (apply And.intro; · (show inK _ _; unfold inK; omega)) | (apply And.intro; · (show (_ : Int) ≤ 9223372036854775807; (try simp only [List.length_append, List.length_drop, List.length_take, List.length_cons, List.length_nil]); omega))) | ((with_reducible show bothX _ _); refine bothI ?_ ?_; conv => whnf) | (with_reducible exact trivial) | ((with_reducible show CallN _ _ _ _ _ _ _ _); refine call_of env_ok rfl 1000 ?_) | ((with_reducible show XopN _ _ _ _ _ _); refine xop_of env_ok rfl 1000 ?_) | ((with_reducible show CallX _ _ _ _ _ _); first | fail) | ((with_reducible show OpX _ _ _ _); first | fail) | ((with_reducible show ∃ _ : SV, _); first | fail) | ((with_reducible show ∃ _, _); first | (refine ⟨n, rfl, by omega, ?_⟩)))
  · rw [hr, ScP.ix_stop (by omega) (byteI (by assumption))]; rfl
  · refine hI _ ⟨n + 1, by omega, by rw [hr, ScP.ix_step (by omega) (fun e => absurd ‹¬ _› (not_not_intro (by rw [e])))]⟩ (by dsimp only; omega) (by ((with_reducible show wk _ _); repeat' (first | exact trivial | exact eqSV_refl _ | (refine eqI ?_) | (refine eqS ?_) | (with_reducible exact rfl) | apply And.intro | exact Nat.zero_lt_one | exact Nat.le_of_ble_eq_true rfl | (with_reducible assumption) | ((show (_ : Int) = _); (try dsimp only); omega) | ((show eqSV _ _); simp [eqSV, isB, bval, *]; done) | rfl)))
  · rw [hr, ScP.ix_end (by omega)]; rfl
end Go.Proofs.YtmodjglbjempkaaGreatDoor
namespace Go.Proofs.YtmodjglbjempkaaGreatDoor
open Go.RowKit
open Sym
attribute [local irreducible] Calls
set_option maxRecDepth 100000 in
theorem arrS : ∀ β, ∀ v ∈ SV.dens β (ScP.starts.map SV.str), v.cells = #[v] := fun β v hv => by
  simp only [ScP.starts, List.map_cons, List.map_nil, SV.dens, SV.den, List.mem_cons, List.mem_nil_iff, or_false] at hv
  rcases hv with rfl | rfl | rfl | rfl | rfl | rfl <;> rfl
theorem start_at {k : Nat} (h : k < 6) : ScP.starts.getD k [] ∈ ScP.starts ∧ (ScP.starts.map SV.str)[k]? = some (.str (ScP.starts.getD k [])) ∧ (ScP.starts.getD k []).length ≤ 2 ∧ ScP.starts.take (k + 1) = ScP.starts.take k ++ [ScP.starts.getD k []] := by
  have : ∀ k : Fin 6, ScP.starts.getD k.val [] ∈ ScP.starts ∧ (ScP.starts.getD k.val []).length ≤ 2 ∧ ScP.starts[k.val]? = some (ScP.starts.getD k.val []) ∧ ScP.starts.take (k.val + 1) = ScP.starts.take k.val ++ [ScP.starts.getD k.val []] := by decide
  obtain ⟨a, b, c, d⟩ := this ⟨k, h⟩
  exact ⟨a, by rw [List.getElem?_map, c]; rfl, b, d⟩
set_option maxRecDepth 100000 in
set_option maxHeartbeats 4000000 in
theorem numLen_any (s : List UInt8) (w : World) (hs : s.length ≤ 1000000) : Calls Tryz.prog 86 #[.string (bstr s)] w fun e w' => e = .returned (.int .i64 (ScP.numberP s : Nat)) ∧ Below w.heap.size w w' := by
  have hd := ScP.run_le RfP.isDigit s
  have HD := fun w => span_any rDigit s w hs
  unfold ScP.numberP
  generalize ScP.runP RfP.isDigit s = n at *
  have hN := frac_or s n
  have h2 := ScP.frac_le s n hd
  generalize ScP.fracP s n = N at *
  have h1 := ScP.run_drop RfP.isDigit s (n + 1)
  have HN := fun w => span_any rDigit (s.drop (n + 1)) w (by simp; omega)
  have hk := ScP.run_dig (s := s) (n := n + 1)
  have HC := fun w => rDigit.run (s.getD (n + 1) 0) w
  generalize ScP.runP RfP.isDigit (s.drop (n + 1)) = k1 at *
  have HF := ScP.exp_none (s := s) (N := N)
  have HT := fun st hst => ScP.exp_try (s := s) (N := N) (st := st) hst
  generalize ScP.expP s N = R at *
  generalize RfP.isDigit (s.getD (n + 1) 0) = b at *
  cases b
  all_goals (
    simp only [Bool.false_eq_true, and_false, and_true, iff_false] at hk
    refine enter env_ok Tryz.func86 rfl Tryz.results86 Tryz.ntmps86 [25] [] [.str s] (by simp [SV.oks, SV.ok]) (Nat.le_of_ble_eq_true rfl) w _ 1000 ?_
    repeat' (first | ((with_reducible first | show wpS _ _ _ _ | show putD _ _ _ _ | show putW _ _ _ _ | show splitG _ _ _ | show wpQ _ _ _ _ _ _ | show wpD _ _ _ _ _ _ _ | show wpX _ _ _ _ _ _ | show expX _ _ _ _ _ _ | show stepX _ _ _ _); conv => whnf) | ((with_reducible show RetN _ _ _); refine retB fun β => ?_) | ((with_reducible show _ ∧ _); first | (apply And.intro; (· intro h; exfalso; first | omega | (revert h; decide)); intro _) | (apply And.intro; rotate_left; (· intro h; exfalso; first | omega | (revert h; decide)); intro _) | (refine ⟨fun _ => ?_, fun _ => ?_⟩) | (apply And.intro; · kernel_rfl) | (apply And.intro; · (show inK _ _; unfold inK; omega)) | (apply And.intro; · (show (_ : Int) ≤ 9223372036854775807; (try simp only [List.length_append, List.length_drop, List.length_take, List.length_cons, List.length_nil]); omega))) | ((with_reducible show bothX _ _); refine bothI ?_ ?_; conv => whnf) | (with_reducible exact trivial) | ((with_reducible show CallN _ _ _ _ _ _ _ _); refine call_of env_ok rfl 1000 ?_) | ((with_reducible show XopN _ _ _ _ _ _); refine xop_of env_ok rfl 1000 ?_) | ((with_reducible show CallX _ _ _ _ _ _); first | (refine callX (.int .i64 (n : Nat)) (by kernel_rfl) rfl (trivial) (fun β w hm => HD w) ?_) | (refine callX (.lit false) (by kernel_rfl) rfl (trivial) (fun β w hm => HC w) ?_) | (refine callX (.lit true) (by kernel_rfl) rfl (trivial) (fun β w hm => HC w) ?_)) | ((with_reducible show OpX _ _ _ _); first | fail) | ((with_reducible show ∃ _ : SV, _); first | fail) | ((with_reducible show ∃ _, _); first | (refine ⟨n, rfl, by omega, ?_⟩) | (refine ⟨n + 1, by omega, by omega, ?_⟩)))
    all_goals (
      refine join env_ok rfl (T := Unit) (fun _ => ⟨[(0, .str s), (3, .int .i64 (N : Nat))], [], 0, 75⟩) 1000 1000 [] [] [] [] (fun _ => Nat.zero_le _) (fun I hI => ?_) (fun _ => ?_)
      · repeat' (first | ((with_reducible first | show wpS _ _ _ _ | show putD _ _ _ _ | show putW _ _ _ _ | show splitG _ _ _ | show wpQ _ _ _ _ _ _ | show wpD _ _ _ _ _ _ _ | show wpX _ _ _ _ _ _ | show expX _ _ _ _ _ _ | show stepX _ _ _ _); conv => whnf) | ((with_reducible show RetN _ _ _); refine retB fun β => ?_) | ((with_reducible show _ ∧ _); first | (apply And.intro; (· intro h; exfalso; first | omega | (revert h; decide)); intro _) | (apply And.intro; rotate_left; (· intro h; exfalso; first | omega | (revert h; decide)); intro _) | (refine ⟨fun _ => ?_, fun _ => ?_⟩) | (apply And.intro; · kernel_rfl) | (apply And.intro; · (show inK _ _; unfold inK; omega)) | (apply And.intro; · (show (_ : Int) ≤ 9223372036854775807; (try simp only [List.length_append, List.length_drop, List.length_take, List.length_cons, List.length_nil]); omega))) | ((with_reducible show bothX _ _); refine bothI ?_ ?_; conv => whnf) | (with_reducible exact trivial) | ((with_reducible show CallN _ _ _ _ _ _ _ _); refine call_of env_ok rfl 1000 ?_) | ((with_reducible show XopN _ _ _ _ _ _); refine xop_of env_ok rfl 1000 ?_) | ((with_reducible show CallX _ _ _ _ _ _); first | (refine callX (.int .i64 (k1 : Nat)) (by kernel_rfl) rfl (trivial) (fun β w hm => HN w) ?_)) | ((with_reducible show OpX _ _ _ _); first | fail) | ((with_reducible show ∃ _ : SV, _); first | fail) | ((with_reducible show ∃ _, _); first | (refine ⟨n + 1, by omega, by omega, ?_⟩)))
        all_goals (refine hI _ () (by ((with_reducible show wk _ _); repeat' (first | exact trivial | exact eqSV_refl _ | (refine eqI ?_) | (refine eqS ?_) | (with_reducible exact rfl) | apply And.intro | exact Nat.zero_lt_one | exact Nat.le_of_ble_eq_true rfl | (with_reducible assumption) | ((show (_ : Int) = _); (try dsimp only); omega) | ((show eqSV _ _); simp [eqSV, isB, bval, *]; done) | rfl))))
      · repeat' (first | ((with_reducible first | show wpS _ _ _ _ | show putD _ _ _ _ | show putW _ _ _ _ | show splitG _ _ _ | show wpQ _ _ _ _ _ _ | show wpD _ _ _ _ _ _ _ | show wpX _ _ _ _ _ _ | show expX _ _ _ _ _ _ | show stepX _ _ _ _); conv => whnf) | ((with_reducible show RetN _ _ _); refine retB fun β => ?_) | ((with_reducible show _ ∧ _); first | (apply And.intro; (· intro h; exfalso; first | omega | (revert h; decide)); intro _) | (apply And.intro; rotate_left; (· intro h; exfalso; first | omega | (revert h; decide)); intro _) | (refine ⟨fun _ => ?_, fun _ => ?_⟩) | (apply And.intro; · kernel_rfl) | (apply And.intro; · (show inK _ _; unfold inK; omega)) | (apply And.intro; · (show (_ : Int) ≤ 9223372036854775807; (try simp only [List.length_append, List.length_drop, List.length_take, List.length_cons, List.length_nil]); omega))) | ((with_reducible show bothX _ _); refine bothI ?_ ?_; conv => whnf) | (with_reducible exact trivial) | ((with_reducible show CallN _ _ _ _ _ _ _ _); refine call_of env_ok rfl 1000 ?_) | ((with_reducible show XopN _ _ _ _ _ _); refine xop_of env_ok rfl 1000 ?_) | ((with_reducible show CallX _ _ _ _ _ _); first | fail) | ((with_reducible show OpX _ _ _ _); first | fail) | ((with_reducible show ∃ _ : SV, _); first | (refine ⟨_, ?ok, x_arr (us := ScP.starts.map SV.str) Tryz.underlying120 (fun w => Tryz.sizeOf9 w) (fun w => Tryz.zeroValue120 w) rfl rfl rfl arrS, ?_⟩; (case ok => exact fun _ h => h))) | ((with_reducible show ∃ _, _); first | fail))
        refine loop env_ok rfl (T := {k : Nat // k ≤ 6 ∧ ∀ st ∈ ScP.starts.take k, ScP.tryP s N st = false}) (fun t => ⟨[(0, .str s), (3, .int .i64 (N : Nat)), (34, .agg (ScP.starts.map SV.str)), (35, .int .i64 (t.1 : Nat))], [], 0, 75⟩) (fun t => 6 - t.1) ⟨0, Nat.zero_le _, by simp⟩ 1000 [] [] (fun _ => Nat.zero_le _) (by ((with_reducible show wk _ _); repeat' (first | exact trivial | exact eqSV_refl _ | (refine eqI ?_) | (refine eqS ?_) | (with_reducible exact rfl) | apply And.intro | exact Nat.zero_lt_one | exact Nat.le_of_ble_eq_true rfl | (with_reducible assumption) | ((show (_ : Int) = _); (try dsimp only); omega) | ((show eqSV _ _); simp [eqSV, isB, bval, *]; done) | rfl))) (fun t I hI => ?_)
        obtain ⟨k, hk, hf⟩ := t
        dsimp only
        by_cases hlt : k < 6
        · obtain ⟨f1, f2, f3, f4⟩ := start_at hlt
          generalize ScP.starts.getD k [] = f at *
          have hg := HT f f1
          have ht := ScP.try_iff s N f
          have hrd := ScP.run_drop RfP.isDigit s (N + f.length)
          repeat' (first | ((with_reducible first | show wpS _ _ _ _ | show putD _ _ _ _ | show putW _ _ _ _ | show splitG _ _ _ | show wpQ _ _ _ _ _ _ | show wpD _ _ _ _ _ _ _ | show wpX _ _ _ _ _ _ | show expX _ _ _ _ _ _ | show stepX _ _ _ _); conv => whnf) | ((with_reducible show RetN _ _ _); refine retB fun β => ?_) | ((with_reducible show _ ∧ _); first | (apply And.intro; (· intro h; exfalso; first | omega | (revert h; decide)); intro _) | (apply And.intro; rotate_left; (· intro h; exfalso; first | omega | (revert h; decide)); intro _) | (refine ⟨fun _ => ?_, fun _ => ?_⟩) | (apply And.intro; · kernel_rfl) | (apply And.intro; · (show inK _ _; unfold inK; omega)) | (apply And.intro; · (show (_ : Int) ≤ 9223372036854775807; (try simp only [List.length_append, List.length_drop, List.length_take, List.length_cons, List.length_nil]); omega))) | ((with_reducible show bothX _ _); refine bothI ?_ ?_; conv => whnf) | (with_reducible exact trivial) | ((with_reducible show CallN _ _ _ _ _ _ _ _); refine call_of env_ok rfl 1000 ?_) | ((with_reducible show XopN _ _ _ _ _ _); refine xop_of env_ok rfl 1000 ?_) | ((with_reducible show CallX _ _ _ _ _ _); first | (refine callX (.bool (f.isPrefixOf (s.drop N))) (by kernel_rfl) rfl (trivial) (fun β w hm => has_any (s.drop N) f w (by simp; omega) (by omega)) ?_) | (refine callX (.bool (RfP.isDigit (s.getD (N + f.length) 0))) (by kernel_rfl) rfl (trivial) (fun β w hm => rDigit.run _ w) ?_) | (refine callX (.int .i64 (ScP.runP RfP.isDigit (s.drop (N + f.length)) : Nat)) (by kernel_rfl) rfl (trivial) (fun β w hm => span_any rDigit (s.drop (N + f.length)) w (by simp; omega)) ?_)) | ((with_reducible show OpX _ _ _ _); first | fail) | ((with_reducible show ∃ _ : SV, _); first | (refine ⟨.str f, ?ok, x_indexAgg (j := k) Tryz.underlying120 (fun w => Tryz.sizeOf9 w) (fun w => Tryz.isAgg9 w) hlt f2, ?_⟩; (case ok => exact fun _ _ => trivial))) | ((with_reducible show ∃ _, _); first | (refine ⟨N, rfl, by omega, ?_⟩) | (refine ⟨N + f.length, by omega, by omega, ?_⟩)))
          all_goals first | (with_reducible show BackN _ _ _) | (rw [hg (ht.2 ⟨by assumption, by omega, by assumption⟩)]; show Value.int _ _ = _; congr 1 <;> omega)
          all_goals (refine hI _ ⟨k + 1, by omega, fun st hst => ?_⟩ (by dsimp only; omega) (by ((with_reducible show wk _ _); repeat' (first | exact trivial | exact eqSV_refl _ | (refine eqI ?_) | (refine eqS ?_) | (with_reducible exact rfl) | apply And.intro | exact Nat.zero_lt_one | exact Nat.le_of_ble_eq_true rfl | (with_reducible assumption) | ((show (_ : Int) = _); (try dsimp only); omega) | ((show eqSV _ _); simp [eqSV, isB, bval, *]; done) | rfl))))
          all_goals (rw [f4] at hst; rcases List.mem_append.1 hst with h | h; (exact hf st h); (obtain rfl : st = f := by simpa using h); (apply Bool.eq_false_iff.2; intro e; obtain ⟨q1, q2, q3⟩ := ht.1 e; first | omega | simp_all))
        · rw [List.take_of_length_le (by show 6 ≤ k; omega)] at hf
          repeat' (first | ((with_reducible first | show wpS _ _ _ _ | show putD _ _ _ _ | show putW _ _ _ _ | show splitG _ _ _ | show wpQ _ _ _ _ _ _ | show wpD _ _ _ _ _ _ _ | show wpX _ _ _ _ _ _ | show expX _ _ _ _ _ _ | show stepX _ _ _ _); conv => whnf) | ((with_reducible show RetN _ _ _); refine retB fun β => ?_) | ((with_reducible show _ ∧ _); first | (apply And.intro; (· intro h; exfalso; first | omega | (revert h; decide)); intro _) | (apply And.intro; rotate_left; (· intro h; exfalso; first | omega | (revert h; decide)); intro _) | (refine ⟨fun _ => ?_, fun _ => ?_⟩) | (apply And.intro; · kernel_rfl) | (apply And.intro; · (show inK _ _; unfold inK; omega)) | (apply And.intro; · (show (_ : Int) ≤ 9223372036854775807; (try simp only [List.length_append, List.length_drop, List.length_take, List.length_cons, List.length_nil]); omega))) | ((with_reducible show bothX _ _); refine bothI ?_ ?_; conv => whnf) | (with_reducible exact trivial) | ((with_reducible show CallN _ _ _ _ _ _ _ _); refine call_of env_ok rfl 1000 ?_) | ((with_reducible show XopN _ _ _ _ _ _); refine xop_of env_ok rfl 1000 ?_) | ((with_reducible show CallX _ _ _ _ _ _); first | fail) | ((with_reducible show OpX _ _ _ _); first | fail) | ((with_reducible show ∃ _ : SV, _); first | fail) | ((with_reducible show ∃ _, _); first | fail))
          rw [HF hf]; rfl))
end Go.Proofs.YtmodjglbjempkaaGreatDoor
namespace Go.Proofs.YtmodjglbjempkaaGreatDoor
open Go.RowKit
open Sym
attribute [local irreducible] Calls
theorem indexD (s : List UInt8) (c : UInt8) : (s.contains c = true ↔ 0 ≤ Lib.indexByte s c) ∧ (s.contains c = false ↔ ¬ 0 ≤ Lib.indexByte s c) := by
  rw [← index_has]; simp
set_option maxRecDepth 100000 in
set_option maxHeartbeats 4000000 in
theorem wordToken_any (s : List UInt8) (w : World) (hs : s.length ≤ 1000000) : Calls Tryz.prog 87 #[.string (bstr s)] w fun e w' => e = .returned (.tuple #[.int .i64 ((ScP.wordP s).1 : Nat), .int .i64 ((ScP.wordP s).2 : Nat)]) ∧ Below w.heap.size w w' := by
  have hd := ScP.run_le ScP.wordlyC s
  have HD := fun w => span_any rwordly s w hs
  unfold ScP.wordP ScP.freeP
  dsimp only
  generalize ScP.runP ScP.wordlyC s = n at *
  have h3 := ScP.area_le s n hd
  have hS : ∀ k, ScP.runP ScP.cornerC ((s.drop n).drop 1) = k → n < s.length → s.getD n 0 = 33 → ScP.sheetedP s n = ScP.areaP s (n + 1 + k) := fun k hk h1 h2 => by
    unfold ScP.sheetedP; rw [if_pos ⟨h1, h2⟩, ← hk, List.drop_drop]
  have hkl := ScP.run_drop ScP.cornerC s (n + 1)
  have HK := fun w (h : 1 ≤ (s.drop n).length) => span_any rByte ((s.drop n).drop 1) w (by simp; omega)
  have ek : (s.drop n).drop 1 = s.drop (n + 1) := by rw [List.drop_drop]
  rw [← ek] at hkl
  generalize hkk : ScP.runP ScP.cornerC ((s.drop n).drop 1) = k at *
  have HL := fun w (h : n + 1 + k ≤ s.length) => longRef_any s (n + 1 + k) w hs h
  replace hS := hS k rfl
  generalize ScP.areaP s (n + 1 + k) = ak at *
  have HA := fun w => longRef_any s n w hs hd
  generalize ScP.areaP s n = a at *
  have p33 := ScP.pre_1 33 s n
  have p40 := ScP.pre_1 40 s n
  have p91 := ScP.pre_1 91 s n
  have hix := indexD (s.take n) 36
  have HP := fun w => RPlain_any (s.take n) w (by simp; omega)
  have HI := fun w => rIndex_any (s.take n) 36 w (by simp; omega)
  have H33 := fun w => has_any (s.drop n) [33] w (by simp; omega) (by simp)
  have H40 := fun w => has_any (s.drop n) [40] w (by simp; omega) (by simp)
  have H91 := fun w => has_any (s.drop n) [91] w (by simp; omega) (by simp)
  generalize RfP.plain (s.take n) = pl at *
  generalize (s.take n).contains 36 = dol at *
  generalize Lib.indexByte (s.take n) 36 = ixd at *
  generalize ([33] : List UInt8).isPrefixOf (s.drop n) = b33 at *
  generalize ([40] : List UInt8).isPrefixOf (s.drop n) = b40 at *
  generalize ([91] : List UInt8).isPrefixOf (s.drop n) = b91 at *
  generalize ScP.sheetedP s n = sh at *
  generalize s.getD n 0 = d at *
  have hbl : ScP.bracketsP (s.drop n) ≤ (s.drop n).length := by have := ScP.br_le (s.drop n) 0 0; unfold ScP.bracketsP; simpa using this
  have hdl : (s.drop n).length = s.length - n := by simp
  generalize hbr : ScP.bracketsP (s.drop n) = br at *
  clear hkk ek
  refine enter env_ok Tryz.func87 rfl Tryz.results87 Tryz.ntmps87 [] [] [.str s] (by simp [SV.oks, SV.ok]) (Nat.le_of_ble_eq_true rfl) w _ 1000 ?_
  repeat' (first | ((with_reducible first | show wpS _ _ _ _ | show putD _ _ _ _ | show putW _ _ _ _ | show splitG _ _ _ | show wpQ _ _ _ _ _ _ | show wpD _ _ _ _ _ _ _ | show wpX _ _ _ _ _ _ | show expX _ _ _ _ _ _ | show stepX _ _ _ _); conv => whnf) | ((with_reducible show RetN _ _ _); refine retB fun β => ?_) | ((with_reducible show _ ∧ _); first | (apply And.intro; (· intro h; exfalso; first | omega | (revert h; decide)); intro _) | (apply And.intro; rotate_left; (· intro h; exfalso; first | omega | (revert h; decide)); intro _) | (refine ⟨fun _ => ?_, fun _ => ?_⟩) | (apply And.intro; · kernel_rfl) | (apply And.intro; · (show inK _ _; unfold inK; omega)) | (apply And.intro; · (show (_ : Int) ≤ 9223372036854775807; (try simp only [List.length_append, List.length_drop, List.length_take, List.length_cons, List.length_nil]); omega))) | ((with_reducible show bothX _ _); refine bothI ?_ ?_; conv => whnf) | (with_reducible exact trivial) | ((with_reducible show CallN _ _ _ _ _ _ _ _); refine call_of env_ok rfl 1000 ?_) | ((with_reducible show XopN _ _ _ _ _ _); refine xop_of env_ok rfl 1000 ?_) | ((with_reducible show CallX _ _ _ _ _ _); first | (refine callX (.int .i64 (n : Nat)) (by kernel_rfl) rfl (trivial) (fun β w hm => HD w) ?_) | (refine callX (.int .i64 ixd) (by kernel_rfl) rfl (trivial) (fun β w hm => HI w) ?_) | (refine callX (.bool pl) (by kernel_rfl) rfl (trivial) (fun β w hm => quiet (HP w)) ?_) | (refine callX (.bool b33) (by kernel_rfl) rfl (trivial) (fun β w hm => H33 w) ?_) | (refine callX (.bool b40) (by kernel_rfl) rfl (trivial) (fun β w hm => H40 w) ?_) | (refine callX (.bool b91) (by kernel_rfl) rfl (trivial) (fun β w hm => H91 w) ?_) | (refine callX (.int .i64 (k : Nat)) (by kernel_rfl) rfl (trivial) (fun β w hm => HK w (by have := (p33.1 ‹b33 = true›).1; omega)) ?_) | (refine callX (.int .i64 (ak : Nat)) (by kernel_rfl) rfl (trivial) (fun β w hm => HL w (by have := (p33.1 ‹b33 = true›).1; omega)) ?_) | (refine callX (.int .i64 (a : Nat)) (by kernel_rfl) rfl (trivial) (fun β w hm => HA w) ?_)) | ((with_reducible show OpX _ _ _ _); first | fail) | ((with_reducible show ∃ _ : SV, _); first | fail) | ((with_reducible show ∃ _, _); first | (refine ⟨n, by omega, by omega, ?_⟩) | (refine ⟨1, rfl, (by have := (p33.1 ‹b33 = true›).1; omega), ?_⟩)))
  all_goals first | (with_reducible show LoopN _ _ _ _) | ((show Value.tuple #[Value.int _ _, Value.int _ _] = _); clear HD HK HL HA HP HI H33 H40 H91; first | (simp_all; done) | (simp_all; omega) | (simp_all; (repeat' split) <;> (first | omega | simp_all)))
  all_goals (
    have hX : (if n < s.length ∧ d = 33 ∧ pl = true then (4, sh) else if n < s.length ∧ d = 40 ∧ (!dol) = true then (6, n) else if n < s.length ∧ d = 91 ∧ (!dol) = true then (7, if br = 0 then 0 else n + br) else if a ≠ 0 then (4, a) else if (!dol) = true then (5, n) else (5, 0)) = (7, if br = 0 then 0 else n + br) := by
      clear HD HK HL HA HP HI H33 H40 H91
      simp_all
    rw [hX]
    clear hX p33 p40 p91 HD HK HL HA HP HI H33 H40 H91
    generalize s.drop n = q at *
    refine loop env_ok rfl (T := {t : Nat × Int // t.1 ≤ q.length ∧ -(t.1 : Int) ≤ t.2 ∧ t.2 ≤ t.1 ∧ br = ScP.brP (q.drop t.1) t.1 t.2}) (fun t => ⟨[(4, .int .i64 (n : Nat)), (6, .str q), (8, .int .i64 t.1.2), (53, .int .i64 (q.length : Nat)), (54, .int .i64 (t.1.1 : Nat))], [], 0, 84⟩) (fun t => q.length - t.1.1) ⟨(0, 0), Nat.zero_le _, by decide, by decide, hbr.symm⟩ 1000 [] [] (fun _ => Nat.zero_le _) (by ((with_reducible show wk _ _); repeat' (first | exact trivial | exact eqSV_refl _ | (refine eqI ?_) | (refine eqS ?_) | (with_reducible exact rfl) | apply And.intro | exact Nat.zero_lt_one | exact Nat.le_of_ble_eq_true rfl | (with_reducible assumption) | ((show (_ : Int) = _); (try dsimp only); omega) | ((show eqSV _ _); simp [eqSV, isB, bval, *]; done) | rfl))) (fun t I hI => ?_)
    obtain ⟨⟨i, e⟩, hi, hd1, hd2, hq⟩ := t
    dsimp only at hi hd1 hd2 hq ⊢
    repeat' (first | ((with_reducible first | show wpS _ _ _ _ | show putD _ _ _ _ | show putW _ _ _ _ | show splitG _ _ _ | show wpQ _ _ _ _ _ _ | show wpD _ _ _ _ _ _ _ | show wpX _ _ _ _ _ _ | show expX _ _ _ _ _ _ | show stepX _ _ _ _); conv => whnf) | ((with_reducible show RetN _ _ _); refine retB fun β => ?_) | ((with_reducible show _ ∧ _); first | (apply And.intro; (· intro h; exfalso; first | omega | (revert h; decide)); intro _) | (apply And.intro; rotate_left; (· intro h; exfalso; first | omega | (revert h; decide)); intro _) | (refine ⟨fun _ => ?_, fun _ => ?_⟩) | (apply And.intro; · kernel_rfl) | (apply And.intro; · (show inK _ _; unfold inK; omega)) | (apply And.intro; · (show (_ : Int) ≤ 9223372036854775807; (try simp only [List.length_append, List.length_drop, List.length_take, List.length_cons, List.length_nil]); omega))) | ((with_reducible show bothX _ _); refine bothI ?_ ?_; conv => whnf) | (with_reducible exact trivial) | ((with_reducible show CallN _ _ _ _ _ _ _ _); refine call_of env_ok rfl 1000 ?_) | ((with_reducible show XopN _ _ _ _ _ _); refine xop_of env_ok rfl 1000 ?_) | ((with_reducible show CallX _ _ _ _ _ _); first | fail) | ((with_reducible show OpX _ _ _ _); first | fail) | ((with_reducible show ∃ _ : SV, _); first | fail) | ((with_reducible show ∃ _, _); first | (refine ⟨i, rfl, by omega, ?_⟩)))
    · rw [hq, ScP.br_stop (by omega) (by simp_all [bI9, bI32, bI33, bI34, bI35, bI36, bI39, bI40, bI43, bI45, bI46, bI48, bI57, bI58, bI65, bI69, bI91, bI93, bI95, bI97, bI101])]; rw [if_neg (by omega)]; show Value.tuple #[_, Value.int _ _] = _; congr 4 <;> omega
    · refine hI _ ⟨(i + 1, e + 1), by dsimp only; omega, by dsimp only; omega, by dsimp only; omega, by dsimp only; rw [hq, ScP.br_step (d' := e + 1) (by omega) (by simp_all [bI9, bI32, bI33, bI34, bI35, bI36, bI39, bI40, bI43, bI45, bI46, bI48, bI57, bI58, bI65, bI69, bI91, bI93, bI95, bI97, bI101]) (by omega)]⟩ (by dsimp only; omega) (by ((with_reducible show wk _ _); repeat' (first | exact trivial | exact eqSV_refl _ | (refine eqI ?_) | (refine eqS ?_) | (with_reducible exact rfl) | apply And.intro | exact Nat.zero_lt_one | exact Nat.le_of_ble_eq_true rfl | (with_reducible assumption) | ((show (_ : Int) = _); (try dsimp only); omega) | ((show eqSV _ _); simp [eqSV, isB, bval, *]; done) | rfl)))
    · rw [hq, ScP.br_stop (by omega) (by simp_all [bI9, bI32, bI33, bI34, bI35, bI36, bI39, bI40, bI43, bI45, bI46, bI48, bI57, bI58, bI65, bI69, bI91, bI93, bI95, bI97, bI101])]; rw [if_neg (by omega)]; show Value.tuple #[_, Value.int _ _] = _; congr 4 <;> omega
    · refine hI _ ⟨(i + 1, e - 1), by dsimp only; omega, by dsimp only; omega, by dsimp only; omega, by dsimp only; rw [hq, ScP.br_step (d' := e - 1) (by omega) (by simp_all [bI9, bI32, bI33, bI34, bI35, bI36, bI39, bI40, bI43, bI45, bI46, bI48, bI57, bI58, bI65, bI69, bI91, bI93, bI95, bI97, bI101]) (by omega)]⟩ (by dsimp only; omega) (by ((with_reducible show wk _ _); repeat' (first | exact trivial | exact eqSV_refl _ | (refine eqI ?_) | (refine eqS ?_) | (with_reducible exact rfl) | apply And.intro | exact Nat.zero_lt_one | exact Nat.le_of_ble_eq_true rfl | (with_reducible assumption) | ((show (_ : Int) = _); (try dsimp only); omega) | ((show eqSV _ _); simp [eqSV, isB, bval, *]; done) | rfl)))
    · rw [hq, ScP.br_stop (by omega) (by simp_all [bI9, bI32, bI33, bI34, bI35, bI36, bI39, bI40, bI43, bI45, bI46, bI48, bI57, bI58, bI65, bI69, bI91, bI93, bI95, bI97, bI101])]; rw [if_neg (by omega)]; show Value.tuple #[_, Value.int _ _] = _; congr 4 <;> omega
    · refine hI _ ⟨(i + 1, e), by dsimp only; omega, by dsimp only; omega, by dsimp only; omega, by dsimp only; rw [hq, ScP.br_step (d' := e) (by omega) (by simp_all [bI9, bI32, bI33, bI34, bI35, bI36, bI39, bI40, bI43, bI45, bI46, bI48, bI57, bI58, bI65, bI69, bI91, bI93, bI95, bI97, bI101]) (by omega)]⟩ (by dsimp only; omega) (by ((with_reducible show wk _ _); repeat' (first | exact trivial | exact eqSV_refl _ | (refine eqI ?_) | (refine eqS ?_) | (with_reducible exact rfl) | apply And.intro | exact Nat.zero_lt_one | exact Nat.le_of_ble_eq_true rfl | (with_reducible assumption) | ((show (_ : Int) = _); (try dsimp only); omega) | ((show eqSV _ _); simp [eqSV, isB, bval, *]; done) | rfl)))
    · rw [hq, ScP.br_none (by omega)]; rfl)
end Go.Proofs.YtmodjglbjempkaaGreatDoor
namespace Go.Proofs.YtmodjglbjempkaaGreatDoor
open Go.RowKit
open Sym
attribute [local irreducible] Calls
namespace Sym
theorem x_indexPA {C : Ctx} {G : Blobs} {x y : Operand} {t e : TypeId} {a : Addr} {len j sz : Nat} {i : Int} (hi : i = (j : Nat)) (ht : C.P.underlying t = some (.array len e)) (hs : ∀ w, (sizeOf e).run C.P w = .ok sz w) (hj : j < len) :
    ExtN C G (.indexAddr t x y) [.any (.pointer (some a)), .int .i64 i] (.any (.pointer (some (a.add (j * sz))))) := by
  subst hi
  unfold ExtN
  intro ρ β w dst ty pos after g _ _ h
  have h' : ρ x = .pointer (some a) ∧ ρ y = .int .i64 (j : Nat) := by simpa [opsX, SV.dens, SV.den] using h
  have q : (underlying t).run C.P w = .ok (.array len e) w := by simp [underlying, ht]
  simp [execOp, Instr.indexAt, Instr.sureAddr, h'.1, h'.2, asIntOf, q, hs, hj, SV.den]
end Sym
namespace ScP
def ftexts : List Str := [[], [35, 68, 73, 86, 47, 48, 33], [35, 86, 65, 76, 85, 69, 33], [35, 82, 69, 70, 33], [35, 78, 65, 77, 69, 63], [35, 78, 85, 77, 33], [35, 78, 47, 65], [35, 83, 80, 73, 76, 76, 33], [35, 67, 89, 67, 76, 69, 33]]
/-- the reference's way through the texts -/
def codeP (s : Str) : Nat → List Str → Nat × Nat
  | _, [] => (8, 1)
  | k, f :: r => if k > 0 ∧ f.isPrefixOf s = true then (if k = 3 then (4, 5) else (3, f.length)) else codeP s (k + 1) r
theorem pre_apart {p q s : Str} (hp : p.isPrefixOf s = true) (hq : q.isPrefixOf s = true) (h : p.take 2 ≠ q.take 2) (l1 : 2 ≤ p.length) (l2 : 2 ≤ q.length) : False := by
  rw [List.isPrefixOf_iff_prefix] at hp hq
  obtain ⟨u, rfl⟩ := hp
  obtain ⟨v, e⟩ := hq
  have := congrArg (List.take 2) e
  rw [List.take_append_of_le_length l2, List.take_append_of_le_length l1] at this
  exact h this.symm
theorem code_fault (s : Str) : codeP s 0 ftexts = if refT.isPrefixOf s = true then (4, 5) else faultP s faults := by
  by_cases hr : refT.isPrefixOf s = true
  · have h1 : ([35, 68, 73, 86, 47, 48, 33] : Str).isPrefixOf s = false := by
      cases h : ([35, 68, 73, 86, 47, 48, 33] : Str).isPrefixOf s with
      | false => rfl
      | true => exact (pre_apart h hr (by decide) (by decide) (by decide)).elim
    have h2 : ([35, 86, 65, 76, 85, 69, 33] : Str).isPrefixOf s = false := by
      cases h : ([35, 86, 65, 76, 85, 69, 33] : Str).isPrefixOf s with
      | false => rfl
      | true => exact (pre_apart h hr (by decide) (by decide) (by decide)).elim
    rw [if_pos hr]
    unfold refT at hr
    simp only [codeP, ftexts, h1, h2, hr, Nat.lt_irrefl, Bool.false_eq_true, and_false, false_and, if_false, gt_iff_lt, Nat.zero_lt_succ, true_and, if_true]
  · rw [if_neg hr]
    have hr : ([35, 82, 69, 70, 33] : Str).isPrefixOf s = false := Bool.eq_false_iff.2 hr
    simp only [codeP, ftexts, faults, faultP, hr, Bool.false_eq_true, and_false, if_false, gt_iff_lt, Nat.lt_irrefl, false_and]
    simp
end ScP
theorem ftext_at {k : Nat} (h : k < 9) : ScP.ftexts.drop k = ScP.ftexts.getD k [] :: ScP.ftexts.drop (k + 1) ∧ (ScP.ftexts.getD k []).length ≤ 10 := by
  have : ∀ k : Fin 9, ScP.ftexts.drop k.val = ScP.ftexts.getD k.val [] :: ScP.ftexts.drop (k.val + 1) ∧ (ScP.ftexts.getD k.val []).length ≤ 10 := by decide
  exact this ⟨k, h⟩
/-- the texts of the error values lie where they lie -/
def FT (w : World) : Prop := ∀ k, k < 9 → w.cell? ⟨0, k, none⟩ = some (.string (bstr (ScP.ftexts.getD k [])))
theorem FT.below {w w' : World} (h : FT w) (hb : Below w.heap.size w w') : FT w' := fun k hk => by
  have h1 := h k hk
  have := World.block_lt_of_cell? w _ h1
  rw [World.cell?_of_block (w := w) (hb.block _ this)]; exact h1
set_option maxRecDepth 100000 in
set_option maxHeartbeats 4000000 in
theorem Token_any (s : List UInt8) (w : World) (hs : s.length ≤ 1000000) (h0 : 0 < s.length) (hw : FT w) : Calls Tryz.prog 38 #[.string (bstr s)] w fun e w' => e = .returned (.tuple #[.int .i64 ((ScP.tokP s).1 : Nat), .int .i64 ((ScP.tokP s).2 : Nat)]) ∧ Below w.heap.size w w' := by
  have HB := fun w => span_any rblank s w hs
  have hB : ScP.blankC (s.getD 0 0) = true ↔ 0 < ScP.runP ScP.blankC s := by
    have := ScP.run_inn (p := ScP.blankC) (s := s) (n := 0) h0
    have h2 := ScP.run_out (p := ScP.blankC) (s := s) (n := 0) h0
    simp only [List.drop_zero] at this h2
    constructor
    · intro e; rw [this e]; omega
    · intro e
      cases hc : ScP.blankC (s.getD 0 0) with
      | true => rfl
      | false => rw [h2 hc] at e; omega
  have HQ := fun w => closing_any s w hs h0
  have HN := fun w => numLen_any s w hs
  have HW := fun w => wordToken_any s w hs
  have hql := ScP.quo_le (s.getD 0 0) (s.drop 1) 1
  have hq : ScP.quotedP s (s.getD 0 0) ≤ s.length := by unfold ScP.quotedP; simp at hql ⊢; omega
  clear hql
  have hcode := ScP.code_fault s
  unfold ScP.tokP
  dsimp only
  rw [← hcode]
  have hix := indexD ScP.ops (s.getD 0 0)
  have HI := fun w => rIndex_any ScP.ops (s.getD 0 0) w (by decide)
  generalize ScP.runP ScP.blankC s = rb at *
  generalize ScP.quotedP s (s.getD 0 0) = q at *
  have hSh : ScP.sheetedP s q = if q < s.length ∧ s.getD q 0 = 33 then ScP.areaP s (q + 1 + ScP.runP ScP.cornerC (s.drop (q + 1))) else 0 := rfl
  have hk1 := ScP.run_drop ScP.cornerC s (q + 1)
  have HK1 := fun w (h : q < s.length) => span_any rByte (s.drop (q + 1)) w (by simp; omega)
  generalize ScP.runP ScP.cornerC (s.drop (q + 1)) = k1 at *
  have HA1 := fun w (h : q < s.length) => longRef_any s (q + 1 + k1) w hs (by omega)
  generalize ScP.areaP s (q + 1 + k1) = a1 at *
  rw [hSh]
  unfold ScP.rowsP
  have hd := ScP.run_le RfP.isDigit s
  have HD := fun w => span_any rDigit s w hs
  generalize ScP.runP RfP.isDigit s = n at *
  have hk2 := ScP.run_drop ScP.cornerC s (n + 1)
  have HK2 := fun w (h : n < s.length) => span_any rByte (s.drop (n + 1)) w (by simp; omega)
  generalize ScP.runP ScP.cornerC (s.drop (n + 1)) = k2 at *
  have HR2 := fun w => risRef_any (s.take (n + 1 + k2)) w
  generalize ScP.isRefP (s.take (n + 1 + k2)) = r2 at *
  generalize ScP.numberP s = nn at *
  generalize ScP.wordP s = wd at *
  obtain ⟨w1, w2⟩ := wd
  refine enter env_ok Tryz.func38 rfl Tryz.results38 Tryz.ntmps38 [] [] [.str s] (by simp [SV.oks, SV.ok]) (Nat.le_of_ble_eq_true rfl) w _ 1000 ?_
  repeat' (first | ((with_reducible first | show wpS _ _ _ _ | show putD _ _ _ _ | show putW _ _ _ _ | show splitG _ _ _ | show wpQ _ _ _ _ _ _ | show wpD _ _ _ _ _ _ _ | show wpX _ _ _ _ _ _ | show expX _ _ _ _ _ _ | show stepX _ _ _ _); conv => whnf) | ((with_reducible show RetN _ _ _); refine retB fun β => ?_) | ((with_reducible show _ ∧ _); first | (apply And.intro; (· intro h; exfalso; first | omega | (revert h; decide)); intro _) | (apply And.intro; rotate_left; (· intro h; exfalso; first | omega | (revert h; decide)); intro _) | (refine ⟨fun _ => ?_, fun _ => ?_⟩) | (apply And.intro; · kernel_rfl) | (apply And.intro; · (show inK _ _; unfold inK; omega)) | (apply And.intro; · (show (_ : Int) ≤ 9223372036854775807; (try simp only [List.length_append, List.length_drop, List.length_take, List.length_cons, List.length_nil]); omega))) | ((with_reducible show bothX _ _); refine bothI ?_ ?_; conv => whnf) | (with_reducible exact trivial) | ((with_reducible show CallN _ _ _ _ _ _ _ _); refine call_of env_ok rfl 1000 ?_) | ((with_reducible show XopN _ _ _ _ _ _); refine xop_of env_ok rfl 1000 ?_) | ((with_reducible show CallX _ _ _ _ _ _); first | (refine callX (.int .i64 (rb : Nat)) (by kernel_rfl) rfl (trivial) (fun β w hm => HB w) ?_) | (refine callX (.int .i64 (q : Nat)) (by kernel_rfl) rfl (trivial) (fun β w hm => HQ w) ?_) | (refine callX (.int .i64 (k1 : Nat)) (by kernel_rfl) rfl (trivial) (fun β w hm => HK1 w (by omega)) ?_) | (refine callX (.int .i64 (a1 : Nat)) (by kernel_rfl) rfl (trivial) (fun β w hm => HA1 w (by omega)) ?_) | (refine callX (.int .i64 (n : Nat)) (by kernel_rfl) rfl (trivial) (fun β w hm => HD w) ?_) | (refine callX (.int .i64 (k2 : Nat)) (by kernel_rfl) rfl (trivial) (fun β w hm => HK2 w (by omega)) ?_) | (refine callX (.bool r2) (by kernel_rfl) rfl (trivial) (fun β w hm => HR2 w) ?_) | (refine callX (.int .i64 (nn : Nat)) (by kernel_rfl) rfl (trivial) (fun β w hm => HN w) ?_) | (refine callX (.tup [.int .i64 (w1 : Nat), .int .i64 (w2 : Nat)]) (by kernel_rfl) rfl (⟨trivial, trivial, trivial⟩) (fun β w hm => HW w) ?_) | (refine callX (.bool (RfP.isDigit (s.getD 0 0))) (by kernel_rfl) rfl (trivial) (fun β w hm => rDigit.run _ w) ?_) | (refine callX (.bool (RfP.isLetter (s.getD 0 0))) (by kernel_rfl) rfl (trivial) (fun β w hm => rLetter.run _ w) ?_) | (refine callX (.bool (([60, 61] : List UInt8).isPrefixOf s)) (by kernel_rfl) rfl (trivial) (fun β w hm => has_any s [60, 61] w hs (by decide)) ?_) | (refine callX (.bool (([62, 61] : List UInt8).isPrefixOf s)) (by kernel_rfl) rfl (trivial) (fun β w hm => has_any s [62, 61] w hs (by decide)) ?_) | (refine callX (.bool (([60, 62] : List UInt8).isPrefixOf s)) (by kernel_rfl) rfl (trivial) (fun β w hm => has_any s [60, 62] w hs (by decide)) ?_) | (refine callX (.int .i64 (Lib.indexByte ScP.ops (s.getD 0 0))) (by kernel_rfl) rfl (trivial) (fun β w hm => HI w) ?_)) | ((with_reducible show OpX _ _ _ _); first | fail) | ((with_reducible show ∃ _ : SV, _); first | fail) | ((with_reducible show ∃ _, _); first | (refine ⟨0, rfl, h0, ?_⟩) | (refine ⟨q, rfl, by omega, ?_⟩) | (refine ⟨n, rfl, by omega, ?_⟩) | (refine ⟨q + 1, by omega, by omega, ?_⟩) | (refine ⟨n + 1, by omega, by omega, ?_⟩) | (refine ⟨n + 1 + k2, by omega, by omega, ?_⟩)))
  all_goals clear HB HQ HK1 HA1 HD HK2 HR2 HN HW HI
  all_goals first | (with_reducible show LoopN _ _ _ _) | ((show Value.tuple #[Value.int _ _, Value.int _ _] = _); (try generalize ScP.blankC (s.getD 0 0) = bl at *); (try generalize RfP.isDigit (s.getD 0 0) = dg at *); (try generalize RfP.isLetter (s.getD 0 0) = le at *); (try generalize List.contains ScP.ops (s.getD 0 0) = oc at *); (try generalize Lib.indexByte ScP.ops (s.getD 0 0) = oi at *); (try generalize s.getD 0 0 = c at *); (try generalize s.getD q 0 = cq at *); (try generalize s.getD n 0 = cn at *); first | (simp_all [bI9, bI32, bI33, bI34, bI35, bI36, bI39, bI40, bI43, bI45, bI46, bI48, bI57, bI58, bI65, bI69, bI91, bI93, bI95, bI97, bI101]; done) | (simp_all [bI9, bI32, bI33, bI34, bI35, bI36, bI39, bI40, bI43, bI45, bI46, bI48, bI57, bI58, bI65, bI69, bI91, bI93, bI95, bI97, bI101]; omega) | (simp_all [bI9, bI32, bI33, bI34, bI35, bI36, bI39, bI40, bI43, bI45, bI46, bI48, bI57, bI58, bI65, bI69, bI91, bI93, bI95, bI97, bI101]; (repeat' split) <;> (first | omega | simp_all)))
  have hb1 : ¬ ScP.blankC (s.getD 0 0) = true := fun e => by have := hB.1 e; omega
  have hb2 : ¬ s.getD 0 0 = 34 := fun e => by have := (bI34 _).2 e; omega
  have hb3 : s.getD 0 0 = 35 := (bI35 _).1 (by assumption)
  rw [if_neg hb1, if_neg hb2, if_pos hb3]
  clear hb1 hb2 hb3 hB hix hcode hSh hq hk1 hd hk2
  refine loop env_ok rfl (T := {k : Nat // k ≤ 9 ∧ ScP.codeP s 0 ScP.ftexts = ScP.codeP s k (ScP.ftexts.drop k)}) (fun t => ⟨[(0, .str s), (23, .int .i64 (t.1 : Nat))], [], 0, 126⟩) (fun t => 9 - t.1) ⟨0, Nat.zero_le _, rfl⟩ 1000 [] [] (fun _ => Nat.zero_le _) (by ((with_reducible show wk _ _); repeat' (first | exact trivial | exact eqSV_refl _ | (refine eqI ?_) | (refine eqS ?_) | (with_reducible exact rfl) | apply And.intro | exact Nat.zero_lt_one | exact Nat.le_of_ble_eq_true rfl | (with_reducible assumption) | ((show (_ : Int) = _); (try dsimp only); omega) | ((show eqSV _ _); simp [eqSV, isB, bval, *]; done) | rfl))) (fun t I hI => ?_)
  obtain ⟨k, hk, hf⟩ := t
  dsimp only
  by_cases hlt : k < 9
  · obtain ⟨f1, f3⟩ := ftext_at hlt
    have hwk := fun w' (hb : Below w.heap.size w w') => (hw.below hb) k hlt
    generalize ScP.ftexts.getD k [] = f at *
    rw [f1, show ScP.codeP s k (f :: ScP.ftexts.drop (k + 1)) = if k > 0 ∧ f.isPrefixOf s = true then (if k = 3 then (4, 5) else (3, f.length)) else ScP.codeP s (k + 1) (ScP.ftexts.drop (k + 1)) from rfl] at hf
    repeat' (first | ((with_reducible first | show wpS _ _ _ _ | show putD _ _ _ _ | show putW _ _ _ _ | show splitG _ _ _ | show wpQ _ _ _ _ _ _ | show wpD _ _ _ _ _ _ _ | show wpX _ _ _ _ _ _ | show expX _ _ _ _ _ _ | show stepX _ _ _ _); conv => whnf) | ((with_reducible show RetN _ _ _); refine retB fun β => ?_) | ((with_reducible show _ ∧ _); first | (apply And.intro; (· intro h; exfalso; first | omega | (revert h; decide)); intro _) | (apply And.intro; rotate_left; (· intro h; exfalso; first | omega | (revert h; decide)); intro _) | (refine ⟨fun _ => ?_, fun _ => ?_⟩) | (apply And.intro; · kernel_rfl) | (apply And.intro; · (show inK _ _; unfold inK; omega)) | (apply And.intro; · (show (_ : Int) ≤ 9223372036854775807; (try simp only [List.length_append, List.length_drop, List.length_take, List.length_cons, List.length_nil]); omega))) | ((with_reducible show bothX _ _); refine bothI ?_ ?_; conv => whnf) | (with_reducible exact trivial) | ((with_reducible show CallN _ _ _ _ _ _ _ _); refine call_of env_ok rfl 1000 ?_) | ((with_reducible show XopN _ _ _ _ _ _); refine xop_of env_ok rfl 1000 ?_) | ((with_reducible show CallX _ _ _ _ _ _); first | (refine callX (.bool (f.isPrefixOf s)) (by kernel_rfl) rfl (trivial) (fun β w hm => has_any s f w hs (by omega)) ?_)) | ((with_reducible show OpX _ _ _ _); first | fail) | ((with_reducible show ∃ _ : SV, _); first | (refine ⟨_, ?ok, x_indexPA (j := k) rfl Tryz.underlying96 (fun w => Tryz.sizeOf9 w) hlt, ?_⟩; (case ok => exact fun _ _ => rfl)) | (refine ⟨.str f, fun _ _ => trivial, x_load1 (fun w => Tryz.isAgg9 w) (fun w' hb β => by rw [add_at, Nat.zero_add, Nat.mul_one]; exact hwk w' hb), ?_⟩)) | ((with_reducible show ∃ _, _); first | fail))
    all_goals first | (with_reducible show BackN _ _ _) | (rw [hf, if_pos ⟨by omega, by assumption⟩]; first | (rw [if_pos (by omega)]; rfl) | (rw [if_neg (by omega)]; rfl))
    all_goals (refine hI _ ⟨k + 1, by omega, by rw [hf]; exact if_neg (fun e => by first | omega | simp_all)⟩ (by dsimp only; omega) (by ((with_reducible show wk _ _); repeat' (first | exact trivial | exact eqSV_refl _ | (refine eqI ?_) | (refine eqS ?_) | (with_reducible exact rfl) | apply And.intro | exact Nat.zero_lt_one | exact Nat.le_of_ble_eq_true rfl | (with_reducible assumption) | ((show (_ : Int) = _); (try dsimp only); omega) | ((show eqSV _ _); simp [eqSV, isB, bval, *]; done) | rfl))))
  · rw [List.drop_eq_nil_of_le (by show 9 ≤ k; omega)] at hf
    repeat' (first | ((with_reducible first | show wpS _ _ _ _ | show putD _ _ _ _ | show putW _ _ _ _ | show splitG _ _ _ | show wpQ _ _ _ _ _ _ | show wpD _ _ _ _ _ _ _ | show wpX _ _ _ _ _ _ | show expX _ _ _ _ _ _ | show stepX _ _ _ _); conv => whnf) | ((with_reducible show RetN _ _ _); refine retB fun β => ?_) | ((with_reducible show _ ∧ _); first | (apply And.intro; (· intro h; exfalso; first | omega | (revert h; decide)); intro _) | (apply And.intro; rotate_left; (· intro h; exfalso; first | omega | (revert h; decide)); intro _) | (refine ⟨fun _ => ?_, fun _ => ?_⟩) | (apply And.intro; · kernel_rfl) | (apply And.intro; · (show inK _ _; unfold inK; omega)) | (apply And.intro; · (show (_ : Int) ≤ 9223372036854775807; (try simp only [List.length_append, List.length_drop, List.length_take, List.length_cons, List.length_nil]); omega))) | ((with_reducible show bothX _ _); refine bothI ?_ ?_; conv => whnf) | (with_reducible exact trivial) | ((with_reducible show CallN _ _ _ _ _ _ _ _); refine call_of env_ok rfl 1000 ?_) | ((with_reducible show XopN _ _ _ _ _ _); refine xop_of env_ok rfl 1000 ?_) | ((with_reducible show CallX _ _ _ _ _ _); first | fail) | ((with_reducible show OpX _ _ _ _); first | fail) | ((with_reducible show ∃ _ : SV, _); first | fail) | ((with_reducible show ∃ _, _); first | fail))
    rw [hf]; rfl
end Go.Proofs.YtmodjglbjempkaaGreatDoor
