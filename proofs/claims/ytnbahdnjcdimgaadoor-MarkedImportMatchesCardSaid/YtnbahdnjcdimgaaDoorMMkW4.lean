/- Marked-down texts, the program: the target of a link. -/
import Derived.Test.YtnbahdnjcdimgaaDoorMGH
import Derived.Test.YtnbahdnjcdimgaaDoorMSz33
set_option linter.unusedSimpArgs false
set_option linter.unusedVariables false
namespace Go.Proofs.YtnbahdnjcdimgaaDoor
open Go.RowKit
open Sym
attribute [local irreducible] Calls Sym.AggEq
namespace MkP
theorem tgA_end {n : Nat} {s : Str} (h : s = [] ∨ VaP.bt s 0 = 91) : tgA n s = none := by
  cases n with
  | zero => rfl
  | succ n => unfold tgA; rw [if_pos h]
theorem tgA_two {n : Nat} {s : Str} (h : s ≠ []) (h1 : VaP.bt s 0 = 92) : tgA (n + 1) s = tgA n (s.drop 2) := by
  conv => lhs; unfold tgA
  rw [if_neg (by rintro (q | q); exact h q; omega), if_pos h1]
theorem tgA_hit {n : Nat} {s : Str} (h : s ≠ []) (h1 : VaP.bt s 0 = 93) (h2 : VaP.bt s 1 = 40) : tgA (n + 1) s = some s := by
  unfold tgA
  rw [if_neg (by rintro (q | q); exact h q; omega), if_neg (by omega), if_pos ⟨h1, h2⟩]
theorem tgA_one {n : Nat} {s : Str} (h : s ≠ []) (h1 : VaP.bt s 0 ≠ 91) (h2 : VaP.bt s 0 ≠ 92) (h3 : ¬ (VaP.bt s 0 = 93 ∧ VaP.bt s 1 = 40)) : tgA (n + 1) s = tgA n (s.drop 1) := by
  conv => lhs; unfold tgA
  rw [if_neg (by rintro (q | q); exact h q; exact h1 q), if_neg h2, if_neg h3]
theorem pre_two {s : Str} : Lib.hasPrefix s [93, 40] = decide (VaP.bt s 0 = 93 ∧ VaP.bt s 1 = 40) := by
  unfold Lib.hasPrefix
  cases s with
  | nil => rfl
  | cons a s => cases s with
    | nil =>
      rw [Bool.eq_iff_iff]
      simp [List.isPrefixOf, VaP.bt]
    | cons b s =>
      rw [Bool.eq_iff_iff]
      simp only [List.isPrefixOf, VaP.bt, List.getD_cons_zero, List.getD_cons_succ, Bool.and_eq_true, beq_iff_eq, decide_eq_true_eq]
      constructor
      · rintro ⟨h1, h2⟩; rw [← h1, ← h2.1]; exact ⟨rfl, rfl⟩
      · rintro ⟨h1, h2⟩; exact ⟨(UInt8.toNat_inj.1 (show a.toNat = (93 : UInt8).toNat from h1)).symm, (UInt8.toNat_inj.1 (show b.toNat = (40 : UInt8).toNat from h2)).symm, trivial⟩
end MkP
namespace MkP
theorem tgB_more : ∀ (n m : Nat) (s acc : Str), s.length < n → n ≤ m → tgB m s acc = tgB n s acc
  | 0, m, s, _, h, _ => by omega
  | n + 1, 0, s, _, _, h => by omega
  | n + 1, m + 1, s, acc, h, hm => by
    unfold tgB
    by_cases hs : s = [] ∨ 200 < acc.length
    · rw [if_pos hs, if_pos hs]
    · have h0 : 0 < s.length := List.length_pos_iff.2 (fun e => hs (.inl e))
      rw [if_neg hs, if_neg hs]
      by_cases h1 : VaP.bt s 0 = 41
      · rw [if_pos h1, if_pos h1]
      · rw [if_neg h1, if_neg h1, tgB_more n m (s.drop 1) _ (by rw [List.length_drop]; omega) (by omega)]
        by_cases h2 : VaP.bt s 0 = 92
        · rw [if_pos h2, if_pos h2]
          by_cases h3 : 1 < s.length ∧ 32 ≤ VaP.bt s 1 ∧ VaP.bt s 1 ≤ 126
          · rw [if_pos h3, if_pos h3, tgB_more n m (s.drop 2) _ (by rw [List.length_drop]; omega) (by omega)]
          · rw [if_neg h3, if_neg h3]
        · rw [if_neg h2, if_neg h2]
theorem bytes_snoc (l : Str) (x : UInt8) : Lib.byteCells (l ++ [x]) = Lib.byteCells l ++ [.int .u8 (x.toNat : Int)] := by simp [Lib.byteCells]
structure BT where
  i : Nat
  acc : Str
  bst : Bool
  g : Nat
  n : Nat
  cap : Nat
end MkP
abbrev bldR (t : MkP.BT) : List (Nat × Bool × SRow) := match t.bst with
  | false => [(0, true, .cells 87 [.any (.pointer none), .any (.slice none 0 0)])]
  | true => [(0, true, .blob (BldH 87 t.g t.n t.cap)), (1, true, .blob (BldB 5 t.g t.n t.cap (Lib.byteCells t.acc)))]
/-- what target answers -/
def MkP.tgV (s : List UInt8) : Option (List UInt8 × List UInt8 × List UInt8) → Ending → Prop
  | none, e => ∃ t, ∃ i j : Int, e = .returned (.tuple #[.string t, .int .i64 i, .int .i64 j, .bool false])
  | some (t, u, r), e => e = .returned (.tuple #[.string (bstr t), .int .i64 ((s.length - u.length : Nat) : Int), .int .i64 ((s.length - r.length : Nat) : Int), .bool true])
def MkP.TGQ (s : List UInt8) (w : World) (e : Ending) (w' : World) : Prop := Below w.heap.size w w' ∧ MkP.tgV s (MkP.target s) e
set_option maxRecDepth 100000 in
set_option maxHeartbeats 4000000 in
theorem target_any (s : List UInt8) (w : World) (hs : s.length ≤ 100000) : Calls Tryd.prog 27 #[.string (bstr s)] w (MkP.TGQ s w) := by
  have PR := fun (k : Nat) (w : World) => pre_any (s.drop k) [93, 40] w
  have hno : ∀ (i j : Int) (t : List UInt8) (w' : World), Below w.heap.size w w' → MkP.target s = none → MkP.TGQ s w (.returned (.tuple #[.string (bstr t), .int .i64 i, .int .i64 j, .bool false])) w' := fun i j t w' hb h => ⟨hb, by rw [h]; exact ⟨_, i, j, rfl⟩⟩
  refine yE Tryd.func27 rfl Tryd.results27 Tryd.ntmps27 [] [] [.str s] w ?_
  repeat' (first | refine yX ?_ | (apply And.intro <;> intro _) | apply bothI | refine retB fun β => ?_ | intro βe | fail | exact trivial)
  refine yZ (T := {k : Nat // k ≤ s.length + 1 ∧ MkP.tgA (s.length + 1) s = MkP.tgA (s.length + 1) (s.drop k)}) (fun k => ⟨[(0, .str s), (6, .int .i64 (k.1 : Nat))], [], 0, 81⟩) (fun k => s.length + 1 - k.1) ⟨0, Nat.zero_le _, rfl⟩ [50] [] (fun k I hI => ?_)
  obtain ⟨k, hk, hA⟩ := k
  dsimp only at hk hA ⊢
  have hb0 : VaP.bt (s.drop k) 0 = (s.getD k 0).toNat := by rw [MkP.bt_drop]; rfl
  have hd : (s.drop k).length = s.length - k := List.length_drop
  have hpre := MkP.pre_two (s := s.drop k)
  have hnil : s.length ≤ k → s.drop k = [] := fun h => List.drop_eq_nil_of_le h
  have hne : k < s.length → s.drop k ≠ [] := fun h e => by rw [e] at hd; simp at hd; omega
  have hend : (s.drop k = [] ∨ VaP.bt (s.drop k) 0 = 91) → MkP.target s = none := fun h => by unfold MkP.target; rw [hA, MkP.tgA_end h]
  repeat' (first | refine yX ?_ | (apply And.intro <;> intro _) | apply bothI | refine retB fun β => ?_ | intro βe | (refine ⟨k, rfl, by omega, ?_⟩) | refine yK (.bool (Lib.hasPrefix (s.drop k) [93, 40])) (fun β w hm => PR k w) ?_ | exact trivial)
  · exact ret fun β w' hm => hno 0 0 [] w' hm.below (hend (.inl (hnil (by omega))))
  · exact ret fun β w' hm => hno 0 0 [] w' hm.below (hend (.inr (by omega)))
  · have e := MkP.tgA_two (n := s.length) (hne (by omega)) (by omega)
    refine hI _ ⟨k + 2, by omega, by rw [hA, e, List.drop_drop]; exact (MkP.tgA_more s.length (s.length + 1) _ (by rw [List.length_drop]; omega) (by omega)).symm⟩ (by dsimp only; omega) (by ((with_reducible show wk _ _); repeat' (first | exact trivial | exact eqSV_refl _ | refine eqI ?_ | refine eqS ?_ | apply And.intro | exact yV | fail)))
  · have h93 : VaP.bt (s.drop k) 0 = 93 ∧ VaP.bt (s.drop k) 1 = 40 := by rw [hpre] at *; simp_all
    have hu := MkP.tgA_hit (n := s.length) (hne (by omega)) h93.1 h93.2
    rw [← hA] at hu
    have h2 : k + 2 ≤ s.length := by have := MkP.bt_ne (s := s.drop k) (i := 1) (by omega); omega
    have hT : ∀ o, MkP.tgB (s.drop k).length (s.drop (k + 2)) [] = o → MkP.target s = o.map fun p => (p.1, s.drop k, p.2) := fun o h => by
      unfold MkP.target; rw [hu]; dsimp only; rw [List.drop_drop, h]; cases o <;> rfl
    refine yZ (T := {t : MkP.BT // k + 2 ≤ t.i ∧ t.i ≤ s.length ∧ (t.bst = false → t.acc = []) ∧ (t.bst = true → t.acc ≠ []) ∧ t.acc.length ≤ 201 ∧ MkP.tgB (s.drop k).length (s.drop (k + 2)) [] = MkP.tgB (s.drop k).length (s.drop t.i) t.acc}) (fun t => ⟨[(0, .str s), (6, .int .i64 (k : Nat)), (7, .ptr 0 0), (8, .int .i64 (t.1.i : Nat))], bldR t.1, (match t.1.bst with | false => 1 | true => 2), 81⟩) (fun t => s.length - t.1.i) ⟨⟨k + 2, [], false, 0, 0, 0⟩, Nat.le_refl _, h2, fun _ => rfl, (fun h => by cases h), by simp, rfl⟩ [50] [] (fun t I2 hI2 => ?_) (by dsimp only [bldR]; ((with_reducible show wk _ _); repeat' (first | exact trivial | exact eqSV_refl _ | refine eqI ?_ | refine eqS ?_ | apply And.intro | exact yV | fail))) (fun t => Nat.zero_le _)
    obtain ⟨⟨i, acc, bst, g, n, cap⟩, j1, j2, j3, j4, j5, j6⟩ := t
    dsimp only at j1 j2 j3 j4 j5 j6 ⊢
    have hi0 : VaP.bt (s.drop i) 0 = (s.getD i 0).toNat := by rw [MkP.bt_drop]; rfl
    have hi1 : VaP.bt (s.drop i) 1 = (s.getD (i + 1) 0).toNat := by rw [MkP.bt_drop]; rfl
    have hid : (s.drop i).length = s.length - i := List.length_drop
    have c0 := (s.getD i 0).toNat_lt
    have c1 := (s.getD (i + 1) 0).toNat_lt
    have hlen : (Lib.byteCells acc).length = acc.length := by simp [Lib.byteCells]
    obtain ⟨N, hN⟩ : ∃ N, (s.drop k).length = N + 1 := ⟨(s.drop k).length - 1, by omega⟩
    rw [hN] at j6 hT
    have stop : (i = s.length ∨ 200 < acc.length) → MkP.target s = none := fun h => by
      rw [hT none]; rfl
      rw [j6]; unfold MkP.tgB
      rw [if_pos (h.imp (fun e => List.drop_eq_nil_of_le (by omega)) id)]
    have L0 := fun (bs : List Value) (β : Nat → Nat) (w' : World) (h : Lib.IsBuilderF 87 5 w.heap.size (β 0) bs w') => show QC 44 #[.pointer (some ⟨β 0, 0, none⟩)] w' (.int .i64 (bs.length : Nat)) from (Tryd.Builder_Len_f w.heap.size (β 0) bs w' h).mono fun e w2 h => ⟨h.1, h.2 ▸ Below.refl _ _⟩
    have done' : VaP.bt (s.drop i) 0 = 41 → i < s.length → acc.length ≤ 200 → (acc = [] → MkP.target s = none) ∧ (acc ≠ [] → MkP.target s = some (acc, s.drop k, s.drop (i + 1))) := fun h1 h2 h3 => by
      have e : MkP.tgB (N + 1) (s.drop i) acc = if acc = [] then none else some (acc, s.drop (i + 1)) := by
        conv => lhs; unfold MkP.tgB
        rw [if_neg (by rintro (q | q); (rw [q] at hid; simp at hid; omega); omega), if_pos h1, List.drop_drop]
      refine ⟨fun h => ?_, fun h => ?_⟩
      · rw [hT none (by rw [j6, e, if_pos h])]; rfl
      · rw [hT _ (by rw [j6, e, if_neg h])]; rfl
    have esc : VaP.bt (s.drop i) 0 = 92 → i < s.length → acc.length ≤ 200 → (¬ (i + 1 < s.length ∧ 32 ≤ VaP.bt (s.drop i) 1 ∧ VaP.bt (s.drop i) 1 ≤ 126) → MkP.target s = none) ∧ (i + 1 < s.length ∧ 32 ≤ VaP.bt (s.drop i) 1 ∧ VaP.bt (s.drop i) 1 ≤ 126 → MkP.tgB (N + 1) (s.drop (k + 2)) [] = MkP.tgB (N + 1) (s.drop (i + 2)) (acc ++ [s.getD (i + 1) 0])) := fun h1 h2 h3 => by
      have e : MkP.tgB (N + 1) (s.drop i) acc = if 1 < (s.drop i).length ∧ 32 ≤ VaP.bt (s.drop i) 1 ∧ VaP.bt (s.drop i) 1 ≤ 126 then MkP.tgB N ((s.drop i).drop 2) (acc ++ [(s.drop i).getD 1 0]) else none := by
        conv => lhs; unfold MkP.tgB
        rw [if_neg (by rintro (q | q); (rw [q] at hid; simp at hid; omega); omega), if_neg (by omega), if_pos h1]
      refine ⟨fun h => ?_, fun h => ?_⟩
      · rw [hT none (by rw [j6, e, if_neg (fun q => h ⟨by omega, q.2⟩)])]; rfl
      · rw [j6, e, if_pos ⟨by omega, h.2⟩, List.drop_drop]
        have : (s.drop i).getD 1 0 = s.getD (i + 1) 0 := by rw [List.getD_eq_getElem?_getD, List.getD_eq_getElem?_getD, List.getElem?_drop]
        rw [this]
        exact (MkP.tgB_more N (N + 1) _ _ (by rw [List.length_drop]; omega) (by omega)).symm
    have oth : VaP.bt (s.drop i) 0 ≠ 41 → VaP.bt (s.drop i) 0 ≠ 92 → i < s.length → acc.length ≤ 200 → (¬ (32 ≤ VaP.bt (s.drop i) 0 ∧ VaP.bt (s.drop i) 0 ≤ 126) → MkP.target s = none) ∧ (32 ≤ VaP.bt (s.drop i) 0 ∧ VaP.bt (s.drop i) 0 ≤ 126 → MkP.tgB (N + 1) (s.drop (k + 2)) [] = MkP.tgB (N + 1) (s.drop (i + 1)) (acc ++ [s.getD i 0])) := fun h0 h1 h2 h3 => by
      have e : MkP.tgB (N + 1) (s.drop i) acc = if 32 ≤ VaP.bt (s.drop i) 0 ∧ VaP.bt (s.drop i) 0 ≤ 126 then MkP.tgB N ((s.drop i).drop 1) (acc ++ [(s.drop i).getD 0 0]) else none := by
        conv => lhs; unfold MkP.tgB
        rw [if_neg (by rintro (q | q); (rw [q] at hid; simp at hid; omega); omega), if_neg h0, if_neg h1]
      refine ⟨fun h => ?_, fun h => ?_⟩
      · rw [hT none (by rw [j6, e, if_neg h])]; rfl
      · rw [j6, e, if_pos h, List.drop_drop]
        have : (s.drop i).getD 0 0 = s.getD i 0 := by rw [List.getD_eq_getElem?_getD, List.getD_eq_getElem?_getD, List.getElem?_drop]; rfl
        rw [this]
        exact (MkP.tgB_more N (N + 1) _ _ (by rw [List.length_drop]; omega) (by omega)).symm
    have eqk : s.length - (s.drop k).length = k := by omega
    cases bst
    · obtain rfl := j3 rfl
      dsimp only [bldR]
      repeat' (first | refine yX ?_ | (apply And.intro <;> intro _) | apply bothI | refine retB fun β => ?_ | intro βe | refine yK (.int .i64 (0 : Nat)) (fun β w' hm => L0 [] β w' (hm.isB0 0 rfl)) ?_ | (refine ⟨i, rfl, by omega, ?_⟩) | exact trivial)
      all_goals first | (exfalso; omega) | (exact ret fun β w' hm => hno 0 0 [] w' hm.below (stop (by omega))) | skip
      refine go env_ok rfl 1000 [] [] ?_
      by_cases h41 : (s.getD i 0).toNat = 41
      · repeat' (first | ((with_reducible first | show wpS _ _ _ _ | show putD _ _ _ _ | show putW _ _ _ _ | show splitG _ _ _ | show wpQ _ _ _ _ _ _ | show wpD _ _ _ _ _ _ _ | show wpX _ _ _ _ _ _ _ | show expX _ _ _ _ _ _ | show stepX _ _ _ _ | show keepR _ _ _ | show wpY _ _ _ _); conv => whnf) | ((with_reducible show RetN _ _ _); refine retB fun β => ?_) | ((with_reducible show _ ∧ _); first | (apply And.intro; (· intro h; exfalso; first | omega | (revert h; decide)); intro _) | (apply And.intro; rotate_left; (· intro h; exfalso; first | omega | (revert h; decide)); intro _) | (refine ⟨fun _ => ?_, fun _ => ?_⟩) | (apply And.intro; · kernel_rfl) | (apply And.intro; · (show inK _ _; unfold inK; omega)) | (apply And.intro; · (show (_ : Int) ≤ 9223372036854775807; (try simp only [List.length_append, List.length_drop, List.length_take, List.length_cons, List.length_nil]); omega))) | ((with_reducible show AllBe _); refine allBe fun βe => ?_; conv => whnf) | ((with_reducible show bothX _ _); refine bothI ?_ ?_; conv => whnf) | (with_reducible exact trivial) | ((with_reducible show CallN _ _ _ _ _ _ _ _); first | (refine callW env_ok rfl (.str []) (fun β w' => Lib.IsBuilderF 87 5 w.heap.size (β 0) (Lib.byteCells []) w') 1000 (by kernel_rfl) rfl trivial (fun _ h => h) (fun β w' hm => (Tryd.Builder_String_any_f w.heap.size (β 0) [] w' (hm.isB0 0 rfl) hm.base_le).mono fun e w2 h => ⟨h.1, h.2.2, h.2.1⟩) (fun β β' w' h hb => by rw [h 0 (by decide)]; exact hb) (fun w1 hw1 hf => ?_)) | refine call_of env_ok rfl 1000 ?_) | ((with_reducible show XopN _ _ _ _ _ _); refine xop_of env_ok rfl 1000 ?_) | ((with_reducible show CallX _ _ _ _ _ _); first | (refine callX (.int .i64 (([] : List Value).length : Nat)) (by kernel_rfl) rfl (trivial) (fun β w hm => L0 _ β w (isB_below (hf β w hm).2 (hf β w hm).1)) ?_)) | ((with_reducible show OpX _ _ _ _); first | fail) | ((with_reducible show ∃ _ : SV, _); first | fail) | ((with_reducible show ∃ _, _); first | fail))
        all_goals first | (exfalso; omega) | skip
        have hq := (done' (by omega) (by omega) (by simp)).1 rfl
        exact ret fun β w' hm => hno _ _ _ w' (hw1.trans hm.below) hq
      · repeat' (first | refine yX ?_ | (apply And.intro <;> intro _) | apply bothI | refine retB fun β => ?_ | intro βe | (refine ⟨i + 1, by omega, by omega, ?_⟩) | (refine callX_bld0 (.any .nilIface) 0 (T := 87) (e := 5) (bs' := Lib.byteCells [s.getD i 0]) (by kernel_rfl) rfl rfl rfl (by simp [Lib.byteCells]) (fun β w' hm hb => (Tryd.Builder_WriteByte_k w.heap.size (β 0) [] ((s.getD i 0).toNat : Int) w' hb (by simp) hm.base_le).mono (fun e w' h => ⟨h.1, h.2.1, h.2.2.1⟩)) (fun g0 n0 cap0 => ?_)) | (refine callX_bld0 (.any .nilIface) 0 (T := 87) (e := 5) (bs' := Lib.byteCells [s.getD (i + 1) 0]) (by kernel_rfl) rfl rfl rfl (by simp [Lib.byteCells]) (fun β w' hm hb => (Tryd.Builder_WriteByte_k w.heap.size (β 0) [] ((s.getD (i + 1) 0).toNat : Int) w' hb (by simp) hm.base_le).mono (fun e w' h => ⟨h.1, h.2.1, h.2.2.1⟩)) (fun g0 n0 cap0 => ?_)) | exact trivial)
        all_goals first
        | (exfalso; omega)
        | (exact ret fun β w' hm => hno 0 0 [] w' hm.below (stop (by omega)))
        | (exact ret fun β w' hm => hno 0 0 [] w' hm.below ((esc (by omega) (by omega) (by first | omega | simp)).1 (by omega)))
        | (exact ret fun β w' hm => hno 0 0 [] w' hm.below ((oth (by omega) (by omega) (by omega) (by first | omega | simp)).1 (by omega)))
        | (refine back_sc [50] [] (hI2 _ ⟨⟨i + 2, [] ++ [s.getD (i + 1) 0], true, g0, n0, cap0⟩, by dsimp only; omega, by dsimp only; omega, (fun h => by cases h), (fun _ => by simp), by dsimp only; rw [List.length_append, List.length_singleton]; (first | omega | simp), by dsimp only; rw [hN]; exact (esc (by omega) (by omega) (by first | omega | simp)).2 (by omega)⟩ (by dsimp only; omega) (by dsimp only [bldR]; ((with_reducible show wk _ _); repeat' (first | exact trivial | exact eqSV_refl _ | refine eqI ?_ | refine eqS ?_ | apply And.intro | exact yV | fail)); all_goals first | exact fun b x h => h | exact fun b x h => by rw [MkP.bytes_snoc]; exact h)); done)
        | (refine back_sc [50] [] (hI2 _ ⟨⟨i + 1, [] ++ [s.getD i 0], true, g0, n0, cap0⟩, by dsimp only; omega, by dsimp only; omega, (fun h => by cases h), (fun _ => by simp), by dsimp only; rw [List.length_append, List.length_singleton]; (first | omega | simp), by dsimp only; rw [hN]; exact (oth (by omega) (by omega) (by omega) (by first | omega | simp)).2 (by omega)⟩ (by dsimp only; omega) (by dsimp only [bldR]; ((with_reducible show wk _ _); repeat' (first | exact trivial | exact eqSV_refl _ | refine eqI ?_ | refine eqS ?_ | apply And.intro | exact yV | fail)); all_goals first | exact fun b x h => h | exact fun b x h => by rw [MkP.bytes_snoc]; exact h)); done)
        | trace_state
    · have ha := j4 rfl
      dsimp only [bldR]
      repeat' (first | refine yX ?_ | (apply And.intro <;> intro _) | apply bothI | refine retB fun β => ?_ | intro βe | refine yK (.int .i64 (acc.length : Nat)) (fun β w' hm => by have := L0 _ β w' (hm.isB 0 1 rfl rfl); rw [hlen] at this; exact this) ?_ | (refine ⟨i, rfl, by omega, ?_⟩) | exact trivial)
      all_goals first | (exfalso; omega) | (exact ret fun β w' hm => hno 0 0 [] w' hm.below (stop (by omega))) | skip
      refine go env_ok rfl 1000 [] [] ?_
      by_cases h41 : (s.getD i 0).toNat = 41
      · repeat' (first | ((with_reducible first | show wpS _ _ _ _ | show putD _ _ _ _ | show putW _ _ _ _ | show splitG _ _ _ | show wpQ _ _ _ _ _ _ | show wpD _ _ _ _ _ _ _ | show wpX _ _ _ _ _ _ _ | show expX _ _ _ _ _ _ | show stepX _ _ _ _ | show keepR _ _ _ | show wpY _ _ _ _); conv => whnf) | ((with_reducible show RetN _ _ _); refine retB fun β => ?_) | ((with_reducible show _ ∧ _); first | (apply And.intro; (· intro h; exfalso; first | omega | (revert h; decide)); intro _) | (apply And.intro; rotate_left; (· intro h; exfalso; first | omega | (revert h; decide)); intro _) | (refine ⟨fun _ => ?_, fun _ => ?_⟩) | (apply And.intro; · kernel_rfl) | (apply And.intro; · (show inK _ _; unfold inK; omega)) | (apply And.intro; · (show (_ : Int) ≤ 9223372036854775807; (try simp only [List.length_append, List.length_drop, List.length_take, List.length_cons, List.length_nil]); omega))) | ((with_reducible show AllBe _); refine allBe fun βe => ?_; conv => whnf) | ((with_reducible show bothX _ _); refine bothI ?_ ?_; conv => whnf) | (with_reducible exact trivial) | ((with_reducible show CallN _ _ _ _ _ _ _ _); first | (refine callW env_ok rfl (.str acc) (fun β w' => Lib.IsBuilderF 87 5 w.heap.size (β 0) (Lib.byteCells acc) w') 1000 (by kernel_rfl) rfl trivial (fun _ h => h) (fun β w' hm => (Tryd.Builder_String_any_f w.heap.size (β 0) acc w' (hm.isB 0 1 rfl rfl) hm.base_le).mono fun e w2 h => ⟨h.1, h.2.2, h.2.1⟩) (fun β β' w' h hb => by rw [h 0 (by decide)]; exact hb) (fun w1 hw1 hf => ?_)) | refine call_of env_ok rfl 1000 ?_) | ((with_reducible show XopN _ _ _ _ _ _); refine xop_of env_ok rfl 1000 ?_) | ((with_reducible show CallX _ _ _ _ _ _); first | (refine callX (.int .i64 ((Lib.byteCells acc).length : Nat)) (by kernel_rfl) rfl (trivial) (fun β w hm => L0 _ β w (isB_below (hf β w hm).2 (hf β w hm).1)) ?_)) | ((with_reducible show OpX _ _ _ _); first | fail) | ((with_reducible show ∃ _ : SV, _); first | fail) | ((with_reducible show ∃ _, _); first | fail))
        all_goals first | (exfalso; omega) | skip
        have hq := (done' (by omega) (by omega) (by omega)).2 ha
        refine ret fun β w' hm => ⟨hw1.trans hm.below, ?_⟩
        rw [hq]
        show Ending.returned _ = Ending.returned _
        have hap : 0 < acc.length := List.length_pos_iff.2 ha
        have e1 : s.length - (s.drop (i + 1)).length = i + 1 := by rw [List.length_drop]; omega
        simp only [SV.den, SV.dens, hlen]
        rw [eqk, e1]
        simp [hap]
      · repeat' (first | refine yX ?_ | (apply And.intro <;> intro _) | apply bothI | refine retB fun β => ?_ | intro βe | (refine ⟨i + 1, by omega, by omega, ?_⟩) | (refine callX_bld (.any .nilIface) 0 1 (bs' := Lib.byteCells acc ++ [.int .u8 ((s.getD i 0).toNat : Int)]) (by kernel_rfl) rfl ⟨rfl, rfl⟩ rfl rfl (by decide) (Nat.zero_le _) rfl (by simp) (fun β w' hm hb => (Tryd.Builder_WriteByte_k w.heap.size (β 0) (Lib.byteCells acc) ((s.getD i 0).toNat : Int) w' (.inr hb) (by omega) hm.base_le).mono (fun e w' h => ⟨h.1, h.2.1, h.2.2.1⟩)) (fun g0 n0 cap0 => ?_)) | (refine callX_bld (.any .nilIface) 0 1 (bs' := Lib.byteCells acc ++ [.int .u8 ((s.getD (i + 1) 0).toNat : Int)]) (by kernel_rfl) rfl ⟨rfl, rfl⟩ rfl rfl (by decide) (Nat.zero_le _) rfl (by simp) (fun β w' hm hb => (Tryd.Builder_WriteByte_k w.heap.size (β 0) (Lib.byteCells acc) ((s.getD (i + 1) 0).toNat : Int) w' (.inr hb) (by omega) hm.base_le).mono (fun e w' h => ⟨h.1, h.2.1, h.2.2.1⟩)) (fun g0 n0 cap0 => ?_)) | exact trivial)
        all_goals first
        | (exfalso; omega)
        | (exact ret fun β w' hm => hno 0 0 [] w' hm.below (stop (by omega)))
        | (exact ret fun β w' hm => hno 0 0 [] w' hm.below ((esc (by omega) (by omega) (by first | omega | simp)).1 (by omega)))
        | (exact ret fun β w' hm => hno 0 0 [] w' hm.below ((oth (by omega) (by omega) (by omega) (by first | omega | simp)).1 (by omega)))
        | (refine back_sc [50] [] (hI2 _ ⟨⟨i + 2, acc ++ [s.getD (i + 1) 0], true, g0, n0, cap0⟩, by dsimp only; omega, by dsimp only; omega, (fun h => by cases h), (fun _ => by simp), by dsimp only; rw [List.length_append, List.length_singleton]; (first | omega | simp), by dsimp only; rw [hN]; exact (esc (by omega) (by omega) (by first | omega | simp)).2 (by omega)⟩ (by dsimp only; omega) (by dsimp only [bldR]; ((with_reducible show wk _ _); repeat' (first | exact trivial | exact eqSV_refl _ | refine eqI ?_ | refine eqS ?_ | apply And.intro | exact yV | fail)); all_goals first | exact fun b x h => h | exact fun b x h => by rw [MkP.bytes_snoc]; exact h)); done)
        | (refine back_sc [50] [] (hI2 _ ⟨⟨i + 1, acc ++ [s.getD i 0], true, g0, n0, cap0⟩, by dsimp only; omega, by dsimp only; omega, (fun h => by cases h), (fun _ => by simp), by dsimp only; rw [List.length_append, List.length_singleton]; (first | omega | simp), by dsimp only; rw [hN]; exact (oth (by omega) (by omega) (by omega) (by first | omega | simp)).2 (by omega)⟩ (by dsimp only; omega) (by dsimp only [bldR]; ((with_reducible show wk _ _); repeat' (first | exact trivial | exact eqSV_refl _ | refine eqI ?_ | refine eqS ?_ | apply And.intro | exact yV | fail)); all_goals first | exact fun b x h => h | exact fun b x h => by rw [MkP.bytes_snoc]; exact h)); done)
        | trace_state
  · have h93 : ¬ (VaP.bt (s.drop k) 0 = 93 ∧ VaP.bt (s.drop k) 1 = 40) := by rw [hpre] at *; simp_all
    have e := MkP.tgA_one (n := s.length) (hne (by omega)) (by omega) (by omega) h93
    refine hI _ ⟨k + 1, by omega, by rw [hA, e, List.drop_drop]; exact (MkP.tgA_more s.length (s.length + 1) _ (by rw [List.length_drop]; omega) (by omega)).symm⟩ (by dsimp only; omega) (by ((with_reducible show wk _ _); repeat' (first | exact trivial | exact eqSV_refl _ | refine eqI ?_ | refine eqS ?_ | apply And.intro | exact yV | fail)))
end Go.Proofs.YtnbahdnjcdimgaaDoor
