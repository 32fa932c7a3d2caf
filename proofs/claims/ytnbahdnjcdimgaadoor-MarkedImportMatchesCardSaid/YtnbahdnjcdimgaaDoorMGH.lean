/- Marked-down texts, the reference: a line's tokens; attributes held together. Marked-down texts, plain: links of characters, place by place. Marked-down texts, the reference: the link of characters. Marked-down texts, the program: the attributes of the next character. Marked-down texts, the program: the marks of a paragraph. -/
import Derived.Test.YtnbahdnjcdimgaaDoorMGG
import Derived.Test.YtnbahdnjcdimgaaDoorMMkW1
set_option linter.unusedSimpArgs false
set_option linter.unusedVariables false
namespace Go.Proofs.YtnbahdnjcdimgaaDoor
open Go.RowKit
open Sym
attribute [local irreducible] Calls Sym.AggEq
namespace MkP
def tovs (l : List Tok) : List Value := l.flatMap tov
theorem tovs_len (l : List Tok) : (tovs l).length = l.length * 4 := flat_len (f := tov) (sz := 4) (fun _ => rfl) l
theorem tovs_add (l m : List Tok) : tovs (l ++ m) = tovs l ++ tovs m := by simp [tovs]
structure TT where
  i : Nat
  ob : Bool
  a : Option Addr
  n : Nat
  cap : Nat
  l : List Tok
end MkP
theorem tokInfo : (Tryd.prog.info? 66).map (fun i => (i.zero, i.size, i.bytes)) = some (some (.agg #[.int .i64 0, .int .i64 0, .bool false, .bool false]), 4, 24) := by kernel_rfl
set_option maxRecDepth 100000 in
set_option maxHeartbeats 4000000 in
theorem tokens_any (s : List UInt8) (w : World) (hw0 : 0 < w.heap.size) (hs : s.length ≤ 100000) : Calls Tryd.prog 28 #[.string (bstr s)] w fun e w' => Below w.heap.size w w' ∧ ∃ t : Option Addr × Nat, e = .returned (.slice t.1 (MkP.toks s).length t.2) ∧ SlAt t.1 (MkP.tovs (MkP.toks s)) w' ∧ FreshX t.1 (MkP.tovs (MkP.toks s)) w := by
  obtain ⟨i0, hi, hz0, hz1, hz2⟩ := info_parts tokInfo
  have hu := Tryd.underlying63
  have hsz := fun w => Tryd.sizeOf66 w
  have hzv := fun w => Tryd.zeroValue66 w
  refine yE Tryd.func28 rfl Tryd.results28 Tryd.ntmps28 [] [] [.str s] w ?_
  repeat' (first | refine yX ?_ | (apply And.intro <;> intro _) | apply bothI | refine retB fun β => ?_ | intro βe | fail | exact trivial)
  refine loop_z 66 4 hw0 ?_
  refine yZ (T := {t : MkP.TT // t.i ≤ s.length ∧ t.n = t.l.length ∧ t.n ≤ t.i ∧ MkP.toks s = t.l ++ MkP.toks (s.drop t.i) ∧ (t.ob = true → ∃ g, t.a = some ⟨g, 0, none⟩) ∧ (t.ob = false → t.a = none ∧ t.n = 0 ∧ t.cap = 0)}) (fun t => ⟨[(0, .str s), (3, .any (.slice t.1.a t.1.n t.1.cap)), (4, .int .i64 (t.1.i : Nat))], [(0, t.1.ob, .blob (OwnZ t.1.ob 66 4 t.1.a t.1.n t.1.cap (MkP.tovs t.1.l)))], 1, 60⟩) (fun t => s.length - t.1.i) ⟨⟨0, false, none, 0, 0, []⟩, Nat.zero_le _, rfl, Nat.le_refl _, rfl, (fun h => by cases h), fun _ => ⟨rfl, rfl, rfl⟩⟩ [] [] (fun t I hI => ?_) (by ((with_reducible show wk _ _); repeat' (first | exact trivial | exact eqSV_refl _ | refine eqI ?_ | refine eqS ?_ | apply And.intro | exact yV | fail)); all_goals exact fun b x h => h)
  obtain ⟨⟨i, ob, a, n, cap, l⟩, k1, k2, k3, k4, hq1, hq2⟩ := t
  dsimp only at k1 k2 k3 k4 hq1 hq2 ⊢
  by_cases hlt : i < s.length
  · have hne : s.drop i ≠ [] := fun e => by have := congrArg List.length e; rw [List.length_drop] at this; simp at this; omega
    have hb0 : VaP.bt (s.drop i) 0 = (s.getD i 0).toNat := by rw [MkP.bt_drop]; rfl
    have hd : (s.drop i).length = s.length - i := List.length_drop
    have hst := MkP.toks_step hne
    have htn := MkP.tok_n hne
    have fin : ∀ (g2 cap2 : Nat) (T : MkP.Tok), MkP.tok (s.drop i) = T → ∀ (st' : St), wk st' ⟨[(0, .str s), (3, .any (.slice (some ⟨g2, 0, none⟩) (n + 1) cap2)), (4, .int .i64 ((i + T.n : Nat) : Int))], [(0, true, .blob (OwnZ true 66 4 (some ⟨g2, 0, none⟩) (n + 1) cap2 (MkP.tovs (l ++ [T]))))], 1, 60⟩ → BackN _ I st' := fun g2 cap2 T hT st' hw => by
      subst hT
      exact hI st' ⟨⟨i + (MkP.tok (s.drop i)).n, true, some ⟨g2, 0, none⟩, n + 1, cap2, l ++ [MkP.tok (s.drop i)]⟩, by dsimp only; omega, by dsimp only; rw [k2, List.length_append]; rfl, by dsimp only; omega, by dsimp only; rw [k4, hst, List.drop_drop]; simp, fun _ => ⟨g2, rfl⟩, fun h => by cases h⟩ (by dsimp only; omega) hw
    by_cases hE : VaP.bt (s.drop i) 0 = 92 ∧ 1 < (s.drop i).length
    · have etk := MkP.tok_esc hE.1 hE.2
      rw [List.drop_drop] at etk
      have hne1 : s.drop (i + 1) ≠ [] := fun e => by have := congrArg List.length e; rw [List.length_drop] at this; simp at this; omega
      have RU := fun (w : World) => rrune_any (s.drop (i + 1)) w hne1 (by rw [List.length_drop]; omega)
      have hl1 := VaP.dec_len hne1
      have hc32 := VaP.dec_lt hne1
      obtain ⟨c, n1, hcn⟩ : ∃ c n, VaP.dec (s.drop (i + 1)) = (c, n) := ⟨_, _, rfl⟩
      rw [hcn] at hl1 hc32
      dsimp only at hl1 hc32
      rw [List.length_drop] at hl1
      have CH := fun (w : World) => rchar_any c w
      by_cases hA : c = 65533 ∧ n1 = 1
      · obtain ⟨rfl, rfl⟩ := hA
        have hT : MkP.tok (s.drop i) = ⟨63, 2, true, true⟩ := by rw [etk]; unfold MkP.chr; rw [if_pos (.inl hcn), hcn]
        rw [VaP.rune_bad hcn] at RU
        have hmx : 1 + max ((0 : Nat) : Int) 1 = (2 : Nat) := by omega
        (repeat' (first | refine yX ?_ | (apply And.intro <;> intro _) | apply bothI | refine retB fun β => ?_ | intro βe | (refine ⟨i, rfl, by omega, ?_⟩) | (refine ⟨i + 1, by omega, by omega, ?_⟩) | refine yK (.tup [.int .i64 (0 : Nat), .int .i64 (0 : Nat)]) (fun β w hm => RU w) ?_ | refine yK (.lit true) (fun β w hm => CH w) ?_ | (refine opx_build1 (sz := 4) rfl rfl rfl (xs := [.int .i64 63, .int .i64 (1 + max ((0 : Nat) : Int) 1), .bool true, .bool true]) (fun β => rfl) rfl (by omega) (by omega) hu hsz hzv (fun g1 => ?_)) | (refine opx_appendZ 0 2 rfl hu hi hz0 hz1 rfl (by omega) rfl rfl rfl rfl (by unfold maxLen; omega) (by rw [hz2]; omega) (by simp [Value.oneCell']) (by omega) rfl (Nat.zero_le _) rfl rfl rfl hw0 (fun g2 cap2 => ?_)) | exact trivial)); (all_goals first | (exfalso; omega) | skip)
        all_goals exact fin g2 cap2 _ hT _ (by ((with_reducible show wk _ _); repeat' (first | exact trivial | exact eqSV_refl _ | refine eqI ?_ | refine eqS ?_ | apply And.intro | exact yV | fail)); all_goals first | (intro b x h; rw [MkP.tovs_add]; rw [hmg] at h; exact h) | (intro b x h; rw [MkP.tovs_add]; rw [hmx] at h; exact h) | (intro b x h; rw [MkP.tovs_add]; exact h) | fail)
      · rw [VaP.rune_ok hcn (fun e => hA (by cases e; exact ⟨rfl, rfl⟩))] at RU
        have hmx : 1 + max ((n1 : Nat) : Int) 1 = ((n1 + 1 : Nat) : Int) := by omega
        by_cases hC : VaP.charP c = false
        · have hT : MkP.tok (s.drop i) = ⟨63, n1 + 1, true, true⟩ := by rw [etk]; unfold MkP.chr; rw [if_pos (.inr (by rw [hcn]; exact hC)), hcn]
          rw [hC] at CH
          (repeat' (first | refine yX ?_ | (apply And.intro <;> intro _) | apply bothI | refine retB fun β => ?_ | intro βe | (refine ⟨i, rfl, by omega, ?_⟩) | (refine ⟨i + 1, by omega, by omega, ?_⟩) | refine yK (.tup [.int .i64 (c : Nat), .int .i64 (n1 : Nat)]) (fun β w hm => RU w) ?_ | refine yK (.lit false) (fun β w hm => CH w) ?_ | (refine opx_build1 (sz := 4) rfl rfl rfl (xs := [.int .i64 63, .int .i64 (1 + max ((n1 : Nat) : Int) 1), .bool true, .bool true]) (fun β => rfl) rfl (by omega) (by omega) hu hsz hzv (fun g1 => ?_)) | (refine opx_appendZ 0 2 rfl hu hi hz0 hz1 rfl (by omega) rfl rfl rfl rfl (by unfold maxLen; omega) (by rw [hz2]; omega) (by simp [Value.oneCell']) (by omega) rfl (Nat.zero_le _) rfl rfl rfl hw0 (fun g2 cap2 => ?_)) | exact trivial)); (all_goals first | (exfalso; omega) | skip)
          all_goals exact fin g2 cap2 _ hT _ (by ((with_reducible show wk _ _); repeat' (first | exact trivial | exact eqSV_refl _ | refine eqI ?_ | refine eqS ?_ | apply And.intro | exact yV | fail)); all_goals first | (intro b x h; rw [MkP.tovs_add]; rw [hmg] at h; exact h) | (intro b x h; rw [MkP.tovs_add]; rw [hmx] at h; exact h) | (intro b x h; rw [MkP.tovs_add]; exact h) | fail)
        · have hC' : VaP.charP c = true := by simpa using hC
          have hT : MkP.tok (s.drop i) = ⟨c, n1 + 1, true, false⟩ := by rw [etk]; unfold MkP.chr; rw [if_neg (by rintro (h | h); (rw [hcn] at h; exact hA (by cases h; exact ⟨rfl, rfl⟩)); (rw [hcn] at h; exact hC h)), hcn]
          rw [hC'] at CH
          have hmg : 1 + ((n1 : Nat) : Int) = ((n1 + 1 : Nat) : Int) := by omega
          (repeat' (first | refine yX ?_ | (apply And.intro <;> intro _) | apply bothI | refine retB fun β => ?_ | intro βe | (refine ⟨i, rfl, by omega, ?_⟩) | (refine ⟨i + 1, by omega, by omega, ?_⟩) | refine yK (.tup [.int .i64 (c : Nat), .int .i64 (n1 : Nat)]) (fun β w hm => RU w) ?_ | refine yK (.lit true) (fun β w hm => CH w) ?_ | (refine opx_build1 (sz := 4) rfl rfl rfl (xs := [.int .i64 ((c : Nat) : Int), .int .i64 (1 + ((n1 : Nat) : Int)), .bool true, .bool false]) (fun β => rfl) rfl (by omega) (by omega) hu hsz hzv (fun g1 => ?_)) | (refine opx_appendZ 0 2 rfl hu hi hz0 hz1 rfl (by omega) rfl rfl rfl rfl (by unfold maxLen; omega) (by rw [hz2]; omega) (by simp [Value.oneCell']) (by omega) rfl (Nat.zero_le _) rfl rfl rfl hw0 (fun g2 cap2 => ?_)) | exact trivial)); (all_goals first | (exfalso; omega) | skip)
          all_goals exact fin g2 cap2 _ hT _ (by ((with_reducible show wk _ _); repeat' (first | exact trivial | exact eqSV_refl _ | refine eqI ?_ | refine eqS ?_ | apply And.intro | exact yV | fail)); all_goals first | (intro b x h; rw [MkP.tovs_add]; rw [hmg] at h; exact h) | (intro b x h; rw [MkP.tovs_add]; rw [hmx] at h; exact h) | (intro b x h; rw [MkP.tovs_add]; exact h) | fail)
    · have etk := MkP.tok_one hE
      have RU := fun (w : World) => rrune_any (s.drop i) w hne (by rw [List.length_drop]; omega)
      have hl1 := VaP.dec_len hne
      have hc32 := VaP.dec_lt hne
      obtain ⟨c, n1, hcn⟩ : ∃ c n, VaP.dec (s.drop i) = (c, n) := ⟨_, _, rfl⟩
      rw [hcn] at hl1 hc32
      dsimp only at hl1 hc32
      have CH := fun (w : World) => rchar_any c w
      by_cases hA : c = 65533 ∧ n1 = 1
      · obtain ⟨rfl, rfl⟩ := hA
        have hT : MkP.tok (s.drop i) = ⟨63, 1, false, true⟩ := by rw [etk]; unfold MkP.chr; rw [if_pos (.inl hcn), hcn]
        rw [VaP.rune_bad hcn] at RU
        (repeat' (first | refine yX ?_ | (apply And.intro <;> intro _) | apply bothI | refine retB fun β => ?_ | intro βe | (refine ⟨i, rfl, by omega, ?_⟩) | (refine ⟨i + 1, by omega, by omega, ?_⟩) | refine yK (.tup [.int .i64 (0 : Nat), .int .i64 (0 : Nat)]) (fun β w hm => RU w) ?_ | refine yK (.lit true) (fun β w hm => CH w) ?_ | (refine opx_build1 (sz := 4) rfl rfl rfl (xs := [.int .i64 63, .int .i64 (0 + max ((0 : Nat) : Int) 1), .bool false, .bool true]) (fun β => rfl) rfl (by omega) (by omega) hu hsz hzv (fun g1 => ?_)) | (refine opx_appendZ 0 2 rfl hu hi hz0 hz1 rfl (by omega) rfl rfl rfl rfl (by unfold maxLen; omega) (by rw [hz2]; omega) (by simp [Value.oneCell']) (by omega) rfl (Nat.zero_le _) rfl rfl rfl hw0 (fun g2 cap2 => ?_)) | exact trivial)); (all_goals first | (exfalso; omega) | skip)
        all_goals exact fin g2 cap2 _ hT _ (by ((with_reducible show wk _ _); repeat' (first | exact trivial | exact eqSV_refl _ | refine eqI ?_ | refine eqS ?_ | apply And.intro | exact yV | fail)); all_goals first | (intro b x h; rw [MkP.tovs_add]; exact h) | fail)
      · rw [VaP.rune_ok hcn (fun e => hA (by cases e; exact ⟨rfl, rfl⟩))] at RU
        by_cases hC : VaP.charP c = false
        · have hT : MkP.tok (s.drop i) = ⟨63, n1, false, true⟩ := by rw [etk]; unfold MkP.chr; rw [if_pos (.inr (by rw [hcn]; exact hC)), hcn]
          rw [hC] at CH
          have hmx : 0 + max ((n1 : Nat) : Int) 1 = (n1 : Nat) := by omega
          (repeat' (first | refine yX ?_ | (apply And.intro <;> intro _) | apply bothI | refine retB fun β => ?_ | intro βe | (refine ⟨i, rfl, by omega, ?_⟩) | (refine ⟨i + 1, by omega, by omega, ?_⟩) | refine yK (.tup [.int .i64 (c : Nat), .int .i64 (n1 : Nat)]) (fun β w hm => RU w) ?_ | refine yK (.lit false) (fun β w hm => CH w) ?_ | (refine opx_build1 (sz := 4) rfl rfl rfl (xs := [.int .i64 63, .int .i64 (0 + max ((n1 : Nat) : Int) 1), .bool false, .bool true]) (fun β => rfl) rfl (by omega) (by omega) hu hsz hzv (fun g1 => ?_)) | (refine opx_appendZ 0 2 rfl hu hi hz0 hz1 rfl (by omega) rfl rfl rfl rfl (by unfold maxLen; omega) (by rw [hz2]; omega) (by simp [Value.oneCell']) (by omega) rfl (Nat.zero_le _) rfl rfl rfl hw0 (fun g2 cap2 => ?_)) | exact trivial)); (all_goals first | (exfalso; omega) | skip)
          all_goals exact fin g2 cap2 _ hT _ (by ((with_reducible show wk _ _); repeat' (first | exact trivial | exact eqSV_refl _ | refine eqI ?_ | refine eqS ?_ | apply And.intro | exact yV | fail)); all_goals first | (intro b x h; rw [MkP.tovs_add]; rw [hmg] at h; exact h) | (intro b x h; rw [MkP.tovs_add]; rw [hmx] at h; exact h) | (intro b x h; rw [MkP.tovs_add]; exact h) | fail)
        · have hC' : VaP.charP c = true := by simpa using hC
          have hT : MkP.tok (s.drop i) = ⟨c, n1, false, false⟩ := by rw [etk]; unfold MkP.chr; rw [if_neg (by rintro (h | h); (rw [hcn] at h; exact hA (by cases h; exact ⟨rfl, rfl⟩)); (rw [hcn] at h; exact hC h)), hcn]
          rw [hC'] at CH
          have hmx : 0 + max ((n1 : Nat) : Int) 1 = (n1 : Nat) := by omega
          have hmg : 0 + ((n1 : Nat) : Int) = ((n1 : Nat) : Int) := by omega
          (repeat' (first | refine yX ?_ | (apply And.intro <;> intro _) | apply bothI | refine retB fun β => ?_ | intro βe | (refine ⟨i, rfl, by omega, ?_⟩) | (refine ⟨i + 1, by omega, by omega, ?_⟩) | refine yK (.tup [.int .i64 (c : Nat), .int .i64 (n1 : Nat)]) (fun β w hm => RU w) ?_ | refine yK (.lit true) (fun β w hm => CH w) ?_ | (refine opx_build1 (sz := 4) rfl rfl rfl (xs := [.int .i64 ((c : Nat) : Int), .int .i64 (0 + ((n1 : Nat) : Int)), .bool false, .bool false]) (fun β => rfl) rfl (by omega) (by omega) hu hsz hzv (fun g1 => ?_)) | (refine opx_appendZ 0 2 rfl hu hi hz0 hz1 rfl (by omega) rfl rfl rfl rfl (by unfold maxLen; omega) (by rw [hz2]; omega) (by simp [Value.oneCell']) (by omega) rfl (Nat.zero_le _) rfl rfl rfl hw0 (fun g2 cap2 => ?_)) | exact trivial)); (all_goals first | (exfalso; omega) | skip)
          all_goals exact fin g2 cap2 _ hT _ (by ((with_reducible show wk _ _); repeat' (first | exact trivial | exact eqSV_refl _ | refine eqI ?_ | refine eqS ?_ | apply And.intro | exact yV | fail)); all_goals first | (intro b x h; rw [MkP.tovs_add]; rw [hmg] at h; exact h) | (intro b x h; rw [MkP.tovs_add]; rw [hmx] at h; exact h) | (intro b x h; rw [MkP.tovs_add]; exact h) | fail)
  · obtain rfl : i = s.length := by omega
    have e : MkP.toks s = l := by rw [k4, List.drop_eq_nil_of_le (Nat.le_refl _), MkP.toks_nil, List.append_nil]
    repeat' (first | refine yX ?_ | (apply And.intro <;> intro _) | apply bothI | refine retB fun β => ?_ | intro βe | fail | exact trivial)
    all_goals first | (exfalso; omega) | skip
    rw [e]
    refine ret fun β w' hm => ⟨hm.below, (a, cap), by rw [← k2]; rfl, ?_⟩
    obtain ⟨r1, -, -, r4⟩ := hm.row 0 _ _ rfl
    cases ob
    · obtain ⟨-, -, -, rx⟩ := r1.2
      rw [rx]
      exact ⟨sl_nil _ _, fun h => absurd rfl h⟩
    · obtain ⟨g, rfl, ro⟩ := r1.2
      exact ⟨ro.slAt r1.1, fun _ ad e => by cases e; rw [← ro.1]; exact r4 rfl⟩
end Go.Proofs.YtnbahdnjcdimgaaDoor
namespace Go.Proofs.YtnbahdnjcdimgaaDoor
namespace MkP
/-- the character at a place -/
def tk (l : List Tok) (i : Nat) : Tok := l.getD i ⟨0, 0, false, false⟩
theorem tk_step {l : List Tok} {k : Nat} (h : k < l.length) : l.drop k = tk l k :: l.drop (k + 1) := by
  rw [List.drop_eq_getElem_cons h, tk, List.getD_eq_getElem?_getD, List.getElem?_eq_getElem h]; rfl
theorem hd_drop {l : List Tok} {k c : Nat} : hd (l.drop k) c = (decide (k < l.length) && (tk l k).is c) := by
  by_cases h : k < l.length
  · rw [tk_step h]; simp [hd, h]
  · rw [List.drop_eq_nil_of_le (by omega)]; simp [hd, h]
theorem lkA_out {l : List Tok} {k : Nat} (h : l.length ≤ k) : lkA (l.drop k) = none := by rw [List.drop_eq_nil_of_le h]; rfl
theorem lkA_stop {l : List Tok} {k : Nat} (h : k < l.length) (h1 : (tk l k).is 91 = true) : lkA (l.drop k) = none := by rw [tk_step h]; simp [lkA, h1]
theorem lkA_found {l : List Tok} {k : Nat} (h : k < l.length) (h1 : (tk l k).is 91 = false) (h2 : (tk l k).is 93 = true) (h3 : k + 1 < l.length) (h4 : (tk l (k + 1)).is 40 = true) : lkA (l.drop k) = some (l.drop k) := by
  rw [tk_step h]; simp [lkA, h1, h2, hd_drop, h3, h4]
theorem lkA_next {l : List Tok} {k : Nat} (h : k < l.length) (h1 : (tk l k).is 91 = false) (h2 : (tk l k).is 93 = true → k + 1 < l.length → (tk l (k + 1)).is 40 = false) : lkA (l.drop k) = lkA (l.drop (k + 1)) := by
  rw [tk_step h]
  simp only [lkA, h1, hd_drop, Bool.false_eq_true, if_false]
  rw [if_neg]
  intro q
  simp only [Bool.and_eq_true, decide_eq_true_eq] at q
  rw [h2 q.1 q.2.1] at q
  exact absurd q.2.2 (by simp)
theorem lkB_out {l : List Tok} {k : Nat} {acc : Str} (h : l.length ≤ k) : lkB (l.drop k) acc = none := by rw [List.drop_eq_nil_of_le h]; rfl
theorem lkB_end {l : List Tok} {k : Nat} {acc : Str} (h : k < l.length) (h1 : (tk l k).is 41 = true) : lkB (l.drop k) acc = if acc = [] ∨ 200 < acc.length then none else some (acc, l.drop (k + 1)) := by rw [tk_step h]; simp [lkB, h1]
theorem lkB_bad {l : List Tok} {k : Nat} {acc : Str} (h : k < l.length) (h1 : (tk l k).is 41 = false) (h2 : (tk l k).bad = true ∨ (tk l k).c < 32 ∨ 126 < (tk l k).c ∨ (tk l k).is 92 = true) : lkB (l.drop k) acc = none := by rw [tk_step h]; simp only [lkB, h1, Bool.false_eq_true, if_false]; rw [if_pos h2]
theorem lkB_next {l : List Tok} {k : Nat} {acc : Str} (h : k < l.length) (h1 : (tk l k).is 41 = false) (h2 : ¬ ((tk l k).bad = true ∨ (tk l k).c < 32 ∨ 126 < (tk l k).c ∨ (tk l k).is 92 = true)) : lkB (l.drop k) acc = lkB (l.drop (k + 1)) (acc ++ [UInt8.ofNat (tk l k).c]) := by rw [tk_step h]; simp only [lkB, h1, Bool.false_eq_true, if_false]; rw [if_neg h2]
/-- what the reference answers for a link -/
def lkV (n : Nat) (o : Option (Str × List Tok × List Tok)) : Str × Nat × Nat := match o with
  | none => ([], 0, 0)
  | some (t, m, b) => (t, n - m.length, n - b.length)
end MkP
end Go.Proofs.YtnbahdnjcdimgaaDoor
namespace Go.Proofs.YtnbahdnjcdimgaaDoor
open Go.RowKit
open Sym
attribute [local irreducible] Calls Sym.AggEq
namespace MkP
theorem tovs_at {a : Option Addr} {l : List Tok} {w : World} (h : SlAt a (tovs l) w) {k : Nat} (hk : k < l.length) : ∃ ad, a = some ad ∧ ad.block < w.heap.size ∧ ∀ j v, (tov (tk l k))[j]? = some v → w.cell? (ad.add (k * 4 + j)) = some v := by
  have e : ∀ j v, (tov (tk l k))[j]? = some v → (tovs l)[k * 4 + j]? = some v := fun j v hv => by
    have := flat_at (f := tov) (sz := 4) (fun _ => rfl) l k j (tk l k) (by rw [tk, List.getD_eq_getElem?_getD, List.getElem?_eq_getElem hk]; rfl) (by have := (List.getElem?_eq_some_iff.1 hv).1; exact this)
    exact this.trans hv
  obtain ⟨ad, h1, h2, _⟩ := h (k * 4 + 0) _ (e 0 _ rfl)
  refine ⟨ad, h1, h2, fun j v hv => ?_⟩
  obtain ⟨ad', h1', _, h3⟩ := h _ _ (e j v hv)
  rw [h1] at h1'
  cases h1'
  exact h3
/-- a character as the walk holds it -/
def tvS (t : Tok) : List SV := [.int .i64 (t.c : Nat), .int .i64 (t.n : Nat), .bool t.text, .bool t.bad]
end MkP
theorem x_bytesStrS {C : Ctx} {G : Blobs} {x : Operand} {t u e : TypeId} {g cap n : Nat} {xs : List Value} (i : Nat) (l : List UInt8) (hs : C.P.underlying t = some (.slice e)) (he : C.P.underlying e = some (.int .u8)) (hd : C.P.underlying u = some .string)
    (ri : G i = some (OwnS e 1 g n cap xs)) (hx : xs = bvals l) : ExtN C G (.convert t u x) [.any (.slice (some ⟨g, 0, none⟩) n cap)] (.str l) := by
  have q := x_bytesStr (C := C) (G := fun j => if j = i then some (OwnI e g n cap xs) else none) (x := x) (t := t) (u := u) (e := e) (g := g) (cap := cap) (n := n) (xs := xs) i l hs he hd (by simp) hx
  unfold ExtN at q ⊢
  intro ρ β w dst ty pos after gd hb hG h
  refine q ρ β w dst ty pos after gd hb (fun j Φ hj => ?_) h
  have hj : (if j = i then some (OwnI e g n cap xs) else none) = some Φ := hj
  by_cases e1 : j = i
  · subst e1
    rw [if_pos rfl] at hj
    cases hj
    obtain ⟨h1, h2, cur, h3, h4, h5, h6, h7, h8⟩ := hG _ _ ri
    exact ⟨h1, h2, cur, h3, h4, h5, by rw [h6, Nat.mul_one], by rw [Nat.mul_one] at h7; exact h7, by rw [h8, Nat.mul_one]⟩
  · rw [if_neg e1] at hj; cases hj
set_option maxRecDepth 100000 in
set_option maxHeartbeats 4000000 in
theorem linkAt_any (L : List MkP.Tok) (a : Option Addr) (cap i : Nat) (w : World) (hL : L.length ≤ 100000) (hlt : i < L.length) (h : SlAt a (MkP.tovs L) w) :
    QC 30 #[.slice a L.length cap, .int .i64 (i : Nat)] w (.tuple #[.string (bstr (MkP.lkV L.length (MkP.linkT (L.drop (i + 1)))).1), .int .i64 ((MkP.lkV L.length (MkP.linkT (L.drop (i + 1)))).2.1 : Nat), .int .i64 ((MkP.lkV L.length (MkP.linkT (L.drop (i + 1)))).2.2 : Nat)]) := by
  have hu := Tryd.underlying63
  have hsz := fun w => Tryd.sizeOf66 w
  obtain ⟨ad, rfl, hb, _⟩ := MkP.tovs_at h hlt
  have LD : ∀ k, k < L.length → ∀ w', Below w.heap.size w w' → ∀ β j v, (SV.dens β (MkP.tvS (MkP.tk L k)))[j]? = some v → w'.cell? ((ad.add (k * 4)).add j) = some v := fun k hk w' hw β j v hv => by
    obtain ⟨ad', e, _, hc⟩ := MkP.tovs_at h hk
    cases e
    rw [Go.Deep.add_add]
    exact (World.cell?_of_block (w := w) (by rw [add_block]; exact hw.block _ hb)).trans (hc j v hv)
  have IS := fun (k c : Nat) (hc : c < 256) (w : World) => ris_any (MkP.tk L k) c w hc
  refine yE Tryd.func30 rfl Tryd.results30 Tryd.ntmps30 [] [] [.any (.slice (some ad) L.length cap), .int .i64 (i : Nat)] w ?_
  repeat' (first | refine yX ?_ | (apply And.intro <;> intro _) | apply bothI | refine retB fun β => ?_ | intro βe | refine yO (x_len hu) ?_ | exact trivial)
  refine yZ (T := {k : Nat // i + 1 ≤ k ∧ k ≤ L.length ∧ MkP.lkA (L.drop (i + 1)) = MkP.lkA (L.drop k)}) (fun k => ⟨[(0, .any (.slice (some ad) L.length cap)), (1, .int .i64 (i : Nat)), (4, .str []), (5, .int .i64 0), (6, .int .i64 0), (7, .int .i64 (k.1 : Nat))], [], 0, 110⟩) (fun k => L.length - k.1) ⟨i + 1, Nat.le_refl _, hlt, rfl⟩ [] [] (fun k I hI => ?_) (by ((with_reducible show wk _ _); repeat' (first | exact trivial | exact eqSV_refl _ | refine eqI ?_ | refine eqS ?_ | apply And.intro | exact yV | fail)))
  obtain ⟨k, k1, k2, k3⟩ := k
  dsimp only at k1 k2 k3 ⊢
  by_cases hk : k < L.length
  · have ld := LD k hk
    have ld1 := LD (k + 1)
    have is3 := fun w => IS (k + 1) 40 (by decide) w
    have is1 := fun w => IS k 91 (by decide) w
    have is2 := fun w => IS k 93 (by decide) w
    repeat' (first | refine yX ?_ | (apply And.intro <;> intro _) | apply bothI | refine retB fun β => ?_ | intro βe | refine yO (x_len hu) ?_ | refine yN (j := k) hu hsz ?_ | refine yN (j := k + 1) hu hsz ?_ | (refine ⟨_, ?ok, x_loadAgg (vs := MkP.tvS (MkP.tk L (k + 1))) (fun w => Tryd.isAgg66 w) (fun w => Tryd.sizeOf66 w) (ld1 (by omega)), ?_⟩; (case ok => exact fun _ _ => ⟨trivial, trivial, trivial, trivial, trivial⟩)) | refine yK (.bool ((MkP.tk L (k + 1)).is 40)) (fun β w hm => is3 w) ?_ | (refine ⟨_, ?ok, x_loadAgg (vs := MkP.tvS (MkP.tk L k)) (fun w => Tryd.isAgg66 w) (fun w => Tryd.sizeOf66 w) ld, ?_⟩; (case ok => exact fun _ _ => ⟨trivial, trivial, trivial, trivial, trivial⟩)) | refine yK (.bool ((MkP.tk L k).is 91)) (fun β w hm => is1 w) ?_ | refine yK (.bool ((MkP.tk L k).is 93)) (fun β w hm => is2 w) ?_ | exact trivial)
    all_goals first
      | (exfalso; omega)
      | (refine hI _ ⟨k + 1, by omega, by omega, k3.trans (MkP.lkA_next hk (by simp_all) (by intros; first | omega | simp_all))⟩ (by dsimp only; omega) (by ((with_reducible show wk _ _); repeat' (first | exact trivial | exact eqSV_refl _ | refine eqI ?_ | refine eqS ?_ | apply And.intro | exact yV | fail))); done)
      | (have e := k3.trans (MkP.lkA_stop hk (by simp_all)); unfold MkP.linkT; rw [e]; rfl)
      | skip
    have hB : MkP.lkA (L.drop (i + 1)) = some (L.drop k) := k3.trans (MkP.lkA_found hk (by simp_all) (by simp_all) (by omega) (by simp_all))
    all_goals
      refine yZ (T := {t : Nat × List UInt8 // k + 2 ≤ t.1 ∧ t.1 ≤ L.length ∧ t.2.length ≤ t.1 ∧ MkP.lkB (L.drop (k + 2)) [] = MkP.lkB (L.drop t.1) t.2}) (fun t => ⟨[(0, .any (.slice (some ad) L.length cap)), (1, .int .i64 (i : Nat)), (4, .str []), (5, .int .i64 0), (6, .int .i64 0), (7, .int .i64 (k : Nat)), (8, .str t.1.2), (9, .int .i64 (t.1.1 : Nat))], [], 0, 110⟩) (fun t => L.length - t.1.1) ⟨(k + 2, []), Nat.le_refl _, by omega, Nat.zero_le _, rfl⟩ [] [] (fun t I2 hI2 => ?_) (by ((with_reducible show wk _ _); repeat' (first | exact trivial | exact eqSV_refl _ | refine eqI ?_ | refine eqS ?_ | apply And.intro | exact yV | fail)))
      obtain ⟨⟨m, acc⟩, m1, m2, m3, m4⟩ := t
      dsimp only at m1 m2 m3 m4 ⊢
      by_cases hm : m < L.length
      · have ldm := LD m hm
        have is4 := fun w => IS m 41 (by decide) w
        have is5 := fun w => IS m 92 (by decide) w
        repeat' (first | refine yX ?_ | (apply And.intro <;> intro _) | apply bothI | refine retB fun β => ?_ | intro βe | refine yO (x_len hu) ?_ | refine yN (j := m) hu hsz ?_ | (refine ⟨_, ?ok, x_loadAgg (vs := MkP.tvS (MkP.tk L m)) (fun w => Tryd.isAgg66 w) (fun w => Tryd.sizeOf66 w) ldm, ?_⟩; (case ok => exact fun _ _ => ⟨trivial, trivial, trivial, trivial, trivial⟩)) | refine yK (.bool ((MkP.tk L m).is 41)) (fun β w hm => is4 w) ?_ | refine yK (.bool ((MkP.tk L m).is 92)) (fun β w hm => is5 w) ?_ | refine yO (x_field Tryd.underlying66 rfl (fun w => Tryd.sizeOf4 w) (by decide)) ?_ | refine yO (x_field Tryd.underlying66 rfl (fun w => Tryd.sizeOf3 w) (by decide)) ?_ | refine yO (x_load1 (v := .bool (MkP.tk L m).bad) (fun w => Tryd.isAgg4 w) (fun w' hb β => ldm w' hb β 3 _ rfl)) ?_ | refine yO (x_load1 (v := .int .i64 ((MkP.tk L m).c : Nat)) (fun w => Tryd.isAgg3 w) (fun w' hb β => ldm w' hb β 0 _ rfl)) ?_ | (refine opx_build1 (sz := 1) rfl rfl rfl (xs := [.int .u8 ((MkP.tk L m).c : Nat)]) (fun β => rfl) rfl (by omega) (by omega) Tryd.underlying62 (fun w => Tryd.sizeOf5 w) (fun w => Tryd.zeroValue5 w) (fun g1 => ?_)) | refine yO (x_bytesStrS 0 [UInt8.ofNat (MkP.tk L m).c] Tryd.underlying62 Tryd.underlying5 Tryd.underlying9 rfl (by rw [bvals, List.map, List.map, show (UInt8.ofNat (MkP.tk L m).c).toNat = (MkP.tk L m).c by rw [UInt8.toNat_ofNat']; omega])) ?_ | exact trivial)
        all_goals first
          | (exfalso; omega)
          | (unfold MkP.linkT; rw [hB]; dsimp only; rw [List.drop_drop, m4, MkP.lkB_end hm (by assumption), if_pos (by first | exact .inl (by assumption) | exact .inr (by omega))]; rfl)
          | (unfold MkP.linkT; rw [hB]; dsimp only; rw [List.drop_drop, m4, MkP.lkB_bad hm (by assumption) (by first | exact .inl (by assumption) | exact .inr (.inl (by omega)) | exact .inr (.inr (.inl (by omega))) | exact .inr (.inr (.inr (by assumption))))]; rfl)
          | (unfold MkP.linkT; rw [hB]; dsimp only; rw [List.drop_drop, m4, MkP.lkB_end hm (by assumption), if_neg (by rintro (h | h) <;> first | contradiction | omega)]; simp only [MkP.lkV, SV.den, SV.dens, List.length_drop]; rw [show L.length - (L.length - k) = k by omega, show L.length - (L.length - (m + 1)) = m + 1 by omega]; rfl)
          | skip
        all_goals (refine hI2 _ ⟨(m + 1, acc ++ [UInt8.ofNat (MkP.tk L m).c]), by omega, by omega, by simp only [List.length_append, List.length_singleton]; omega, m4.trans (MkP.lkB_next hm (by assumption) (by rintro (h | h | h | h) <;> first | (rw [h] at *; contradiction) | omega | simp_all))⟩ (by dsimp only; omega) (by ((with_reducible show wk _ _); repeat' (first | exact trivial | exact eqSV_refl _ | refine eqI ?_ | refine eqS ?_ | apply And.intro | exact yV | fail))))
      · have e := MkP.lkB_out (l := L) (k := m) (acc := acc) (by omega)
        repeat' (first | refine yX ?_ | (apply And.intro <;> intro _) | apply bothI | refine retB fun β => ?_ | intro βe | refine yO (x_len hu) ?_ | exact trivial)
        all_goals first | (exfalso; omega) | (unfold MkP.linkT; rw [hB]; dsimp only; rw [List.drop_drop, m4, e]; rfl) | skip
  · have e := k3.trans (MkP.lkA_out (l := L) (k := k) (by omega))
    repeat' (first | refine yX ?_ | (apply And.intro <;> intro _) | apply bothI | refine retB fun β => ?_ | intro βe | refine yO (x_len hu) ?_ | exact trivial)
    all_goals first | (exfalso; omega) | (unfold MkP.linkT; rw [e]; rfl) | skip
end Go.Proofs.YtnbahdnjcdimgaaDoor
namespace Go.Proofs.YtnbahdnjcdimgaaDoor
open Go.RowKit
open Sym
attribute [local irreducible] Calls Sym.AggEq
namespace MkP
structure ZT where
  i : Nat
  ob : Bool
  a : Option Addr
  cap : Nat
  n : Nat
  l : List (Str × Str)
def opt (b : Bool) (n : Str) : List (Str × Str) := if b then [(n, vOn)] else []
def preA (o0 o1 o2 o3 : Bool) : Nat → List (Str × Str)
  | 0 => []
  | 1 => opt o0 nBold
  | 2 => opt o0 nBold ++ opt o1 nItalic
  | 3 => opt o0 nBold ++ opt o1 nItalic ++ opt o2 nStrike
  | _ => opt o0 nBold ++ opt o1 nItalic ++ opt o2 nStrike ++ opt o3 nFixed
/-- sorted, they are as the reference has them -/
theorem sort_ats (o0 o1 o2 o3 : Bool) (link : Str) : insF ((preA o0 o1 o2 o3 4 ++ (if link = [] then [] else [(nLink, link)])).length - 1) 1 (preA o0 o1 o2 o3 4 ++ (if link = [] then [] else [(nLink, link)])) = ats o0 o1 o2 o3 link := by
  unfold ats
  by_cases h : link = []
  · subst h
    cases o0 <;> cases o1 <;> cases o2 <;> cases o3 <;> rfl
  · rw [if_neg h]
    generalize link = k
    cases o0 <;> cases o1 <;> cases o2 <;> cases o3 <;> rfl
end MkP
def tgS : List SV := [.str [42, 42], .str MkP.nBold, .str [42], .str MkP.nItalic, .str [126, 126], .str MkP.nStrike, .str [96], .str MkP.nFixed]
theorem attrInfo : (Tryd.prog.info? 32).map (fun i => (i.zero, i.size, i.bytes)) = some (some (.agg #[.string ⟨#[]⟩, .string ⟨#[]⟩]), 2, 32) := by kernel_rfl
set_option maxRecDepth 100000 in
set_option maxHeartbeats 4000000 in
theorem attrs_any (b : Nat) (o0 o1 o2 o3 : Bool) (link : List UInt8) (w : World) (hw : XM w) (h0 : w.cell? ⟨b, 2, none⟩ = some (.bool o0)) (h1 : w.cell? ⟨b, 3, none⟩ = some (.bool o1)) (h2 : w.cell? ⟨b, 4, none⟩ = some (.bool o2)) (h3 : w.cell? ⟨b, 5, none⟩ = some (.bool o3)) (h4 : w.cell? ⟨b, 6, none⟩ = some (.string (bstr link))) :
    Calls Tryd.prog 43 #[.pointer (some ⟨b, 0, none⟩)] w fun e w' => Below w.heap.size w w' ∧ ∃ t : Option Addr × Nat, e = .returned (.slice t.1 (MkP.ats o0 o1 o2 o3 link).length t.2) ∧ SlAt t.1 (MkP.atv (MkP.ats o0 o1 o2 o3 link)) w' ∧ FreshX t.1 (MkP.atv (MkP.ats o0 o1 o2 o3 link)) w := by
  obtain ⟨i0, hi, hz0, hz1, hz2⟩ := info_parts attrInfo
  have hu := Tryd.underlying28
  have hsz := fun w => Tryd.sizeOf32 w
  have hzv := fun w => Tryd.zeroValue32 w
  have hpos : 0 < w.heap.size := Nat.lt_of_le_of_lt (Nat.zero_le _) (World.block_lt_of_cell? _ _ h0)
  have hT := hw.tog
  have c0 := fun (w' : World) (hb : Below w.heap.size w w') => cell_below h0 hb
  have c1 := fun (w' : World) (hb : Below w.heap.size w w') => cell_below h1 hb
  have c2 := fun (w' : World) (hb : Below w.heap.size w w') => cell_below h2 hb
  have c3 := fun (w' : World) (hb : Below w.heap.size w w') => cell_below h3 hb
  have c4 := fun (w' : World) (hb : Below w.heap.size w w') => cell_below h4 hb
  refine yE Tryd.func43 rfl Tryd.results43 Tryd.ntmps43 [] [] [.any (.pointer (some ⟨b, 0, none⟩))] w ?_
  have ld : ∀ w', Below w.heap.size w w' → ∀ β j v, (SV.dens β tgS)[j]? = some v → w'.cell? ((⟨0, 0, none⟩ : Addr).add j) = some v := fun w' hb β j v hv => by
    have e : SV.dens β tgS = MkP.togs.map fun s => Value.string (bstr s) := rfl
    rw [e, List.getElem?_map] at hv
    obtain ⟨s, hs, rfl⟩ := Option.map_eq_some_iff.1 hv
    rw [add_at, Nat.zero_add]
    exact cell_below (hT j s hs) hb
  repeat' (first | refine yX ?_ | (apply And.intro <;> intro _) | apply bothI | refine retB fun β => ?_ | intro βe | (refine ⟨_, ?ok, x_loadAgg (vs := tgS) (fun w => Tryd.isAgg84 w) (fun w => Tryd.sizeOf84 w) ld, ?_⟩; (case ok => exact fun _ _ => ⟨trivial, trivial, trivial, trivial, trivial, trivial, trivial, trivial, trivial⟩)) | exact trivial)
  refine loop_z 32 2 hpos ?_
  refine yZ (T := {t : MkP.ZT // t.i ≤ 4 ∧ t.n = t.l.length ∧ t.l = MkP.preA o0 o1 o2 o3 t.i ∧ (t.ob = true → ∃ g, t.a = some ⟨g, 0, none⟩) ∧ (t.ob = false → t.a = none ∧ t.n = 0 ∧ t.cap = 0)}) (fun t => ⟨[(0, .any (.pointer (some ⟨b, 0, none⟩))), (3, .any (.slice t.1.a t.1.n t.1.cap)), (6, .agg tgS), (7, .int .i64 (t.1.i : Nat))], [(0, t.1.ob, .blob (OwnZ t.1.ob 32 2 t.1.a t.1.n t.1.cap (MkP.atv t.1.l)))], 1, 40⟩) (fun t => 4 - t.1.i) ⟨⟨0, false, none, 0, 0, []⟩, Nat.zero_le _, rfl, rfl, (fun h => by cases h), fun _ => ⟨rfl, rfl, rfl⟩⟩ [28] [] (fun t I hI => ?_) (by ((with_reducible show wk _ _); repeat' (first | exact trivial | exact eqSV_refl _ | refine eqI ?_ | refine eqS ?_ | apply And.intro | exact yV | fail)); all_goals exact fun b x h => h)
  obtain ⟨⟨i, ob, a, cap, n, l⟩, hi4, hn, hl, hq1, hq2⟩ := t
  dsimp only at hi4 hn hl hq1 hq2 ⊢
  have hn4 : n ≤ 4 := by
    rw [hn, hl]
    rcases (by omega : i = 0 ∨ i = 1 ∨ i = 2 ∨ i = 3 ∨ i = 4) with rfl | rfl | rfl | rfl | rfl <;> (cases o0 <;> cases o1 <;> cases o2 <;> cases o3 <;> decide)
  rcases (by omega : i = 0 ∨ i = 1 ∨ i = 2 ∨ i = 3 ∨ i = 4) with rfl | rfl | rfl | rfl | rfl
  · repeat' (first | refine yX ?_ | (apply And.intro <;> intro _) | apply bothI | refine retB fun β => ?_ | intro βe | (refine ⟨_, ?ok, x_indexN (j := 0) (ws := [.str [42, 42], .str MkP.nBold]) rfl Tryd.underlying84 (fun w => Tryd.sizeOf83 w) (fun w => Tryd.isAgg83 w) (by omega) rfl, ?_⟩; (case ok => exact fun _ _ => ⟨trivial, trivial, trivial⟩)) | refine yO x_nilA ?_ | refine yO (x_field Tryd.underlying43 rfl (fun w => Tryd.sizeOf41 w) (by decide)) ?_ | refine yO (x_indexAny (j := 0) rfl Tryd.underlying41 (fun w => Tryd.sizeOf4 w) (by omega)) ?_ | refine yO (v := .bool o0) (x_load1 (fun w => Tryd.isAgg4 w) (fun w' hb β => c0 w' hb)) ?_ | (refine opx_build1 (sz := 2) rfl rfl rfl (xs := [.string (bstr MkP.nBold), .string (bstr MkP.vOn)]) (fun β => rfl) rfl (by omega) (by omega) hu hsz hzv (fun g1 => ?_)) | (refine opx_appendZ 0 2 rfl hu hi hz0 hz1 rfl (by omega) rfl rfl rfl rfl (by unfold maxLen; omega) (by rw [hz2]; omega) (by simp [Value.oneCell']) (by omega) rfl (Nat.zero_le _) rfl rfl rfl hpos (fun g2 cap2 => ?_)) | exact trivial)
    all_goals first | (exfalso; omega) | (refine hI _ ⟨⟨0 + 1, true, _, cap2, n + 1, l ++ [(MkP.nBold, MkP.vOn)]⟩, by dsimp only; omega, by dsimp only; rw [hn, List.length_append]; rfl, by dsimp only; rw [hl]; simp [MkP.preA, MkP.opt, *], fun _ => ⟨g2, rfl⟩, fun h => by cases h⟩ (by dsimp only; omega) (by ((with_reducible show wk _ _); repeat' (first | exact trivial | exact eqSV_refl _ | refine eqI ?_ | refine eqS ?_ | apply And.intro | exact yV | fail)); all_goals exact fun b x h => by first | exact h | (rw [MkP.atv_add]; exact h)); done) | (refine hI _ ⟨⟨0 + 1, ob, a, cap, n, l⟩, by dsimp only; omega, hn, by dsimp only; rw [hl]; simp [MkP.preA, MkP.opt, *], hq1, hq2⟩ (by dsimp only; omega) (by ((with_reducible show wk _ _); repeat' (first | exact trivial | exact eqSV_refl _ | refine eqI ?_ | refine eqS ?_ | apply And.intro | exact yV | fail)); all_goals first | exact fun b x h => h | exact wkz ⟨rfl, fun b x h => h⟩); done) | trace_state
  · repeat' (first | refine yX ?_ | (apply And.intro <;> intro _) | apply bothI | refine retB fun β => ?_ | intro βe | (refine ⟨_, ?ok, x_indexN (j := 1) (ws := [.str [42], .str MkP.nItalic]) rfl Tryd.underlying84 (fun w => Tryd.sizeOf83 w) (fun w => Tryd.isAgg83 w) (by omega) rfl, ?_⟩; (case ok => exact fun _ _ => ⟨trivial, trivial, trivial⟩)) | refine yO x_nilA ?_ | refine yO (x_field Tryd.underlying43 rfl (fun w => Tryd.sizeOf41 w) (by decide)) ?_ | refine yO (x_indexAny (j := 1) rfl Tryd.underlying41 (fun w => Tryd.sizeOf4 w) (by omega)) ?_ | refine yO (v := .bool o1) (x_load1 (fun w => Tryd.isAgg4 w) (fun w' hb β => c1 w' hb)) ?_ | (refine opx_build1 (sz := 2) rfl rfl rfl (xs := [.string (bstr MkP.nItalic), .string (bstr MkP.vOn)]) (fun β => rfl) rfl (by omega) (by omega) hu hsz hzv (fun g1 => ?_)) | (refine opx_appendZ 0 2 rfl hu hi hz0 hz1 rfl (by omega) rfl rfl rfl rfl (by unfold maxLen; omega) (by rw [hz2]; omega) (by simp [Value.oneCell']) (by omega) rfl (Nat.zero_le _) rfl rfl rfl hpos (fun g2 cap2 => ?_)) | exact trivial)
    all_goals first | (exfalso; omega) | (refine hI _ ⟨⟨1 + 1, true, _, cap2, n + 1, l ++ [(MkP.nItalic, MkP.vOn)]⟩, by dsimp only; omega, by dsimp only; rw [hn, List.length_append]; rfl, by dsimp only; rw [hl]; simp [MkP.preA, MkP.opt, *], fun _ => ⟨g2, rfl⟩, fun h => by cases h⟩ (by dsimp only; omega) (by ((with_reducible show wk _ _); repeat' (first | exact trivial | exact eqSV_refl _ | refine eqI ?_ | refine eqS ?_ | apply And.intro | exact yV | fail)); all_goals exact fun b x h => by first | exact h | (rw [MkP.atv_add]; exact h)); done) | (refine hI _ ⟨⟨1 + 1, ob, a, cap, n, l⟩, by dsimp only; omega, hn, by dsimp only; rw [hl]; simp [MkP.preA, MkP.opt, *], hq1, hq2⟩ (by dsimp only; omega) (by ((with_reducible show wk _ _); repeat' (first | exact trivial | exact eqSV_refl _ | refine eqI ?_ | refine eqS ?_ | apply And.intro | exact yV | fail)); all_goals first | exact fun b x h => h | exact wkz ⟨rfl, fun b x h => h⟩); done) | trace_state
  · repeat' (first | refine yX ?_ | (apply And.intro <;> intro _) | apply bothI | refine retB fun β => ?_ | intro βe | (refine ⟨_, ?ok, x_indexN (j := 2) (ws := [.str [126, 126], .str MkP.nStrike]) rfl Tryd.underlying84 (fun w => Tryd.sizeOf83 w) (fun w => Tryd.isAgg83 w) (by omega) rfl, ?_⟩; (case ok => exact fun _ _ => ⟨trivial, trivial, trivial⟩)) | refine yO x_nilA ?_ | refine yO (x_field Tryd.underlying43 rfl (fun w => Tryd.sizeOf41 w) (by decide)) ?_ | refine yO (x_indexAny (j := 2) rfl Tryd.underlying41 (fun w => Tryd.sizeOf4 w) (by omega)) ?_ | refine yO (v := .bool o2) (x_load1 (fun w => Tryd.isAgg4 w) (fun w' hb β => c2 w' hb)) ?_ | (refine opx_build1 (sz := 2) rfl rfl rfl (xs := [.string (bstr MkP.nStrike), .string (bstr MkP.vOn)]) (fun β => rfl) rfl (by omega) (by omega) hu hsz hzv (fun g1 => ?_)) | (refine opx_appendZ 0 2 rfl hu hi hz0 hz1 rfl (by omega) rfl rfl rfl rfl (by unfold maxLen; omega) (by rw [hz2]; omega) (by simp [Value.oneCell']) (by omega) rfl (Nat.zero_le _) rfl rfl rfl hpos (fun g2 cap2 => ?_)) | exact trivial)
    all_goals first | (exfalso; omega) | (refine hI _ ⟨⟨2 + 1, true, _, cap2, n + 1, l ++ [(MkP.nStrike, MkP.vOn)]⟩, by dsimp only; omega, by dsimp only; rw [hn, List.length_append]; rfl, by dsimp only; rw [hl]; simp [MkP.preA, MkP.opt, *], fun _ => ⟨g2, rfl⟩, fun h => by cases h⟩ (by dsimp only; omega) (by ((with_reducible show wk _ _); repeat' (first | exact trivial | exact eqSV_refl _ | refine eqI ?_ | refine eqS ?_ | apply And.intro | exact yV | fail)); all_goals exact fun b x h => by first | exact h | (rw [MkP.atv_add]; exact h)); done) | (refine hI _ ⟨⟨2 + 1, ob, a, cap, n, l⟩, by dsimp only; omega, hn, by dsimp only; rw [hl]; simp [MkP.preA, MkP.opt, *], hq1, hq2⟩ (by dsimp only; omega) (by ((with_reducible show wk _ _); repeat' (first | exact trivial | exact eqSV_refl _ | refine eqI ?_ | refine eqS ?_ | apply And.intro | exact yV | fail)); all_goals first | exact fun b x h => h | exact wkz ⟨rfl, fun b x h => h⟩); done) | trace_state
  · repeat' (first | refine yX ?_ | (apply And.intro <;> intro _) | apply bothI | refine retB fun β => ?_ | intro βe | (refine ⟨_, ?ok, x_indexN (j := 3) (ws := [.str [96], .str MkP.nFixed]) rfl Tryd.underlying84 (fun w => Tryd.sizeOf83 w) (fun w => Tryd.isAgg83 w) (by omega) rfl, ?_⟩; (case ok => exact fun _ _ => ⟨trivial, trivial, trivial⟩)) | refine yO x_nilA ?_ | refine yO (x_field Tryd.underlying43 rfl (fun w => Tryd.sizeOf41 w) (by decide)) ?_ | refine yO (x_indexAny (j := 3) rfl Tryd.underlying41 (fun w => Tryd.sizeOf4 w) (by omega)) ?_ | refine yO (v := .bool o3) (x_load1 (fun w => Tryd.isAgg4 w) (fun w' hb β => c3 w' hb)) ?_ | (refine opx_build1 (sz := 2) rfl rfl rfl (xs := [.string (bstr MkP.nFixed), .string (bstr MkP.vOn)]) (fun β => rfl) rfl (by omega) (by omega) hu hsz hzv (fun g1 => ?_)) | (refine opx_appendZ 0 2 rfl hu hi hz0 hz1 rfl (by omega) rfl rfl rfl rfl (by unfold maxLen; omega) (by rw [hz2]; omega) (by simp [Value.oneCell']) (by omega) rfl (Nat.zero_le _) rfl rfl rfl hpos (fun g2 cap2 => ?_)) | exact trivial)
    all_goals first | (exfalso; omega) | (refine hI _ ⟨⟨3 + 1, true, _, cap2, n + 1, l ++ [(MkP.nFixed, MkP.vOn)]⟩, by dsimp only; omega, by dsimp only; rw [hn, List.length_append]; rfl, by dsimp only; rw [hl]; simp [MkP.preA, MkP.opt, *], fun _ => ⟨g2, rfl⟩, fun h => by cases h⟩ (by dsimp only; omega) (by ((with_reducible show wk _ _); repeat' (first | exact trivial | exact eqSV_refl _ | refine eqI ?_ | refine eqS ?_ | apply And.intro | exact yV | fail)); all_goals exact fun b x h => by first | exact h | (rw [MkP.atv_add]; exact h)); done) | (refine hI _ ⟨⟨3 + 1, ob, a, cap, n, l⟩, by dsimp only; omega, hn, by dsimp only; rw [hl]; simp [MkP.preA, MkP.opt, *], hq1, hq2⟩ (by dsimp only; omega) (by ((with_reducible show wk _ _); repeat' (first | exact trivial | exact eqSV_refl _ | refine eqI ?_ | refine eqS ?_ | apply And.intro | exact yV | fail)); all_goals first | exact fun b x h => h | exact wkz ⟨rfl, fun b x h => h⟩); done) | trace_state
  · repeat' (first | refine yX ?_ | (apply And.intro <;> intro _) | apply bothI | refine retB fun β => ?_ | intro βe | refine yO x_nilA ?_ | refine yO (x_field Tryd.underlying43 rfl (fun w => Tryd.sizeOf9 w) (by decide)) ?_ | refine yO (v := .str link) (x_load1 (fun w => Tryd.isAgg9 w) (fun w' hb β => c4 w' hb)) ?_ | exact trivial)
    all_goals first | (exfalso; omega) | skip
    have hfin := MkP.sort_ats o0 o1 o2 o3 link
    rw [← hl] at hfin
    refine yJ (T := {t : Bool × Nat × Nat × Nat × List (MkP.Str × MkP.Str) // t.2.2.2.2 = l ++ (if link = [] then [] else [(MkP.nLink, link)]) ∧ t.2.2.2.2.length = t.2.2.2.1 ∧ t.2.2.2.1 ≤ 5 ∧ (t.1 = false → t.2.2.2.1 = 0)}) (fun t => match t.1.1 with
      | true => ⟨[(3, .any (.slice (some ⟨t.1.2.1, 0, none⟩) t.1.2.2.2.1 t.1.2.2.1))], atR t.1.2.1 t.1.2.2.2.1 t.1.2.2.1 t.1.2.2.2.2, 1, 40⟩
      | false => ⟨[(3, .any (.slice none 0 0))], [], 1, 40⟩) [] [] [] [] (fun I2 hI2 => ?_) (fun t => ?_) (fun t => Nat.zero_le _)
    · repeat' (first | refine yX ?_ | (apply And.intro <;> intro _) | apply bothI | refine retB fun β => ?_ | intro βe | refine yO x_nilA ?_ | refine yO (x_field Tryd.underlying43 rfl (fun w => Tryd.sizeOf9 w) (by decide)) ?_ | refine yO (v := .str link) (x_load1 (fun w => Tryd.isAgg9 w) (fun w' hb β => c4 w' hb)) ?_ | (refine opx_build1 (sz := 2) rfl rfl rfl (xs := [.string (bstr MkP.nLink), .string (bstr link)]) (fun β => rfl) rfl (by omega) (by omega) hu hsz hzv (fun g1 => ?_)) | (refine opx_appendZ 0 1 rfl hu hi hz0 hz1 rfl (by omega) rfl rfl rfl rfl (by unfold maxLen; omega) (by rw [hz2]; omega) (by simp [Value.oneCell']) (by omega) rfl (Nat.zero_le _) rfl rfl rfl hpos (fun g2 cap2 => ?_)) | exact trivial)
      · refine hI2 _ ⟨(true, g2, cap2, n + 1, l ++ [(MkP.nLink, link)]), by dsimp only; rw [if_neg (by assumption)], by dsimp only; rw [hn, List.length_append]; rfl, by dsimp only; omega, fun h => by cases h⟩ (by dsimp only; ((with_reducible show wk _ _); repeat' (first | exact trivial | exact eqSV_refl _ | refine eqI ?_ | refine eqS ?_ | apply And.intro | exact yV | fail)); all_goals exact fun b x h => by obtain ⟨g', e, h⟩ := h; cases e; rw [MkP.atv_add]; exact h)
      · have hlk : link = [] := by simp_all
        cases ob
        · obtain ⟨rfl, rfl, rfl⟩ := hq2 rfl
          refine hI2 _ ⟨(false, 0, 0, 0, l), by dsimp only; rw [if_pos hlk, List.append_nil], hn.symm, by dsimp only; omega, fun _ => rfl⟩ (by dsimp only; ((with_reducible show wk _ _); repeat' (first | exact trivial | exact eqSV_refl _ | refine eqI ?_ | refine eqS ?_ | apply And.intro | exact yV | fail)))
        · obtain ⟨g, rfl⟩ := hq1 rfl
          refine hI2 _ ⟨(true, g, cap, n, l), by dsimp only; rw [if_pos hlk, List.append_nil], hn.symm, by dsimp only; omega, fun h => by cases h⟩ (by dsimp only; ((with_reducible show wk _ _); repeat' (first | exact trivial | exact eqSV_refl _ | refine eqI ?_ | refine eqS ?_ | apply And.intro | exact yV | fail)); all_goals exact fun b x h => by obtain ⟨g', e, h⟩ := h; cases e; exact h)
    · obtain ⟨⟨ob2, g, c2, n2, l2⟩, e1, e2, e3, e4⟩ := t
      dsimp only at e1 e2 e3 e4
      rw [← e1, e2] at hfin
      have hlen : (MkP.ats o0 o1 o2 o3 link).length = n2 := by rw [← hfin, MkP.insF_len, e2]
      cases ob2
      · have e5 : n2 = 0 := e4 rfl
        dsimp only
        repeat' (first | refine yX ?_ | (apply And.intro <;> intro _) | apply bothI | refine retB fun β => ?_ | intro βe | refine yK (.tup []) (fun β w hm => sort0_any w) ?_ | exact trivial)
        all_goals first | (exfalso; omega) | skip
        refine ret fun β w' hm => ⟨hm.below, (none, 0), by rw [hlen, e5]; rfl, ?_, fun _ ad h => by cases h⟩
        have : MkP.ats o0 o1 o2 o3 link = [] := List.eq_nil_of_length_eq_zero (by omega)
        rw [this]
        exact sl_nil _ _
      · dsimp only
        repeat' (first | refine yX ?_ | (apply And.intro <;> intro _) | apply bothI | refine retB fun β => ?_ | intro βe | (refine sortX e2 (by omega) rfl ?_) | exact trivial)
        all_goals first | (exfalso; omega) | skip
        refine ret fun β w' hm => ?_
        obtain ⟨r1, -, -, r4⟩ := hm.row 0 _ _ rfl
        rw [hfin] at r1
        exact ⟨hm.below, (some ⟨g, 0, none⟩, c2), by rw [hlen]; rfl, r1.2.slAt r1.1, fun _ ad e => by cases e; rw [← r1.2.1]; exact r4 rfl⟩
end Go.Proofs.YtnbahdnjcdimgaaDoor
namespace Go.Proofs.YtnbahdnjcdimgaaDoor
open Go.RowKit
open Sym
attribute [local irreducible] Calls Sym.AggEq
theorem char_any (c : Nat) (w : World) : Calls Tryd.prog 42 #[.int .i64 (c : Int)] w fun e w' => e = .returned (.bool (VaP.charP c)) ∧ Below w.heap.size w w' := by
  refine enter env_ok Tryd.func42 rfl Tryd.results42 Tryd.ntmps42 [] [] [.int .i64 (c : Int)] (by simp [SV.oks, SV.ok]) (Nat.le_of_ble_eq_true rfl) w _ 1000 ?_
  repeat' (first | ((with_reducible first | show wpS _ _ _ _ | show putD _ _ _ _ | show putW _ _ _ _ | show splitG _ _ _ | show wpQ _ _ _ _ _ _ | show wpD _ _ _ _ _ _ _ | show wpX _ _ _ _ _ _ _ | show expX _ _ _ _ _ _ | show stepX _ _ _ _ | show keepR _ _ _ | show wpY _ _ _ _); conv => whnf) | ((with_reducible show RetN _ _ _); refine retB fun β => ?_) | ((with_reducible show _ ∧ _); first | (apply And.intro; (· intro h; exfalso; first | omega | (revert h; decide)); intro _) | (apply And.intro; rotate_left; (· intro h; exfalso; first | omega | (revert h; decide)); intro _) | (refine ⟨fun _ => ?_, fun _ => ?_⟩) | (apply And.intro; · kernel_rfl) | (apply And.intro; · (show inK _ _; unfold inK; omega)) | (apply And.intro; · (show (_ : Int) ≤ 9223372036854775807; (try simp only [List.length_append, List.length_drop, List.length_take, List.length_cons, List.length_nil]); omega))) | ((with_reducible show AllBe _); refine allBe fun βe => ?_; conv => whnf) | ((with_reducible show bothX _ _); refine bothI ?_ ?_; conv => whnf) | (with_reducible exact trivial) | ((with_reducible show CallN _ _ _ _ _ _ _ _); refine call_of env_ok rfl 1000 ?_) | ((with_reducible show XopN _ _ _ _ _ _); refine xop_of env_ok rfl 1000 ?_) | ((with_reducible show CallX _ _ _ _ _ _); first | fail) | ((with_reducible show OpX _ _ _ _); first | fail) | ((with_reducible show ∃ _ : SV, _); first | fail) | ((with_reducible show ∃ _, _); first | fail))
  all_goals (simp only [SV.den, VaP.charP]; congr 1; rw [Bool.eq_iff_iff]; simp; omega)
theorem pre_any (s p : List UInt8) (w : World) : QC 23 #[.string (bstr s), .string (bstr p)] w (.bool (Lib.hasPrefix s p)) :=
  (Tryd.strings_HasPrefix (bstr s) (bstr p) w).mono fun e w' h => ⟨h.1, h.2 ▸ Below.refl _ _⟩
theorem cutp_any (s p : List UInt8) (w : World) : QC 24 #[.string (bstr s), .string (bstr p)] w (.tuple #[.string (bstr (Lib.trimPrefix s p)), .bool (Lib.hasPrefix s p)]) :=
  (Tryd.strings_CutPrefix (bstr s) (bstr p) w).mono fun e w' h => ⟨h.1, h.2 ▸ Below.refl _ _⟩
theorem triml_any (s : List UInt8) (c : UInt8) (hc : c.toNat < 128) (w : World) : QC 22 #[.string (bstr s), .string (bstr [c])] w (.string (bstr (Lib.trimLeftB s c))) :=
  (Tryd.strings_TrimLeft_one (bstr s) c hc w).mono fun e w' h => ⟨h.1, h.2 ▸ Below.refl _ _⟩
namespace Sym
theorem opx_runeStr {C : Ctx} {d : Nat} {ty : TypeId} {pos : String} {after : Array Edge} {gd : Option (Nat × Bool)} {fr : List (Nat × SV)} {rows : List (Nat × Bool × SRow)} {nx n : Nat} {K : St → Prop} {x : Operand} {t u : TypeId} {q : Int} (c : Nat) (hd : Nat.blt d n = true) (ht : C.P.underlying t = some (.int .i32)) (hu : C.P.underlying u = some .string) (hx : ev fr x = some (.int .i32 q)) (hq : q = (c : Nat)) (hc : c < 128)
    (h : K ⟨(d, .str [UInt8.ofNat c]) :: fr, rows, nx, n⟩) : OpX C ⟨some d, .convert t u x, ty, pos, after, gd⟩ ⟨fr, rows, nx, n⟩ K :=
  opx_val (.str [UInt8.ofNat c]) hd trivial (fun β a w hs => by
    have e := (ev_sound hs hx).1
    have q1 : (underlying t).run C.P w = .ok (.int .i32) w := by simp [underlying, ht]
    have q2 : (underlying u).run C.P w = .ok .string w := by simp [underlying, hu]
    have q3 : Utf8.encode (c : Int) = bstr [UInt8.ofNat c] := by
      unfold Utf8.encode
      have hv : Utf8.valid (c : Int) = true := by unfold Utf8.valid; simp; omega
      simp only [hv, if_true, Int.toNat_natCast]
      rw [if_pos (by omega)]
      rfl
    simp [execOp, convert, e, SV.den, q1, q2, hq, Conv.intToString, q3]) h
end Sym
set_option maxRecDepth 100000 in
set_option maxHeartbeats 4000000 in
theorem marks_any (s : List UInt8) (w : World) (hs : s.length ≤ 100000) : Calls Tryd.prog 11 #[.string (bstr s)] w fun e w' => Below w.heap.size w w' ∧ ∃ t : Option Addr × Nat, e = .returned (.tuple #[.string (bstr (MkP.mk s).1), .slice t.1 (MkP.mk s).2.length t.2]) ∧ SlAt t.1 (MkP.atv (MkP.mk s).2) w' ∧ FreshX t.1 (MkP.atv (MkP.mk s).2) w := by
  obtain ⟨i0, hi, hz0, hz1, hz2⟩ := info_parts attrInfo
  have hu := Tryd.underlying28
  have hsz := fun w => Tryd.sizeOf32 w
  have hzv := fun w => Tryd.zeroValue32 w
  have T1 := fun (w : World) => triml_any s 35 (by decide) w
  have T2 := fun (w : World) => triml_any s 32 (by decide) w
  have l1 := MkP.lead_drop 35 s
  have l2 := MkP.lead_drop 32 s
  have P1 := fun (w : World) => pre_any (s.drop (MkP.leadN 35 s)) [32] w
  have P2 := fun (w : World) => cutp_any (s.drop (MkP.leadN 32 s)) [45, 32] w
  have P3 := fun (w : World) => cutp_any (s.drop (MkP.leadN 32 s)) [49, 46, 32] w
  have g1 : Lib.hasPrefix (s.drop (MkP.leadN 35 s)) [32] = true → MkP.leadN 35 s + 1 ≤ s.length := fun h => by
    have := MkP.pre_len h
    rw [List.length_drop] at this
    simp at this; omega
  have e2 : Lib.hasPrefix (s.drop (MkP.leadN 32 s)) [45, 32] = true → Lib.trimPrefix (s.drop (MkP.leadN 32 s)) [45, 32] = (s.drop (MkP.leadN 32 s)).drop 2 := fun h => by unfold Lib.trimPrefix; rw [if_pos h]; rfl
  have e3 : Lib.hasPrefix (s.drop (MkP.leadN 32 s)) [49, 46, 32] = true → Lib.trimPrefix (s.drop (MkP.leadN 32 s)) [49, 46, 32] = (s.drop (MkP.leadN 32 s)).drop 3 := fun h => by unfold Lib.trimPrefix; rw [if_pos h]; rfl
  unfold MkP.mk
  generalize Lib.trimLeftB s 35 = t1 at *
  generalize Lib.trimLeftB s 32 = t2 at *
  generalize MkP.leadN 35 s = n at *
  generalize MkP.leadN 32 s = m at *
  refine yE Tryd.func11 rfl Tryd.results11 Tryd.ntmps11 [100035, 100058] [] [.str s] w ?_
  repeat' (first | refine yX ?_ | (apply And.intro <;> intro _) | apply bothI | refine retB fun β => ?_ | intro βe | refine yK (.str t1) (fun β w hm => T1 w) ?_ | refine yK (.str t2) (fun β w hm => T2 w) ?_ | (refine ⟨m, by omega, by omega, ?_⟩) | (refine ⟨n, by omega, by omega, ?_⟩) | (refine ⟨n + 1, by omega, g1 (by assumption), ?_⟩) | refine yK (.bool (Lib.hasPrefix (s.drop n) [32])) (fun β w hm => P1 w) ?_ | refine yK (.tup [.str (Lib.trimPrefix (s.drop m) [45, 32]), .bool (Lib.hasPrefix (s.drop m) [45, 32])]) (fun β w hm => P2 w) ?_ | refine yK (.tup [.str (Lib.trimPrefix (s.drop m) [49, 46, 32]), .bool (Lib.hasPrefix (s.drop m) [49, 46, 32])]) (fun β w hm => P3 w) ?_ | refine yO (x_rem (by omega) (by omega)) ?_ | refine yO (x_quo (by omega) (by omega) (by simp only [inK]; omega)) ?_ | (refine opx_runeStr (48 + n) rfl Tryd.underlying21 Tryd.underlying9 rfl (by omega) (by omega) ?_) | (refine opx_runeStr (48 + m / 2) rfl Tryd.underlying21 Tryd.underlying9 rfl (by omega) (by omega) ?_) | (refine opx_build1 (sz := 2) rfl rfl rfl (xs := [.string (bstr MkP.nHead), .string (bstr [UInt8.ofNat (48 + n)])]) (fun β => rfl) rfl (by omega) (by omega) hu hsz hzv (fun g1 => ?_)) | (refine opx_build1 (sz := 2) rfl rfl rfl (xs := [.string (bstr MkP.nLevel), .string (bstr [UInt8.ofNat (48 + m / 2)])]) (fun β => rfl) rfl (by omega) (by omega) hu hsz hzv (fun g1 => ?_)) | (refine opx_build1 (sz := 2) rfl rfl rfl (xs := [.string (bstr MkP.nList), .string (bstr MkP.vBullet)]) (fun β => rfl) rfl (by omega) (by omega) hu hsz hzv (fun g1 => ?_)) | (refine opx_build1 (sz := 2) rfl rfl rfl (xs := [.string (bstr MkP.nList), .string (bstr MkP.vNumber)]) (fun β => rfl) rfl (by omega) (by omega) hu hsz hzv (fun g1 => ?_)) | (refine opx_append (sz := 2) 0 1 rfl hu hi hz0 hz1 rfl (by omega) rfl rfl rfl rfl (by unfold maxLen; omega) (by rw [hz2]; omega) (by simp [Value.oneCell']) (by kernel_rfl) (Nat.zero_le _) (fun g2 cap2 => ?_)) | (refine opx_append0 (sz := 2) 0 rfl hu hi hz0 hz1 rfl (by omega) rfl rfl rfl (by unfold maxLen; omega) (by rw [hz2]; omega) (by simp [Value.oneCell']) (by omega) (fun g2 cap2 => ?_)) | exact trivial)
  all_goals first | (exfalso; omega) | skip
  all_goals refine ret fun β w' hm => ?_
  all_goals first
    | (have hM : MkP.mkG s n m = (s, ([] : List (MkP.Str × MkP.Str))) := (by unfold MkP.mkG MkP.lev; (repeat' split); all_goals first | rfl | (exfalso; omega) | (exfalso; simp_all; done) | (exfalso; simp_all; omega)))
      rw [hM]
      exact ⟨hm.below, (none, 0), rfl, sl_nil _ _, fun h => absurd rfl h⟩
    | (have hM : MkP.mkG s n m = (s.drop (n + 1), [(MkP.nHead, [UInt8.ofNat (48 + n)])]) := (by unfold MkP.mkG MkP.lev; (repeat' split); all_goals first | rfl | (exfalso; omega) | (exfalso; simp_all; done) | (exfalso; simp_all; omega)))
      rw [hM]
      (obtain ⟨r1, -, -, r4⟩ := hm.row 0 _ _ rfl); exact ⟨hm.below, (some ⟨_, 0, none⟩, _), rfl, r1.2.slAt r1.1, fun _ ad e => by cases e; rw [← r1.2.1]; exact r4 rfl⟩
    | (have hM : MkP.mkG s n m = ((s.drop m).drop 2, [(MkP.nLevel, [UInt8.ofNat (48 + m / 2)]), (MkP.nList, MkP.vBullet)]) := (by unfold MkP.mkG MkP.lev; (repeat' split); all_goals first | rfl | (exfalso; omega) | (exfalso; simp_all; done) | (exfalso; simp_all; omega)))
      rw [hM]
      rw [← e2 (by assumption)]
      (obtain ⟨r1, -, -, r4⟩ := hm.row 0 _ _ rfl); exact ⟨hm.below, (some ⟨_, 0, none⟩, _), rfl, r1.2.slAt r1.1, fun _ ad e => by cases e; rw [← r1.2.1]; exact r4 rfl⟩
    | (have hM : MkP.mkG s n m = ((s.drop m).drop 3, [(MkP.nLevel, [UInt8.ofNat (48 + m / 2)]), (MkP.nList, MkP.vNumber)]) := (by unfold MkP.mkG MkP.lev; (repeat' split); all_goals first | rfl | (exfalso; omega) | (exfalso; simp_all; done) | (exfalso; simp_all; omega)))
      rw [hM]
      rw [← e3 (by assumption)]
      (obtain ⟨r1, -, -, r4⟩ := hm.row 0 _ _ rfl); exact ⟨hm.below, (some ⟨_, 0, none⟩, _), rfl, r1.2.slAt r1.1, fun _ ad e => by cases e; rw [← r1.2.1]; exact r4 rfl⟩
    | (have hM : MkP.mkG s n m = ((s.drop m).drop 2, [(MkP.nList, MkP.vBullet)]) := (by unfold MkP.mkG MkP.lev; (repeat' split); all_goals first | rfl | (exfalso; omega) | (exfalso; simp_all; done) | (exfalso; simp_all; omega)))
      rw [hM]
      rw [← e2 (by assumption)]
      (obtain ⟨r1, -, -, r4⟩ := hm.row 1 _ _ rfl); exact ⟨hm.below, (some ⟨_, 0, none⟩, _), rfl, r1.2.slAt r1.1, fun _ ad e => by cases e; rw [← r1.2.1]; exact r4 rfl⟩
    | (have hM : MkP.mkG s n m = ((s.drop m).drop 3, [(MkP.nList, MkP.vNumber)]) := (by unfold MkP.mkG MkP.lev; (repeat' split); all_goals first | rfl | (exfalso; omega) | (exfalso; simp_all; done) | (exfalso; simp_all; omega)))
      rw [hM]
      rw [← e3 (by assumption)]
      (obtain ⟨r1, -, -, r4⟩ := hm.row 1 _ _ rfl); exact ⟨hm.below, (some ⟨_, 0, none⟩, _), rfl, r1.2.slAt r1.1, fun _ ad e => by cases e; rw [← r1.2.1]; exact r4 rfl⟩
    | trace_state
end Go.Proofs.YtnbahdnjcdimgaaDoor
