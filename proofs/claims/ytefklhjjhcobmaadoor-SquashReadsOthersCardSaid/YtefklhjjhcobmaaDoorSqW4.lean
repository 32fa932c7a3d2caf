/- The walk of newDecoder. -/
import Derived.Test.YtefklhjjhcobmaaDoorSqW3
namespace Go.Proofs.YtefklhjjhcobmaaDoor
open Go.RowKit
def dec (fi fr : Nat → Nat) (lv : Value) : Array Value := ((List.range 33).map fun j => if j < 16 then Value.int .i64 (fi j : Int) else if j < 32 then Value.int .i64 (fr (j - 16) : Int) else lv).toArray
theorem dec_first (fi fr : Nat → Nat) (lv : Value) (j : Nat) (h : j < 16) : (dec fi fr lv)[j]? = some (.int .i64 (fi j : Int)) := by
  have e3 : j < 33 := by omega
  simp [dec, h, e3]
theorem dec_from (fi fr : Nat → Nat) (lv : Value) (j : Nat) (h : j < 16) : (dec fi fr lv)[16 + j]? = some (.int .i64 (fr j : Int)) := by
  have e : ¬ 16 + j < 16 := by omega
  have e2 : 16 + j < 32 := by omega
  have e3 : 16 + j < 33 := by omega
  simp [dec, e, e2, e3]
theorem dec_list (fi fr : Nat → Nat) (lv : Value) : (dec fi fr lv)[32]? = some lv := by simp [dec]
theorem dec_get (fi fr : Nat → Nat) (lv : Value) (i : Nat) : (dec fi fr lv)[i]? = if i < 33 then some (if i < 16 then Value.int .i64 (fi i : Int) else if i < 32 then Value.int .i64 (fr (i - 16) : Int) else lv) else none := by
  by_cases h : i < 33 <;> simp [dec, h]
theorem dec_set_first (fi fr : Nat → Nat) (lv : Value) (j v : Nat) (hj : j < 16) : (dec fi fr lv).setIfInBounds j (.int .i64 (v : Int)) = dec (fun i => if i = j then v else fi i) fr lv := by
  apply Array.ext_getElem?
  intro i
  have hs : (dec fi fr lv).size = 33 := by simp [dec]
  rw [Array.getElem?_setIfInBounds, dec_get, dec_get, hs]
  by_cases e : j = i
  · subst e; rw [if_pos rfl, if_pos (by omega), if_pos (by omega), if_pos hj, if_pos rfl]
  · rw [if_neg e]
    by_cases h : i < 33
    · rw [if_pos h, if_pos h]; by_cases h2 : i < 16
      · rw [if_pos h2, if_pos h2, if_neg (fun x => e x.symm)]
      · rw [if_neg h2, if_neg h2]
    · rw [if_neg h, if_neg h]
theorem dec_set_from (fi fr : Nat → Nat) (lv : Value) (j v : Nat) (hj : j < 16) : (dec fi fr lv).setIfInBounds (16 + j) (.int .i64 (v : Int)) = dec fi (fun i => if i = j then v else fr i) lv := by
  apply Array.ext_getElem?
  intro i
  have hs : (dec fi fr lv).size = 33 := by simp [dec]
  rw [Array.getElem?_setIfInBounds, dec_get, dec_get, hs]
  by_cases e : 16 + j = i
  · subst e; rw [if_pos rfl, if_pos (by omega), if_pos (by omega), if_neg (by omega), if_pos (by omega), if_pos (by omega)]
  · rw [if_neg e]
    by_cases h : i < 33
    · rw [if_pos h, if_pos h]; by_cases h2 : i < 16
      · rw [if_pos h2, if_pos h2]
      · rw [if_neg h2, if_neg h2]
        by_cases h3 : i < 32
        · rw [if_pos h3, if_pos h3, if_neg (by omega)]
        · rw [if_neg h3, if_neg h3]
    · rw [if_neg h, if_neg h]
theorem dec_set_list (fi fr : Nat → Nat) (lv lv' : Value) : (dec fi fr lv).setIfInBounds 32 lv' = dec fi fr lv' := by
  apply Array.ext_getElem?
  intro i
  have hs : (dec fi fr lv).size = 33 := by simp [dec]
  rw [Array.getElem?_setIfInBounds, dec_get, dec_get, hs]
  by_cases e : 32 = i
  · subst e; simp
  · rw [if_neg e]
    by_cases h : i < 33
    · rw [if_pos h, if_pos h]; by_cases h2 : i < 16
      · rw [if_pos h2, if_pos h2]
      · rw [if_neg h2, if_neg h2]
        by_cases h3 : i < 32
        · rw [if_pos h3, if_pos h3]
        · omega
    · rw [if_neg h, if_neg h]
theorem dec_zero (w : World) : (zeroValue 72).run Tryd.prog w = .ok (.agg (dec (fun _ => 0) (fun _ => 0) (.slice none 0 0))) w := by kernel_rfl
def ints (L : List Nat) : Array Value := (L.map fun n => Value.int .i64 ((n : Nat) : Int)).toArray
theorem ints_get (L : List Nat) (i : Nat) (h : i < L.length) : (ints L)[i]? = some (.int .i64 ((L.getD i 0 : Nat) : Int)) := by simp [ints, h]
def fiOf (L : List Nat) (n j : Nat) : Nat := if 1 ≤ j ∧ j < n then 2 * SqP.ca L (j - 1) else 0
def frOf (L : List Nat) (n j : Nat) : Nat := if 1 ≤ j ∧ j < n then (SqP.all L (j - 1)).length else 0
theorem fiOf_set (L : List Nat) (n i : Nat) (h : 1 ≤ n) : (if i = n then 2 * SqP.ca L (n - 1) else fiOf L n i) = fiOf L (n + 1) i := by
  unfold fiOf
  by_cases e : i = n
  · subst e; rw [if_pos rfl, if_pos (by omega)]
  · rw [if_neg e]
    by_cases h2 : 1 ≤ i ∧ i < n
    · rw [if_pos h2, if_pos (by omega)]
    · rw [if_neg h2, if_neg (by omega)]
theorem frOf_set (L : List Nat) (n i : Nat) (h : 1 ≤ n) : (if i = n then (SqP.all L (n - 1)).length else frOf L n i) = frOf L (n + 1) i := by
  unfold frOf
  by_cases e : i = n
  · subst e; rw [if_pos rfl, if_pos (by omega)]
  · rw [if_neg e]
    by_cases h2 : 1 ≤ i ∧ i < n
    · rw [if_pos h2, if_pos (by omega)]
    · rw [if_neg h2, if_neg (by omega)]
theorem fiOf_one (L : List Nat) : (fun _ => 0) = fiOf L 1 := by
  funext j; unfold fiOf; rw [if_neg (by omega)]
theorem frOf_one (L : List Nat) : (fun _ => 0) = frOf L 1 := by
  funext j; unfold frOf; rw [if_neg (by omega)]
def vals (l : List Nat) : List Value := l.map fun n => Value.int .i64 ((n : Nat) : Int)
/-- what the decoder holds ahead of length n -/
structure DecAt (L : List Nat) (w : World) (d n : Nat) (l : List Nat) (wr : World) : Prop where
  row : ∃ lv, Row wr d 72 (dec (fiOf L n) (frOf L n) lv) ∧ wr.ownsRow (d + 1) 3 1 lv l.length (vals l)
  below : Below d w wr
theorem pre_zero (L : List Nat) (n : Nat) : SqP.pre L n 0 = [] := rfl
theorem DecAt.head {L : List Nat} {w wr : World} {d n c2 : Nat} {lv : Value} (hn : 1 ≤ n) (hn2 : n ≤ 15) (hc : c2 = 2 * SqP.ca L (n - 1)) (hb : Below d w wr)
    (hrow : Row wr d 72 (dec (fiOf L n) (frOf L n) lv)) (hown : wr.ownsRow (d + 1) 3 1 lv (SqP.all L (n - 1)).length (vals (SqP.all L (n - 1)))) :
    DecAt L w d (n + 1) (SqP.all L (n - 1) ++ SqP.pre L n 0) ((wr.setCell ⟨d, n, none⟩ (.int .i64 (c2 : Int))).setCell ⟨d, 16 + n, none⟩ (.int .i64 ((SqP.all L (n - 1)).length : Int))).drew := by
  rw [pre_zero, List.append_nil]
  refine ⟨⟨lv, ?_, ?_⟩, ((hb.setCell (Nat.le_refl _) _).setCell (Nat.le_refl _) _).drew⟩
  · refine ((hrow.set n _).set (16 + n) _).drew.same ?_
    rw [dec_set_first _ _ _ _ _ (by omega), dec_set_from _ _ _ _ _ (by omega)]
    congr 1
    · funext i; rw [hc]; exact fiOf_set L n i hn
    · funext i; exact frOf_set L n i hn
  · exact ownsRow_setCell_below (ownsRow_setCell_below hown (by simp) _) (by simp) _
theorem vals_append (a b : List Nat) : vals (a ++ b) = vals a ++ vals b := by simp [vals]
/-- the list grown by one, stored back -/
theorem DecAt.app {L : List Nat} {w wr w1 : World} {d n s : Nat} {l : List Nat} {lv lv' : Value} (hb : Below d w wr)
    (hrow : Row wr d 72 (dec (fiOf L n) (frOf L n) lv)) (hd : d < wr.heap.size) (hown : w1.ownsRow (d + 1) 3 1 lv' (l.length + 1) (vals l ++ [.int .i64 (s : Int)]))
    (hlv : ∀ k, lv.ownBlock = some k → d + 1 ≤ k) (o : Obj) (hg : (wr.alloc o).grownBy w1 lv.ownBlock) :
    DecAt L w d n (l ++ [s]) (w1.setCell ⟨d, 32, none⟩ lv') := by
  have hk : ∀ k, k < d + 1 → w1.heap[k]? = wr.heap[k]? := fun k hk => by
    rw [hg.block k (by simp; omega) (fun e => by have := hlv k e.symm; omega)]
    exact Below.heap_alloc _ _ _ (by omega)
  have hrow1 : Row w1 d 72 (dec (fiOf L n) (frOf L n) lv) := by unfold Row; rw [hk d (by omega)]; exact hrow
  refine ⟨⟨lv', ?_, ?_⟩, ?_⟩
  · refine (hrow1.set 32 _).same ?_
    rw [dec_set_list]
  · rw [vals_append]
    refine ownsRow_setCell_below ?_ (by simp) _
    simpa [vals] using hown
  · refine Below.setCell (p := ⟨d, 32, none⟩) ?_ (Nat.le_refl _) _
    refine (hb.alloc (by omega) o).grown hg (by simp; omega) (fun k e => by have := hlv k e; omega)
theorem owns_block {w : World} {base : Nat} {e : TypeId} {size n : Nat} {v : Value} {xs : List Value} (h : w.ownsRow base e size v n xs) : ∀ k, v.ownBlock = some k → base ≤ k := by
  intro k hk
  rcases h.2 with ⟨h1, _⟩ | ⟨g, cap, cur, h1, hb, _⟩
  · subst h1; cases hk
  · subst h1; cases hk; exact hb
theorem intInfo : (Tryd.prog.info? 3).map (fun i => (i.zero, i.size, i.bytes)) = some (some (.int .i64 0), 1, 8) := by kernel_rfl
set_option maxRecDepth 100000 in
set_option maxHeartbeats 1000000 in
theorem newDecoder_any (L : List Nat) (lb : Nat) (w : World) (hL : L.length = 272) (hr : Row w lb 3 (ints L)) :
    Calls Tryd.prog 20 #[.slice (some ⟨lb, 0, none⟩) 272 272] w fun e w' => e = .returned (.pointer (some ⟨w.heap.size, 0, none⟩)) ∧ DecAt L w w.heap.size 16 (SqP.all L 15) w' := by
  have HR := Bx.mk hr; clear hr
  have hz := dec_zero
  obtain ⟨i0, hi, hz0, hz1, hz2⟩ := info_parts intInfo
  go_enter Tryd.func20, Tryd.ntmps20
  go_wp2
  go_loopw [4, 5] (fun c n wr => ∃ k : Nat, 1 ≤ k ∧ k ≤ 16 ∧ n = .int .i64 k ∧ c = .int .i64 (SqP.ca L (k - 1) : Int) ∧ DecAt L w w.heap.size k (SqP.all L (k - 1)) wr) (fun _ n _ => 16 - (intOf n).toNat)
  case atStart =>
    refine ⟨1, by omega, by omega, rfl, rfl, ⟨?_, (Below.refl _ _).alloc (Nat.le_refl _) _⟩⟩
    refine ⟨.slice none 0 0, ?_, ?_⟩
    · refine (Row.new _ _ _).same ?_
      rw [← fiOf_one, ← frOf_one]
    · exact owns_nil _ _ _ _
  case round =>
    obtain ⟨n, hn1, hn16, rfl, rfl, hd⟩ := hrel
    by_cases hlt : n ≤ 15
    · obtain ⟨⟨lv, hrow, hown⟩, hbel⟩ := hd
      have hc32 : wr.cell? ⟨w.heap.size, 32, none⟩ = some lv := (hrow.cell 32).trans (dec_list _ _ _)
      have hcn : wr.cell? ⟨w.heap.size, n, none⟩ = some (.int .i64 (fiOf L n n : Int)) := (hrow.cell n).trans (dec_first _ _ _ _ (by omega))
      have hcf : wr.cell? ⟨w.heap.size, 16 + n, none⟩ = some (.int .i64 (frOf L n n : Int)) := (hrow.cell (16 + n)).trans (dec_from _ _ _ _ (by omega))
      have hfz := hrow.frozen
      have hca := SqP.ca_bd L hL (n - 1) (by omega)
      have hd15 : decide ((n : Int) ≤ 15) = true := by simp; omega
      obtain ⟨c2, ec2⟩ : ∃ c2 : Nat, (SqP.ca L (n - 1) : Int) * 2 = (c2 : Int) := ⟨2 * SqP.ca L (n - 1), by omega⟩
      have hc2 : c2 = 2 * SqP.ca L (n - 1) := by omega
      have hc2l : c2 ≤ 17825792 := by omega
      have HC2 := Bx.mk hc2; clear hc2
      obtain ⟨la, lcap, rfl⟩ := owns_slice hown
      have HOWN := Bx.mk hown; clear hown
      have HROW := Bx.mk hrow; clear hrow
      go_wp2
      go_region
      go_wp2
      go_loopw [4, 34] (fun c i wr => ∃ k : Nat, k ≤ 272 ∧ i = .int .i64 k ∧ c = .int .i64 ((c2 + (SqP.pre L n k).length : Nat) : Int) ∧ DecAt L w w.heap.size (n + 1) (SqP.all L (n - 1) ++ SqP.pre L n k) wr) (fun _ i _ => 272 - (intOf i).toNat)
      case atStart =>
        refine ⟨0, by omega, rfl, rfl, ?_⟩
        exact DecAt.head hn1 hlt HC2.out hbel HROW.out HOWN.out
      case round =>
        clear hc32 hcn hcf hfz HROW HOWN hbel
        obtain ⟨k, hk, rfl, rfl, hd⟩ := hrel
        obtain ⟨⟨lv, hrow, hown⟩, hbel⟩ := hd
        have hpl := SqP.pre_len L n k
        have hal := SqP.all_bd L hL (n - 1) (by omega)
        have hdlt := hrow.lt
        have hc32 : wr.cell? ⟨w.heap.size, 32, none⟩ = some lv := (hrow.cell 32).trans (dec_list _ _ _)
        have hf32 := hrow.frozen 32
        have hob := owns_block hown
        have hll : (SqP.all L (n - 1) ++ SqP.pre L n k).length ≤ 4352 := by rw [List.length_append]; omega
        obtain ⟨l, hl⟩ : ∃ l, SqP.all L (n - 1) ++ SqP.pre L n k = l := ⟨_, rfl⟩
        rw [hl] at hown hll
        have HLL := Bx.mk hl; clear hl
        obtain ⟨la, lcap, rfl⟩ := owns_slice hown
        have HOWN := Bx.mk hown; clear hown
        have HROW := Bx.mk hrow; clear hrow
        by_cases hk2 : k < 272
        · have hrl : Row wr lb 3 (ints L) := HR.out.below hbel HR.out.lt
          have hcl : wr.cell? ⟨lb, k, none⟩ = some (.int .i64 ((L.getD k 0 : Nat) : Int)) := (hrl.cell k).trans (ints_get _ _ (by omega))
          clear hrl
          by_cases he : L.getD k 0 = n
          · have HP := Bx.mk (SqP.pre_yes L n k he)
            have heq : (((L.getD k 0 : Nat) : Int) == (n : Int)) = true := by rw [he]; exact beq_self_eq_true _
            generalize L.getD k 0 = x at *
            have HX := Bx.mk he; clear he
            go_wp2_with (at_builtin; (refine wpList_append_own _ rfl _ _ 30 rfl (w.heap.size + 1) 3 i0 (.int .i64 0) 1 8 Tryd.underlying30 hi hz0 hz1 hz2 rfl (by decide) _ _ _ rfl (HOWN.out.alloc _) ⟨wr.heap.size, 0, none⟩ 1 1 [.int .i64 (k : Int)] rfl rfl (cell1 _ _ _) ?c2 ?c3 ?c4 ?c5 ?_))
            case c2 => simp [Value.oneCell']
            case c3 => unfold maxLen; omega
            case c4 => omega
            case c5 => simp; omega
            intro v' w1 hown' hgrow _
            have hg0 := hgrow
            have hne : (Value.slice la l.length lcap).ownBlock ≠ some w.heap.size := fun e => by have := hob _ e; omega
            have hcc := grown_cell hgrow hdlt hne 32
            have hff := (grown_frozen hgrow hdlt hne 32).trans hf32
            rw [hc32] at hcc
            obtain ⟨va, vc, hv⟩ := owns_slice hown'
            rw [hv] at hown' ⊢
            have HO := Bx.mk hown'; clear hown'
            have HG := Bx.mk hg0; clear hg0 hgrow hv
            go_wp2
            go_roundw
            case rel =>
              refine ⟨k + 1, by omega, by go_num, ?_, ?_⟩
              · rw [HP.out, List.length_append]; go_num
              · rw [HP.out, ← List.append_assoc, HLL.out]
                exact DecAt.app hbel HROW.out hdlt HO.out hob _ HG.out
            case measure => simp [intOf]; omega
          · have HP := Bx.mk (SqP.pre_no L n k he)
            have heq : (((L.getD k 0 : Nat) : Int) == (n : Int)) = false := by rw [beq_eq_false_iff_ne]; omega
            generalize L.getD k 0 = x at *
            clear he
            go_wp2
            go_roundw
            case rel =>
              refine ⟨k + 1, by omega, by go_num, by rw [HP.out], ?_⟩
              rw [HP.out]
              rw [HLL.out]; exact ⟨⟨_, HROW.out, HOWN.out⟩, hbel⟩
            case measure => simp [intOf]; omega
        · obtain rfl : k = 272 := by omega
          have hd2 : decide ((272 : Int) < 272) = false := by decide
          go_wp2
          go_roundw
          case rel =>
            have e := HC2.out
            have e2 : n - 1 + 1 = n := by omega
            have hall : SqP.all L n = SqP.all L (n - 1) ++ SqP.pre L n 272 := by
              conv => lhs; rw [← e2]
              simp only [SqP.all, SqP.syms]; rw [e2, hL]
            have hcan : SqP.ca L n = c2 + (SqP.pre L n 272).length := by
              conv => lhs; rw [← e2]
              simp only [SqP.ca, SqP.cnt, SqP.syms]; rw [e2, hL, e]
            refine ⟨n + 1, by omega, by omega, by go_num, ?_, ?_⟩
            · rw [Nat.add_sub_cancel, hcan]
            · rw [Nat.add_sub_cancel, hall, HLL.out]
              exact ⟨⟨_, HROW.out, HOWN.out⟩, hbel⟩
          case measure => simp [intOf]; omega
    · obtain rfl : n = 16 := by omega
      have hd2 : decide ((16 : Int) ≤ 15) = false := by decide
      go_wp2
      go_ret
      exact ⟨rfl, hd⟩
end Go.Proofs.YtefklhjjhcobmaaDoor
