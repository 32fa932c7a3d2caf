/- The walks of the reference's bitsOf and numberOf. -/
import Derived.Test.YtefklhjjhcobmaaDoorSqW6
import Derived.Test.YtefklhjjhcobmaaDoorSqPlain2
namespace Go.Proofs.YtefklhjjhcobmaaDoor
open Go.RowKit
theorem getD_data' (s : ByteArray) (i : Nat) (h : i < s.size) : s.data.toList.getD i 0 = s[i] := by
  rw [List.getD_eq_getElem?_getD, List.getElem?_eq_getElem (by simpa using h)]; rfl
set_option maxRecDepth 100000 in
set_option maxHeartbeats 1000000 in
theorem bitsOf_any (s : ByteArray) (w : World) (hs : s.size ≤ 1000000000) :
    Calls Tryd.prog 22 #[.string s] w fun e w' => ∃ v, e = .returned v ∧ w'.ownsRow w.heap.size 3 1 v (8 * s.size) (vals (SqP.bitsTo s.data.toList (8 * s.size))) ∧ Below w.heap.size w w' := by
  obtain ⟨i0, hi, hz0, hz1, hz2⟩ := info_parts intInfo
  go_enter Tryd.func22, Tryd.ntmps22
  go_wp2
  go_loopw [3, 8] (fun v c wr => ∃ i : Nat, i ≤ s.size ∧ c = .int .i64 i ∧ wr.ownsRow w.heap.size 3 1 v (8 * i) (vals (SqP.bitsTo s.data.toList (8 * i))) ∧ Below w.heap.size w wr) (fun _ c _ => s.size - (intOf c).toNat)
  case atStart => exact ⟨0, by omega, rfl, owns_nil _ _ _ _, Below.refl _ _⟩
  case round =>
    obtain ⟨i, hi2, rfl, hown, hbel⟩ := hrel
    by_cases hlt : i < s.size
    · have hd : decide ((i : Int) < (s.size : Int)) = true := by simp; omega
      have HOWN := Bx.mk hown; clear hown
      go_wp2
      go_loopw [3, 5] (fun v c wr => ∃ m : Nat, m ≤ 8 ∧ c = .int .i64 (7 - (m : Int)) ∧ wr.ownsRow w.heap.size 3 1 v (8 * i + m) (vals (SqP.bitsTo s.data.toList (8 * i + m))) ∧ Below w.heap.size w wr) (fun _ c _ => (intOf c + 1).toNat)
      case atStart => exact ⟨0, by omega, rfl, HOWN.out, hbel⟩
      case round =>
        clear HOWN hbel
        obtain ⟨m, hm, rfl, hown, hbel⟩ := hrel
        have hob := owns_below hown
        have HOB := Bx.mk hob; clear hob
        obtain ⟨la, lcap, hv⟩ := owns_slice hown
        rw [hv] at hown HOB ⊢
        clear hv
        have HOWN := Bx.mk hown; clear hown
        have HBEL := Bx.mk hbel; clear hbel
        by_cases hm8 : m < 8
        · obtain ⟨q, hq⟩ : ∃ q : Nat, (7 : Int) - (m : Int) = (q : Int) := ⟨7 - m, by omega⟩
          have hq7 : q ≤ 7 := by omega
          have hby := s[i].toNat_lt
          have hand := Bi.shr_and1 s[i].toNat q (by omega)
          have hbit : SqP.bitAt s.data.toList (8 * i + m) = s[i].toNat / 2 ^ q % 2 := by
            rw [SqP.bitAt_at _ _ _ hm8, getD_data' s i hlt, show 7 - m = q from by omega]
          rw [← hbit] at hand
          have HSU := Bx.mk (SqP.bitsTo_succ s.data.toList (8 * i + m))
          clear hbit
          generalize SqP.bitAt s.data.toList (8 * i + m) = y at *
          go_wp2_with (at_builtin; (refine wpList_append_own _ rfl _ _ 30 rfl w.heap.size 3 i0 (.int .i64 0) 1 8 Tryd.underlying30 hi hz0 hz1 hz2 rfl (by decide) _ _ _ rfl (HOWN.out.alloc _) ⟨wr.heap.size, 0, none⟩ 1 1 [.int .i64 (y : Int)] rfl rfl (cell1 _ _ _) ?c2 ?c3 ?c4 ?c5 ?_))
          case c2 => simp [Value.oneCell']
          case c3 => unfold maxLen; omega
          case c4 => omega
          case c5 => have := HBEL.out.size; simp; omega
          intro v' w2 hown' hgrow _
          have HO := Bx.mk hown'; clear hown'
          have HG := Bx.mk hgrow; clear hgrow
          obtain ⟨va, vc, hv⟩ := owns_slice HO.out
          rw [hv] at HO ⊢
          clear hv
          go_wp2
          go_roundw
          case rel =>
            refine ⟨m + 1, by omega, by go_num, ?_, (HBEL.out.alloc HBEL.out.size _).grown HG.out (by have := HBEL.out.size; simp; omega) HOB.out⟩
            rw [← Nat.add_assoc, HSU.out, show vals (SqP.bitsTo s.data.toList (8 * i + m) ++ [y]) = vals (SqP.bitsTo s.data.toList (8 * i + m)) ++ [.int .i64 (y : Int)] from by simp [vals]]
            exact HO.out
          case measure => simp [intOf]; omega
        · obtain rfl : m = 8 := by omega
          go_wp2
          go_roundw
          case rel => exact ⟨i + 1, by omega, by go_num, by rw [show 8 * (i + 1) = 8 * i + 8 from by omega]; exact HOWN.out, HBEL.out⟩
          case measure => simp [intOf]; omega
    · have hd : decide ((i : Int) < (s.size : Int)) = false := by simp; omega
      have hii : i = s.size := by omega
      have HOWN := Bx.mk hown; clear hown
      have HBEL := Bx.mk hbel; clear hbel
      have HII := Bx.mk hii; clear hii
      go_wp2
      go_ret
      refine ⟨_, rfl, ?_, HBEL.out⟩
      have h := HOWN.out
      rw [HII.out] at h
      exact h
end Go.Proofs.YtefklhjjhcobmaaDoor
