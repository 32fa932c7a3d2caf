/- The walk of the reader's number. -/
import Derived.Test.YtefklhjjhcobmaaDoorSqW1
namespace Go.Proofs.YtefklhjjhcobmaaDoor
open Go.RowKit
abbrev rdr (s : ByteArray) (i : Nat) : Array Value := #[.string s, .int .i64 (i : Int)]
theorem bit_some (s : ByteArray) (i b : Nat) (w : World) (hs : s.size ≤ 1000000000) (hi : i < 8 * s.size) (hr : Row w b 49 (rdr s i)) :
    Calls Tryd.prog 31 #[.pointer (some ⟨b, 0, none⟩)] w fun e w' => e = .returned (.int .i64 (SqP.bitAt s.data.toList i : Int)) ∧ Row w' b 49 (rdr s (i + 1)) ∧ Keep (· = b) w w' := by
  refine (bit_any s i b w hs hi hr).mono ?_
  rintro e w' ⟨rfl, n, rfl⟩
  exact ⟨rfl, ((hr.set 1 _).drewN n).same (by simp [rdr]), ((Keep.refl (· = b) w).setCell (p := ⟨b, 1, none⟩) (fun _ => rfl) _).drewN n⟩
def NumPost (s : ByteArray) (i k b : Nat) (w : World) (e : Ending) (w' : World) : Prop :=
  Keep (· = b) w w' ∧ if i + k ≤ 8 * s.size then e = .returned (.int .i64 (SqP.numAt s.data.toList i k : Int)) ∧ Row w' b 49 (rdr s (i + k))
    else e = .returned (.int .i64 (-1)) ∧ Row w' b 49 (rdr s (8 * s.size))
set_option maxRecDepth 100000 in
set_option maxHeartbeats 400000 in
theorem number_any (s : ByteArray) (i k b : Nat) (w : World) (hs : s.size ≤ 1000000000) (hi : i ≤ 8 * s.size) (hk : k ≤ 15) (hr : Row w b 49 (rdr s i)) :
    Calls Tryd.prog 30 #[.pointer (some ⟨b, 0, none⟩), .int .i64 (k : Int)] w (NumPost s i k b w) := by
  have HR := Bx.mk hr; clear hr
  go_enter Tryd.func30, Tryd.ntmps30
  go_wp2
  go_loopw [5, 8] (fun n c wr => ∃ j : Nat, j ≤ k ∧ i + j ≤ 8 * s.size ∧ c = .int .i64 j ∧ n = .int .i64 (SqP.numAt s.data.toList i j) ∧ Row wr b 49 (rdr s (i + j)) ∧ Keep (· = b) w wr) (fun _ c _ => k - (intOf c).toNat)
  case atStart => exact ⟨0, by omega, by omega, rfl, rfl, HR.out, Keep.refl _ _⟩
  case round =>
    clear HR
    obtain ⟨j, hj, hij, rfl, rfl, hr, hkp⟩ := hrel
    have HR := Bx.mk hr; clear hr
    have HK := Bx.mk hkp; clear hkp
    have hn := SqP.numAt_bd s.data.toList i j (by omega)
    by_cases hlt : j < k
    · by_cases hend : i + j = 8 * s.size
      · have HE := Bx.mk hend; clear hend
        go_wp2_with fail
        refine (bit_end s b _ hs (by have := HR.out; rw [HE.out] at this; exact this)).mono ?_
        rintro e w' ⟨rfl, n, rfl⟩
        go_wp2
        go_ret
        refine ⟨HK.out.drewN n, ?_⟩
        have := HE.out
        rw [if_neg (by omega)]
        refine ⟨rfl, ?_⟩
        have := HR.out.drewN n
        rw [HE.out] at this; exact this
      · have hb := SqP.bitAt_lt s.data.toList (i + j)
        have HN := Bx.mk (show SqP.numAt s.data.toList i (j + 1) = 2 * SqP.numAt s.data.toList i j + SqP.bitAt s.data.toList (i + j) from rfl)
        go_wp2_with fail
        refine (bit_any s (i + j) b _ hs (by omega) HR.out).mono ?_
        rintro e w' ⟨rfl, n, rfl⟩
        go_wp2
        go_roundw
        case rel =>
          refine ⟨j + 1, by omega, by omega, by go_num, by rw [HN.out]; go_num, ?_, (HK.out.setCell (fun _ => rfl) _).drewN n⟩
          refine (HR.out.set 1 _).drewN n |>.same ?_
          simp [rdr]; omega
        case measure => simp [intOf]; omega
    · have hjk : j = k := by omega
      have HJ := Bx.mk hjk; clear hjk
      go_wp2
      go_ret
      refine ⟨HK.out, ?_⟩
      rw [← HJ.out, if_pos hij]
      exact ⟨rfl, HR.out⟩
end Go.Proofs.YtefklhjjhcobmaaDoor
