/- References: the reference's readSide: its closure, and its end. -/
import Derived.Test.YtmodjglbjempkaaGreatDoorHRfW12
import Derived.Deep.LoopGhost
set_option linter.unusedSimpArgs false
set_option linter.unusedVariables false
namespace Go.Proofs.YtmodjglbjempkaaGreatDoor
open Go.RowKit
theorem dol1_pred : PredC 95 RfP.isDol := fun c w => by
  have H := Bx.mk (show RfP.isDol c = decide ((c.toNat : Int) = 36) by
    unfold RfP.isDol
    rw [Bool.eq_iff_iff]; simp
    constructor
    · intro e; rw [e]; rfl
    · intro e; exact UInt8.toNat_inj.1 (by rw [show (36 : UInt8).toNat = 36 from rfl]; omega))
  go_enter Tryz.func95, Tryz.ntmps95
  go_wp2
  go_ret
  exact ⟨ret_bool (by rw [H.out]; rfl), rfl⟩
theorem dol2_pred : PredC 96 RfP.isDol := fun c w => by
  have H := Bx.mk (show RfP.isDol c = decide ((c.toNat : Int) = 36) by
    unfold RfP.isDol
    rw [Bool.eq_iff_iff]; simp
    constructor
    · intro e; rw [e]; rfl
    · intro e; exact UInt8.toNat_inj.1 (by rw [show (36 : UInt8).toNat = 36 from rfl]; omega))
  go_enter Tryz.func96, Tryz.ntmps96
  go_wp2
  go_ret
  exact ⟨ret_bool (by rw [H.out]; rfl), rfl⟩
theorem letter_pred : PredC 67 RfP.isLetter := fun c w => rletter_any c w
theorem digit_pred : PredC 69 RfP.isDigit := fun c w => rdigit_any c w
theorem ef_dol1 : ∀ args w, (callFunc 95 args).run Tryz.prog w = .ok (.enter 95 args) w := Go.Proofs.enters_of Tryz.func95 (by kernel_rfl) rfl
theorem ef_dol2 : ∀ args w, (callFunc 96 args).run Tryz.prog w = .ok (.enter 96 args) w := Go.Proofs.enters_of Tryz.func96 (by kernel_rfl) rfl
theorem ef_letter : ∀ args w, (callFunc 67 args).run Tryz.prog w = .ok (.enter 67 args) w := Go.Proofs.enters_of Tryz.func67 (by kernel_rfl) rfl
theorem ef_digit : ∀ args w, (callFunc 69 args).run Tryz.prog w = .ok (.enter 69 args) w := Go.Proofs.enters_of Tryz.func69 (by kernel_rfl) rfl
theorem td_next (s : List UInt8) (i j : Nat) (hij : i ≤ j) (hj : j < s.length) : (s.take (j + 1)).drop i = (s.take j).drop i ++ [s.getD j 0] := by
  rw [take_next0 s j hj, List.drop_append_of_le_length (by rw [List.length_take]; omega)]
theorem tw_end (p : UInt8 → Bool) (s : List UInt8) (i j : Nat) (h1 : ∀ c ∈ (s.take j).drop i, p c = true) (h2 : j < s.length → p (s.getD j 0) = false) (hij : i ≤ j) : (s.drop i).takeWhile p = (s.take j).drop i ∧ (s.drop i).dropWhile p = s.drop j := by
  have e := tw_take p (s.drop i) (j - i) (by rw [← List.drop_take]; exact h1) (fun c r hr => by
    rw [List.drop_drop, show i + (j - i) = j by omega] at hr
    have hj : j < s.length := by
      rcases Nat.lt_or_ge j s.length with h | h
      · exact h
      · rw [List.drop_eq_nil_of_le h] at hr; cases hr
    rw [drop_cons s j hj] at hr
    injection hr with hr1 hr2
    rw [← hr1]; exact h2 hj)
  rw [← List.drop_take, List.drop_drop, show i + (j - i) = j by omega] at e
  exact e
def TakePost (s : List UInt8) (p : UInt8 → Bool) (i ib : Nat) (w : World) (e : Ending) (w' : World) : Prop :=
  ∃ j : Nat, j ≤ s.length ∧ (s.drop i).dropWhile p = s.drop j ∧ e = .returned (.string (bstr ((s.drop i).takeWhile p))) ∧ Row w' ib 3 #[.int .i64 (j : Int)] ∧ Keep (· = ib) w w'
set_option maxRecDepth 100000 in
set_option maxHeartbeats 1000000 in
theorem take_any (f : FuncId) (p : UInt8 → Bool) (HF : Bx (PredC f p)) (ef : ∀ args w, (callFunc f args).run Tryz.prog w = .ok (.enter f args) w) (s : List UInt8) (i ib sb : Nat) (w : World) (hs : s.length ≤ 1000000) (hi : i ≤ s.length) (hib : sb ≠ ib) (hI : Row w ib 3 #[.int .i64 (i : Int)]) (hS : Row w sb 9 #[.string (bstr s)]) :
    Calls Tryz.prog 94 #[.func (Fn.func f) #[] #[], .pointer (some ⟨ib, 0, none⟩), .pointer (some ⟨sb, 0, none⟩)] w (TakePost s p i ib w) := by
  have hsz := bstr_size s
  have HI := Bx.mk hI; clear hI
  have HS := Bx.mk hS; clear hS
  have ci : w.cell? ⟨ib, 0, none⟩ = some (.int .i64 (i : Int)) := HI.out.cell 0
  go_enter Tryz.func94, Tryz.ntmps94
  go_wp2
  clear ci
  go_loopg [] (s.length - i) (fun g wr => ∃ j : Nat, j + g = s.length ∧ i ≤ j ∧ Row wr ib 3 #[.int .i64 (j : Int)] ∧ Row wr sb 9 #[.string (bstr s)] ∧ (∀ c ∈ (s.take j).drop i, p c = true) ∧ Keep (· = ib) w wr)
  case atStart => exact ⟨i, by omega, by omega, HI.out, HS.out, by rw [List.drop_eq_nil_of_le (by rw [List.length_take]; omega)]; simp, Keep.refl _ _⟩
  case round =>
    clear HI HS
    obtain ⟨j, hj, hij, hI, hS, hal, hk⟩ := hrel
    have HI := Bx.mk hI; clear hI
    have HS := Bx.mk hS; clear hS
    have HAL := Bx.mk hal; clear hal
    have HK := Bx.mk hk; clear hk
    have ci : wr.cell? ⟨ib, 0, none⟩ = some (.int .i64 (j : Int)) := HI.out.cell 0
    have cs : wr.cell? ⟨sb, 0, none⟩ = some (.string (bstr s)) := HS.out.cell 0
    have fi := HI.out.frozen 0
    have hsl := fun wx => slice_lh (P := Tryz.prog) Tryz.underlying9 s (i : Int) (j : Int) i j rfl rfl hij (by omega) wx
    have HE := Bx.mk (fun h => tw_end p s i j HAL.out h hij)
    by_cases hlt : j < s.length
    · have HN := Bx.mk (td_next s i j hij hlt)
      have hat := bstr_at s j (by rw [hsz]; exact hlt)
      generalize s.getD j 0 = c at *
      by_cases hp : p c = true
      · go_wp2_with fail
        refine (HF.out c _).mono ?_
        rintro e w' ⟨rfl, rfl⟩
        dsimp only
        go_wp2
        go_roundg (gk - 1)
        case rel =>
          refine ⟨j + 1, by omega, by omega, (HI.out.set 0 _), HS.out.other (by dsimp only; omega) _, fun d hd => ?_, HK.out.setCell (fun _ => rfl) _⟩
          rw [HN.out] at hd
          rcases List.mem_append.1 hd with h | h
          · exact HAL.out d h
          · obtain rfl : d = c := by simpa using h
            exact hp
        case measure => omega
      · have hp' : p c = false := by simpa using hp
        have HE2 := Bx.mk (HE.out (fun _ => hp'))
        clear hp
        go_wp2_with fail
        refine (HF.out c _).mono ?_
        rintro e w' ⟨rfl, rfl⟩
        dsimp only
        go_wp2
        go_ret
        exact ⟨j, by omega, HE2.out.2, by rw [HE2.out.1]; rfl, HI.out, HK.out⟩
    · have HE2 := Bx.mk (HE.out (fun h => absurd h hlt))
      go_wp2
      go_ret
      exact ⟨j, by omega, HE2.out.2, by rw [HE2.out.1]; rfl, HI.out, HK.out⟩
end Go.Proofs.YtmodjglbjempkaaGreatDoor
