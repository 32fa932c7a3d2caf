/- The walk of the closure put: digits are put behind the text in its box. -/
import Derived.Test.YtefklhjjhcobmaaDoorSqR4
import Derived.Test.YtefklhjjhcobmaaDoorSqPlain6
import Derived.Deep.RegionWith
namespace Go.Proofs.YtefklhjjhcobmaaDoor
open Go.RowKit
def Box (w : World) (b : Nat) (T : List UInt8) : Prop := Row w b 9 #[.string (bstr T)]
theorem Box.keep {S : Nat → Prop} {w w' : World} {b : Nat} {T : List UInt8} (h : Box w b T) (k : Keep S w w') (hS : ¬ S b) : Box w' b T := k.row h hS
theorem Box.drew {w : World} {b : Nat} {T : List UInt8} (h : Box w b T) : Box w.drew b T := h
theorem Box.set {w : World} {b : Nat} {T : List UInt8} (h : Box w b T) (T' : List UInt8) : Box (w.setCell ⟨b, 0, none⟩ (.string (bstr T'))) b T' := Row.set h 0 _
theorem Box.below {w w' : World} {B b : Nat} {T : List UInt8} (h : Box w b T) (k : Below B w w') (hB : b < B) : Box w' b T := Row.below h k hB
theorem put_next (q k j : Nat) (hj : 1 ≤ j) : SqP.binS (q + 1) (k / 2 ^ (j - 1)) = SqP.binS q (k / 2 ^ j) ++ [UInt8.ofNat (48 + k / 2 ^ (j - 1) % 2)] := by
  have e : k / 2 ^ (j - 1) / 2 = k / 2 ^ j := by
    rw [Nat.div_div_eq_div_mul, show 2 ^ (j - 1) * 2 = 2 ^ j from by rw [← Nat.pow_succ]; congr 1; omega]
  have e2 : SqP.dig (k / 2 ^ (j - 1)) = UInt8.ofNat (48 + k / 2 ^ (j - 1) % 2) := by
    unfold SqP.dig
    have : k / 2 ^ (j - 1) % 2 = 0 ∨ k / 2 ^ (j - 1) % 2 = 1 := by omega
    rcases this with h | h
    · rw [if_pos h, h]; rfl
    · rw [if_neg (by omega), h]; rfl
  show SqP.binS q (k / 2 ^ (j - 1) / 2) ++ [SqP.dig (k / 2 ^ (j - 1))] = _
  rw [e, e2]
theorem bstr_app2 (a b : List UInt8) : bstr a ++ bstr b = bstr (a ++ b) := by
  apply ByteArray.ext
  simp [bstr]
def PutPost (T : List UInt8) (k n b : Nat) (w : World) (e : Ending) (w' : World) : Prop :=
  e = .returned (.tuple #[]) ∧ Box w' b (T ++ SqP.binS n k) ∧ Keep (· = b) w w'
set_option maxRecDepth 100000 in
set_option maxHeartbeats 1000000 in
theorem put_any (T : List UInt8) (k n b : Nat) (w : World) (hk : k < 65536) (hn : n ≤ 15) (hT : T.length ≤ 100000) (hB : Box w b T) :
    Calls Tryd.prog 11 #[.int .i64 (k : Int), .int .i64 (n : Int), .pointer (some ⟨b, 0, none⟩)] w (PutPost T k n b w) := by
  have HB := Bx.mk hB; clear hB
  go_enter Tryd.func11, Tryd.ntmps11
  go_wp2
  go_loopw [5] (fun iv wr => ∃ q j : Nat, q + j = n ∧ iv = .int .i64 ((j : Int) - 1) ∧ Box wr b (T ++ SqP.binS q (k / 2 ^ j)) ∧ Keep (· = b) w wr) (fun iv _ => (intOf iv + 1).toNat)
  case atStart => exact ⟨0, n, by omega, rfl, by rw [show SqP.binS 0 (k / 2 ^ n) = [] from rfl, List.append_nil]; exact HB.out, Keep.refl _ _⟩
  case round =>
    clear HB
    obtain ⟨q, j, hq, rfl, hb, hk⟩ := hrel
    have HQ := Bx.mk hq; clear hq
    have HB := Bx.mk hb; clear hb
    have HK := Bx.mk hk; clear hk
    by_cases hj : 1 ≤ j
    · have hd : decide ((0 : Int) ≤ (j : Int) - 1) = true := by simp; omega
      have hlen : (T ++ SqP.binS q (k / 2 ^ j)).length ≤ 100015 := by rw [List.length_append, SqP.binS_len]; have := HQ.out; omega
      have hpn := put_next q k j hj
      obtain ⟨sh, hsh⟩ : ∃ sh : Nat, (j : Int) - 1 = (sh : Int) := ⟨j - 1, by omega⟩
      rw [show j - 1 = sh from by omega] at hpn
      have hsh15 : sh ≤ 14 := by have := HQ.out; omega
      have hand := Bi.shr_and1 k sh (by omega)
      have hy2 : k / 2 ^ sh % 2 < 2 := Nat.mod_lt _ (by omega)
      have hcell : wr.cell? ⟨b, 0, none⟩ = some (.string (bstr (T ++ SqP.binS q (k / 2 ^ j)))) := HB.out.cell 0
      have hfr := HB.out.frozen 0
      have hadd : bstr (T ++ SqP.binS q (k / 2 ^ j)) ++ bstr [UInt8.ofNat (48 + k / 2 ^ sh % 2)] = bstr (T ++ SqP.binS (q + 1) (k / 2 ^ sh)) := by
        rw [bstr_app2, hpn, List.append_assoc]
      have hdec := decimal_digit (k / 2 ^ sh % 2)
      have hds : (bstr [UInt8.ofNat (48 + k / 2 ^ sh % 2)]).size ≤ 1 := by rw [bstr_size]; simp
      have hsz : (bstr (T ++ SqP.binS q (k / 2 ^ j))).size ≤ 100015 := by rw [bstr_size]; exact hlen
      generalize k / 2 ^ sh % 2 = y at *
      generalize bstr [UInt8.ofNat (48 + y)] = dy at *
      have HSET := Bx.mk (fun W : World => Box.set (w := W) (b := b) (T := T ++ SqP.binS q (k / 2 ^ j)))
      generalize bstr (T ++ SqP.binS q (k / 2 ^ j)) = X at *
      have HDEC := Bx.mk hdec; clear hdec
      clear hpn hlen
      have hbl : b < wr.heap.size := HB.out.lt
      have HC := Bx.mk hcell
      have HF := Bx.mk hfr
      go_wp2
      go_region_with (go_at_call 12; refine (HDEC.out _ (by omega)).mono ?_; rintro e w' ⟨rfl, hb1⟩; have c1 : w'.cell? ⟨b, 0, none⟩ = some (.string X) := (hb1.cell (p := ⟨b, 0, none⟩) hbl).trans HC.out; have c2 : w'.frozen? ⟨b, 0, none⟩ = false := (hb1.frozen (p := ⟨b, 0, none⟩) hbl).trans HF.out)
      all_goals
        go_wp2
        go_roundw
        case rel => exact ⟨q + 1, sh, by have := HQ.out; omega, rfl, (HB.out.drew.below hb1 hbl).set _, (HK.out.drew.trans (Keep.ofBelow hb1 (fun k hk _ => hk))).setCell (fun _ => rfl) _⟩
        case measure => simp [intOf]; omega
    · obtain rfl : j = 0 := by omega
      have hqn : q = n := by have := HQ.out; omega
      have hd : decide ((0 : Int) ≤ ((0 : Nat) : Int) - 1) = false := by decide
      go_wp2
      go_end0
      have h := HB.out
      rw [hqn, Nat.pow_zero, Nat.div_one] at h
      exact ⟨rfl, h, HK.out⟩
end Go.Proofs.YtefklhjjhcobmaaDoor
