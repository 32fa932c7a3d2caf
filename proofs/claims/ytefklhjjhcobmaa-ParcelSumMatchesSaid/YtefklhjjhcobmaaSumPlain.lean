/- The plain functions of the checksum: the table's step, the table, the sum. -/
import Derived.Laws.BitsAllLaws
namespace Go.Proofs.Ytefklhjjhcobmaa.CrcP

def step (c : Nat) : Nat := if c % 2 = 1 then (c / 2) ^^^ 3988292384 else c / 2
def it : Nat → Nat → Nat
  | 0, c => c
  | k + 1, c => step (it k c)
theorem step_lt {c : Nat} (h : c < 4294967296) : step c < 4294967296 := by
  unfold step
  split
  · exact Nat.xor_lt_two_pow (n := 32) (by omega) (by omega)
  · omega
theorem it_lt {c : Nat} (h : c < 4294967296) : ∀ k, it k c < 4294967296
  | 0 => h
  | k + 1 => step_lt (it_lt h k)
def tab (i : Nat) : Nat := it 8 i
def upd (c b : Nat) : Nat := (c / 256) ^^^ tab ((c % 256) ^^^ b)
def sum (l : List UInt8) : Nat := l.foldl (fun c b => upd c b.toNat) 4294967295
theorem tab_lt {i : Nat} (h : i < 4294967296) : tab i < 4294967296 := it_lt h 8
theorem idx_lt (c : Nat) (b : UInt8) : (c % 256) ^^^ b.toNat < 256 := Nat.xor_lt_two_pow (n := 8) (by omega) b.toNat_lt
theorem upd_lt {c : Nat} (h : c < 4294967296) (b : UInt8) : upd c b.toNat < 4294967296 := by
  unfold upd
  exact Nat.xor_lt_two_pow (n := 32) (by omega) (tab_lt (by have := idx_lt c b; omega))
theorem sum_lt (l : List UInt8) : sum l < 4294967296 := by
  unfold sum
  have key : ∀ (l : List UInt8) (c : Nat), c < 4294967296 → l.foldl (fun c b => upd c b.toNat) c < 4294967296 := by
    intro l
    induction l with
    | nil => intro c h; exact h
    | cons b l ih => intro c h; exact ih _ (upd_lt h b)
  exact key l _ (by omega)
open Go
theorem and_one (c : Nat) (h : c < 4294967296) : bits .and .u32 (c : Int) 1 = ((c % 2 : Nat) : Int) := by
  rw [show (1 : Int) = ((1 : Nat) : Int) from rfl, u32_and_nat c 1 h (by omega), Nat.and_one_is_mod]
theorem step_odd (c : Nat) (h : c < 4294967296) (t : (bits .and .u32 (c : Int) 1 == 1) = true) : bits .xor .u32 ((c : Int) / 2) 3988292384 = (step c : Int) := by
  rw [and_one c h] at t
  have e : c % 2 = 1 := by simp at t; omega
  have e2 : ((c : Int) / 2) = ((c / 2 : Nat) : Int) := by omega
  rw [e2, show (3988292384 : Int) = ((3988292384 : Nat) : Int) from rfl, u32_xor_nat _ _ (by omega) (by omega)]
  unfold step
  rw [if_pos e]
theorem step_even (c : Nat) (h : c < 4294967296) (t : (bits .and .u32 (c : Int) 1 == 1) = false) : ((c : Int) / 2) = (step c : Int) := by
  rw [and_one c h] at t
  have e : ¬ c % 2 = 1 := by simp at t; omega
  unfold step
  rw [if_neg e]
  omega
theorem idx_eq (c : Nat) (b : UInt8) : bits .xor .u8 ((c : Int) % 256) (b.toNat : Int) = (((c % 256) ^^^ b.toNat : Nat) : Int) := by
  have e : ((c : Int) % 256) = ((c % 256 : Nat) : Int) := by omega
  rw [e, u8_xor_nat _ _ (by omega) b.toNat_lt]
theorem upd_eq (c : Nat) (hc : c < 4294967296) (b : UInt8) : bits .xor .u32 ((c : Int) / 256) (tab ((c % 256) ^^^ b.toNat) : Int) = (upd c b.toNat : Int) := by
  have e : ((c : Int) / 256) = ((c / 256 : Nat) : Int) := by omega
  rw [e, u32_xor_nat _ _ (by omega) (tab_lt (by have := idx_lt c b; omega))]
  rfl
theorem not_eq (c : Nat) (hc : c < 4294967296) : bits .xor .u32 IntKind.u32.max (c : Int) = ((4294967295 - c : Nat) : Int) := by
  rw [show IntKind.u32.max = ((4294967295 : Nat) : Int) by decide, u32_xor_nat _ _ (by omega) hc]
  congr 1
  have h := BitVec.toNat_not (x := BitVec.ofNat 32 c)
  have h2 : (~~~ (BitVec.ofNat 32 c)) = BitVec.allOnes 32 ^^^ BitVec.ofNat 32 c := BitVec.not_def
  rw [h2, BitVec.toNat_xor, BitVec.toNat_allOnes, BitVec.toNat_ofNat, Nat.mod_eq_of_lt (by simpa using hc)] at h
  exact h
end Go.Proofs.Ytefklhjjhcobmaa.CrcP
