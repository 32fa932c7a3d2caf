/- The law's walk: Unpack and Unsquash give the same on what the law makes of its arguments. -/
import Derived.Test.YtefklhjjhcobmaaDoorSqR5
namespace Go.Proofs.YtefklhjjhcobmaaDoor
open Go.RowKit
theorem tmod_bd (a b : Int) (h1 : 1 ≤ b) : -b < a.tmod b ∧ a.tmod b < b := by
  constructor
  · rcases Int.lt_or_le a 0 with h | h
    · have h2 := Int.tmod_lt_of_pos (-a) (show (0 : Int) < b by omega)
      rw [Int.neg_tmod] at h2; omega
    · have h2 := Int.tmod_nonneg b h; omega
  · exact Int.tmod_lt_of_pos a (by omega)
theorem tmod_mod (a b : Int) : (a.tmod b + b) % b = a % b := by
  rw [Int.add_emod_right]
  have h := Int.tmod_add_mul_tdiv a b
  conv => rhs; rw [← h]
  rw [Int.add_mul_emod_self_left]
set_option maxHeartbeats 400000 in
theorem mod_any (a b : Int) (w : World) (h1 : 1 ≤ b) (h2 : b ≤ 1000000000000) :
    Calls Tryd.prog 9 #[.int .i64 a, .int .i64 b] w fun e w' => e = .returned (.int .i64 (a % b)) ∧ w = w' := by
  obtain ⟨hl, hr⟩ := tmod_bd a b h1
  have hm := tmod_mod a b
  rw [Int.add_emod_right] at hm
  generalize hq : a.tmod b = q at *
  have hb0 : (b == 0) = false := by rw [beq_eq_false_iff_ne]; omega
  have hb1 : ¬ b = 0 := by omega
  have HM := Bx.mk hm; clear hm
  have ht : (q + b).tmod b = (q + b) % b := Int.tmod_eq_emod_of_nonneg (by omega)
  go_enter Tryd.func9, Tryd.ntmps9
  go_wp2
  go_ret
  exact ⟨by rw [← HM.out]; rfl, rfl⟩
theorem unpack_known : SqP.unpack [0, 0, 0, 2, 0, 65, 66] = (0, [65, 66]) := by decide +kernel
theorem unpack_known_any (w : World) (hB : Bases w) :
    Calls Tryd.prog 8 #[.string { data := #[0, 0, 0, 2, 0, 65, 66] }] w fun e w' => e = .returned (.tuple #[.string { data := #[65, 66] }, .int .i64 0]) ∧ Below w.heap.size w w' := by
  refine (unpack_any { data := #[0, 0, 0, 2, 0, 65, 66] } w (by decide +kernel) hB).mono fun e w' h => ?_
  obtain ⟨h1, h2⟩ := h
  have e1 : ({ data := #[0, 0, 0, 2, 0, 65, 66] } : ByteArray).data.toList = [0, 0, 0, 2, 0, 65, 66] := rfl
  rw [e1, unpack_known] at h1
  exact ⟨h1, h2⟩
theorem Bases.below {w w' : World} {B : Nat} (h : Bases w) (k : Below B w w') (hB : w.heap.size ≤ B) : Bases w' := fun i hi => by
  have hl : 0 < B := Nat.lt_of_lt_of_le h.lt hB
  rw [k.cell (p := ⟨0, i, none⟩) hl]; exact h i hi
theorem conv2 {P : Program} {src dst : TypeId} (hs : P.underlying src = some (.slice 5)) (he : P.underlying 5 = some (.int .u8)) (hd : P.underlying dst = some .string) (w : World) (c d : Nat) (hc : c < 256) (hd2 : d < 256) :
    (convert src dst (.slice (some ⟨w.heap.size, 0, none⟩) 2 2)).run P (w.alloc (.cells #[.int .u8 (c : Int), .int .u8 (d : Int)] 5)).drew = .ok (.string (bstr [UInt8.ofNat c, UInt8.ofNat d])) (w.alloc (.cells #[.int .u8 (c : Int), .int .u8 (d : Int)] 5)).drew := by
  refine run_convert_bytes_back _ src dst 5 ⟨w.heap.size, 0, none⟩ 2 [UInt8.ofNat c, UInt8.ofNat d] hs he hd (fun j hj => ?_)
  have hj2 : j = 0 ∨ j = 1 := by simp at hj; omega
  rcases hj2 with rfl | rfl
  · simp [Addr.add, Nat.mod_eq_of_lt hc]
  · simp [Addr.add, Nat.mod_eq_of_lt hd2]
set_option maxRecDepth 100000 in
set_option maxHeartbeats 4000000 in
theorem law_any (s : ByteArray) (n : Int) (w : World) (hs : s.size ≤ maxLen) (hB : Bases w) :
    Calls Tryd.prog 4 #[.string s, .int .i64 n] w fun e w' => e = .returned (.bool true) ∧ Below w.heap.size w w' := by
  unfold maxLen at hs
  have HB := Bx.mk hB; clear hB
  go_enter Tryd.func4, Tryd.ntmps4
  go_wp2_with fail
  refine (unpack_known_any _ HB.out).mono ?_
  rintro e w1 ⟨rfl, hb1⟩
  dsimp only
  have HBEL := Bx.mk hb1; clear hb1
  go_upto_region 4 with fail
  go_cut [0] (fun v wx => ∃ s1 : ByteArray, v = .string s1 ∧ s1.size ≤ 400 ∧ wx = w1)
  case first =>
    by_cases h400 : s.size ≤ 400
    · go_wp2
      go_meet
      exact ⟨_, rfl, h400, rfl⟩
    · go_wp2
      go_meet
      exact ⟨_, rfl, by simp; omega, rfl⟩
  case rest =>
    obtain ⟨s1, rfl, hs1, rfl⟩ := hcut
    clear hs
    obtain ⟨r4, hr4⟩ : ∃ r : Int, n.tmod 4 = r := ⟨_, rfl⟩
    go_upto_region 5 with fail
    go_cut [33] (fun v wx => ∃ b : Bool, v = .bool b ∧ (b = true → 4 ≤ s1.size) ∧ wx = wc)
    case first =>
      by_cases h4 : 4 ≤ s1.size
      · by_cases hz : r4 = 0
        · have hr0 : (r4 != 0) = false := by rw [bne_eq_false_iff_eq]; exact hz
          have hd : decide ((4 : Int) ≤ (s1.size : Int)) = true := by simp; omega
          go_wp2
          go_meet
          exact ⟨_, rfl, fun _ => h4, rfl⟩
        · have hr0 : (r4 != 0) = true := by rw [bne_iff_ne]; exact hz
          have hd : decide ((4 : Int) ≤ (s1.size : Int)) = true := by simp; omega
          go_wp2
          go_meet
          exact ⟨_, rfl, fun _ => h4, rfl⟩
      · have hd : decide ((4 : Int) ≤ (s1.size : Int)) = false := by simp; omega
        go_wp2
        go_meet
        exact ⟨_, rfl, (fun h => by cases h), rfl⟩
    case rest =>
      obtain ⟨b1, rfl, hb4, rfl⟩ := hcut
      go_upto_if 33 with fail
      go_cut [0] (fun v wx => ∃ s2 : ByteArray, v = .string s2 ∧ s2.size ≤ 400 ∧ Below w.heap.size w wx)
      case first =>
        cases b1 with
        | false =>
          go_wp2
          go_meet
          exact ⟨_, rfl, hs1, HBEL.out⟩
        | true =>
          have h4 := hb4 rfl
          have hm3 := mod_any n 3
          obtain ⟨r3, hr3⟩ : ∃ r : Nat, n % 3 = (r : Int) := ⟨(n % 3).toNat, by omega⟩
          rw [hr3] at hm3
          have hr3l : r3 < 3 := by omega
          obtain ⟨y, hy⟩ : ∃ y : Nat, (n / 8) % 256 = (y : Int) := ⟨((n / 8) % 256).toNat, by omega⟩
          have hy256 : y < 256 := by omega
          have hcv := fun W => conv2 (P := Tryd.prog) (src := 28) (dst := 9) Tryd.underlying28 Tryd.underlying5 Tryd.underlying9 W r3 y (by omega) hy256
          have HM3 := Bx.mk hm3; clear hm3 hr3
          have hds : (bstr [UInt8.ofNat r3, UInt8.ofNat y]).size ≤ 2 := by rw [bstr_size]; simp
          generalize bstr [UInt8.ofNat r3, UInt8.ofNat y] = dy at *
          go_wp2
          have q1 : IntKind.u8.wrap (r3 : Int) = (r3 : Int) := by rw [IntKind.wrap_u8]; omega
          have q2 : IntKind.u8.wrap (n / 8) = (y : Int) := by rw [IntKind.wrap_u8]; exact hy
          go_region_with (go_at_call 9; refine (HM3.out _ (by omega) (by omega)).mono ?_; rintro e w' ⟨rfl, rfl⟩)
          all_goals
            go_wp2
            go_meet
            exact ⟨_, rfl, by rw [ByteArray.size_append, ByteArray.size_append, ByteArray.size_extract]; show 2 + dy.size + _ ≤ _; omega, by first | exact (HBEL.out.alloc HBEL.out.size _).drew | exact HBEL.out.drew.alloc HBEL.out.size _⟩
      case rest =>
        obtain ⟨s2, rfl, hs2, hb2⟩ := hcut
        have HB2 := Bx.mk hb2; clear hb2
        go_upto_region 7 with fail
        obtain ⟨wy, hwy⟩ : ∃ wy : World, wc = wy := ⟨_, rfl⟩
        subst hwy
        go_cut [68] (fun v wx => ∃ b : Bool, v = .bool b ∧ (b = true → 5 < s2.size) ∧ wx = wc)
        case first =>
          by_cases h4 : 4 ≤ s2.size
          · have hd : decide ((4 : Int) ≤ (s2.size : Int)) = true := by simp; omega
            have i0 : 0 < s2.size := by omega
            have i1 : 1 < s2.size := by omega
            by_cases h5 : 5 < s2.size
            · have i4 : 4 < s2.size := by omega
              have hd5 : decide ((5 : Int) < (s2.size : Int)) = true := by simp; omega
              by_cases e0 : s2[0].toNat = 0
              · by_cases e1 : s2[1].toNat = 0
                · have q0 : (((s2[0].toNat : Nat) : Int) != 0) = false := by rw [bne_eq_false_iff_eq]; omega
                  have q1 : (((s2[1].toNat : Nat) : Int) != 0) = false := by rw [bne_eq_false_iff_eq]; omega
                  go_wp2
                  all_goals (go_meet; exact ⟨_, rfl, (fun h => by first | (cases h; done) | omega), rfl⟩)
                · by_cases e4 : s2[4].toNat = 1
                  · have q4 : (((s2[4].toNat : Nat) : Int) == 1) = true := by rw [beq_iff_eq]; omega
                    have q0 : (((s2[0].toNat : Nat) : Int) != 0) = false := by rw [bne_eq_false_iff_eq]; omega
                    have q1 : (((s2[1].toNat : Nat) : Int) != 0) = true := by rw [bne_iff_ne]; omega
                    go_wp2
                    all_goals (go_meet; exact ⟨_, rfl, (fun h => by first | (cases h; done) | omega), rfl⟩)
                  · have q4 : (((s2[4].toNat : Nat) : Int) == 1) = false := by rw [beq_eq_false_iff_ne]; omega
                    have q0 : (((s2[0].toNat : Nat) : Int) != 0) = false := by rw [bne_eq_false_iff_eq]; omega
                    have q1 : (((s2[1].toNat : Nat) : Int) != 0) = true := by rw [bne_iff_ne]; omega
                    go_wp2
                    all_goals (go_meet; exact ⟨_, rfl, (fun h => by first | (cases h; done) | omega), rfl⟩)
              · by_cases e4 : s2[4].toNat = 1
                · have q4 : (((s2[4].toNat : Nat) : Int) == 1) = true := by rw [beq_iff_eq]; omega
                  have q0 : (((s2[0].toNat : Nat) : Int) != 0) = true := by rw [bne_iff_ne]; omega
                  go_wp2
                  all_goals (go_meet; exact ⟨_, rfl, (fun h => by first | (cases h; done) | omega), rfl⟩)
                · have q4 : (((s2[4].toNat : Nat) : Int) == 1) = false := by rw [beq_eq_false_iff_ne]; omega
                  have q0 : (((s2[0].toNat : Nat) : Int) != 0) = true := by rw [bne_iff_ne]; omega
                  go_wp2
                  all_goals (go_meet; exact ⟨_, rfl, (fun h => by first | (cases h; done) | omega), rfl⟩)
            · have hd5 : decide ((5 : Int) < (s2.size : Int)) = false := by simp; omega
              by_cases e0 : s2[0].toNat = 0
              · by_cases e1 : s2[1].toNat = 0
                · have q0 : (((s2[0].toNat : Nat) : Int) != 0) = false := by rw [bne_eq_false_iff_eq]; omega
                  have q1 : (((s2[1].toNat : Nat) : Int) != 0) = false := by rw [bne_eq_false_iff_eq]; omega
                  go_wp2
                  all_goals (go_meet; exact ⟨_, rfl, (fun h => by first | (cases h; done) | omega), rfl⟩)
                · have q0 : (((s2[0].toNat : Nat) : Int) != 0) = false := by rw [bne_eq_false_iff_eq]; omega
                  have q1 : (((s2[1].toNat : Nat) : Int) != 0) = true := by rw [bne_iff_ne]; omega
                  go_wp2
                  all_goals (go_meet; exact ⟨_, rfl, (fun h => by first | (cases h; done) | omega), rfl⟩)
              · have q0 : (((s2[0].toNat : Nat) : Int) != 0) = true := by rw [bne_iff_ne]; omega
                go_wp2
                all_goals (go_meet; exact ⟨_, rfl, (fun h => by first | (cases h; done) | omega), rfl⟩)
          · have hd : decide ((4 : Int) ≤ (s2.size : Int)) = false := by simp; omega
            go_wp2
            all_goals (go_meet; exact ⟨_, rfl, (fun h => by first | (cases h; done) | omega), rfl⟩)
        case rest =>
          obtain ⟨b2, rfl, hb5, rfl⟩ := hcut
          go_upto_if 68 with fail
          go_cut [0] (fun v wx => ∃ s3 : ByteArray, v = .string s3 ∧ s3.size ≤ 400 ∧ Below w.heap.size w wx)
          case first =>
            cases b2 with
            | false =>
              go_wp2
              go_meet
              exact ⟨_, rfl, hs2, HB2.out⟩
            | true =>
              have h5 := hb5 rfl
              go_wp2
              go_meet
              exact ⟨_, rfl, by rw [ByteArray.size_append, ByteArray.size_extract]; show 2 + _ ≤ _; omega, HB2.out⟩
          case rest =>
            obtain ⟨s3, rfl, hs3, hb3⟩ := hcut
            have HB3 := Bx.mk hb3; clear hb3
            go_wp2_with fail
            have h1 := unpack_any s3 wc (by omega) (HB.out.below HB3.out (Nat.le_refl _))
            have h2 := unsquash_any s3
            unfold UnpackPost at h1 h2
            generalize SqP.unpack s3.data.toList = r at h1 h2
            obtain ⟨r1, r2⟩ := r
            dsimp only at h1 h2
            have H2 := Bx.mk h2; clear h2
            generalize ({ data := r2.toArray } : ByteArray) = rs at *
            refine h1.mono ?_
            rintro e w4 ⟨rfl, hb4⟩
            dsimp only
            have HB4 := Bx.mk (HB3.out.trans (hb4.mono HB3.out.size))
            clear hb4 h1
            go_wp2_with fail
            refine (H2.out _ (by omega)).mono ?_
            rintro e w5 ⟨rfl, hb5⟩
            dsimp only
            have HB5 := Bx.mk (HB4.out.trans (hb5.mono HB4.out.size))
            clear hb5
            go_wp2
            go_ret
            exact ⟨by simp, HB5.out⟩
end Go.Proofs.YtefklhjjhcobmaaDoor
