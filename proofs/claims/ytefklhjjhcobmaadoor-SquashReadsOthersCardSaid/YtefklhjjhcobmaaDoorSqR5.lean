/- The walk of the reference's Unsquash. -/
import Derived.Test.YtefklhjjhcobmaaDoorSqW8
import Derived.Test.YtefklhjjhcobmaaDoorSqR3
import Derived.Test.YtefklhjjhcobmaaDoorSqR4
import Derived.Test.YtefklhjjhcobmaaDoorSqPlain5
import Derived.Deep.AppendLies
import Derived.Deep.RegionLaw
import Derived.Deep.DeepCutAuto
namespace Go.Proofs.YtefklhjjhcobmaaDoor
open Go.RowKit
theorem extract_take (s : ByteArray) (k : Nat) : (s.extract 0 k).data.toList = s.data.toList.take k := by
  simp [ByteArray.data_extract]
theorem be4_take (l : List UInt8) : SqP.be4 (l.take 4) = SqP.be4 l := by
  unfold SqP.be4
  simp only [List.getD_eq_getElem?_getD, List.getElem?_take]
  simp
theorem lens_two (r : List UInt8) (k x y : Nat) (hk : k < 136) (hx : (r.getD k 0).toNat / 16 = x) (hy : (r.getD k 0).toNat % 16 = y) : (SqP.lens r).take (2 * (k + 1)) = (SqP.lens r).take (2 * k) ++ [x, y] := by
  have hb := (r.getD k 0).toNat_lt
  have e0 : SqP.nib r (2 * k) = x := by
    unfold SqP.nib
    rw [show 2 * k / 2 = k from by omega, show 2 * k % 2 = 0 from by omega, ← hx]
    simp only [Nat.mul_zero, Nat.sub_zero, Nat.reducePow]; omega
  have e1 : SqP.nib r (2 * k + 1) = y := by
    unfold SqP.nib
    rw [show (2 * k + 1) / 2 = k from by omega, show (2 * k + 1) % 2 = 1 from by omega, ← hy]
    simp
  have l0 : 2 * k < (SqP.lens r).length := by rw [lens_len]; omega
  have l1 : 2 * k + 1 < (SqP.lens r).length := by rw [lens_len]; omega
  rw [show 2 * (k + 1) = 2 * k + 1 + 1 from by omega, List.take_succ_eq_append_getElem l1, List.take_succ_eq_append_getElem l0, List.append_assoc]
  congr 1
  simp [SqP.lens, e0, e1]
theorem lens_15 (r : List UInt8) (s : Nat) : (SqP.lens r).getD s 0 ≤ 15 := by
  unfold SqP.lens SqP.nib
  rw [List.getD_eq_getElem?_getD, List.getElem?_map]
  by_cases h : s < 272
  · rw [List.getElem?_range h]; simp; omega
  · rw [List.getElem?_eq_none (by simp; omega)]; simp
theorem beq0 {a : Nat} (h : ((a : Int) == 0) = true) : a = 0 := by simpa using h
theorem beq0' {a : Nat} (h : ((a : Int) == 0) = false) : a ≠ 0 := by simpa using h
theorem cell_lt {w : World} {b o : Nat} {v : Value} (h : w.cell? ⟨b, o, none⟩ = some v) : b < w.heap.size := by
  rcases Nat.lt_or_ge b w.heap.size with h' | h'
  · exact h'
  · simp [World.cell?, Array.getElem?_eq_none h'] at h
/-- the bits of U lie as a slice of nb integers -/
def BitsAt (l : List UInt8) (nb : Nat) (la : Option Addr) (lc : Nat) (w : World) : Prop :=
  0 < nb → ∃ g, la = some ⟨g, 0, none⟩ ∧ nb ≤ lc ∧ g < w.heap.size ∧ ∀ j, j < nb → w.cell? ⟨g, j, none⟩ = some (.int .i64 (SqP.bitAt l j : Int))
theorem BitsAt.below {l : List UInt8} {nb : Nat} {la : Option Addr} {lc : Nat} {w w' : World} (h : BitsAt l nb la lc w) {B : Nat} (hB : w.heap.size ≤ B) (b : Below B w w') : BitsAt l nb la lc w' := fun h0 => by
  obtain ⟨g, h1, h2, h3, h4⟩ := h h0
  exact ⟨g, h1, h2, Nat.lt_of_lt_of_le h3 b.size, fun j hj => (b.cell (p := ⟨g, j, none⟩) (Nat.lt_of_lt_of_le h3 hB)).trans (h4 j hj)⟩
/-- the codes' texts lie in block b -/
def CodesAt (L : List Nat) (b : Nat) (w : World) : Prop := b < w.heap.size ∧ ∀ k, k < 272 → w.cell? ⟨b, k, none⟩ = some (.string (bstr (SqP.codeT L k)))
theorem CodesAt.below {L : List Nat} {b : Nat} {w w' : World} (h : CodesAt L b w) {B : Nat} (hB : w.heap.size ≤ B) (k : Below B w w') : CodesAt L b w' :=
  ⟨Nat.lt_of_lt_of_le h.1 k.size, fun j hj => (k.cell (p := ⟨b, j, none⟩) (Nat.lt_of_lt_of_le h.1 hB)).trans (h.2 j hj)⟩
theorem CodesAt.mk' {L : List Nat} {b : Nat} {w : World} (h : Row w b 9 (strs ((List.range 272).map (SqP.codeT L)))) : CodesAt L b w :=
  ⟨h.lt, fun k hk => by rw [h.cell]; simp [strs, hk]⟩
theorem BitsAt.mk' {l : List UInt8} {nb base : Nat} {la : Option Addr} {lc : Nat} {w : World} (h : w.ownsRow base 3 1 (.slice la nb lc) nb (vals (SqP.bitsTo l nb))) : BitsAt l nb la lc w := fun h0 => by
  obtain ⟨g, cap, hv, hgb, hgc, hcell, _⟩ := owns_read h h0
  injection hv with h1 h2 h3
  subst h1 h3
  have hc : ∀ j, j < nb → w.cell? ⟨g, j, none⟩ = some (.int .i64 (SqP.bitAt l j : Int)) := fun j hj => by
    rw [hcell j hj]
    unfold vals SqP.bitsTo
    simp [hj]
  exact ⟨g, rfl, hgc, cell_lt (hc 0 h0), hc⟩
def SymIs (L : List Nat) (l : List UInt8) (j m c q : Nat) (sv : Value) : Prop :=
  (sv = .int .i64 (-1) ∧ SqP.sym L l j = SqP.symGo L l (15 - m) (m + 1) c q) ∨ ∃ s : Nat, s < 272 ∧ sv = .int .i64 (s : Int) ∧ SqP.sym L l j = (0, s, q)
def symUp (o : Option Nat) (k : Nat) : Int := match o with | some s => if s < k then (s : Int) else -1 | none => -1
theorem symUp_zero (o : Option Nat) : symUp o 0 = -1 := by cases o <;> simp [symUp]
theorem symUp_hit (k : Nat) : symUp (some k) (k + 1) = (k : Int) := by simp [symUp]
theorem symUp_miss (o : Option Nat) (k : Nat) (h : o ≠ some k) : symUp o (k + 1) = symUp o k := by
  cases o with
  | none => rfl
  | some s =>
    have : s ≠ k := fun e => h (by rw [e])
    unfold symUp
    by_cases h2 : s < k
    · simp only [if_pos h2, if_pos (show s < k + 1 by omega)]
    · simp only [if_neg h2, if_neg (show ¬ s < k + 1 by omega)]
theorem bits_more (m c y : Nat) (hy : y < 2) : bstr (SqP.binS m c) ++ bstr [UInt8.ofNat (48 + y)] = bstr (SqP.binS (m + 1) (2 * c + y)) := by
  have e : (2 * c + y) / 2 = c := by omega
  have e2 : SqP.dig (2 * c + y) = UInt8.ofNat (48 + y) := by
    unfold SqP.dig
    have : y = 0 ∨ y = 1 := by omega
    rcases this with rfl | rfl
    · rw [if_pos (by omega)]; rfl
    · rw [if_neg (by omega)]; rfl
  rw [show SqP.binS (m + 1) (2 * c + y) = SqP.binS m ((2 * c + y) / 2) ++ [SqP.dig (2 * c + y)] from rfl, e, e2]
  apply ByteArray.ext
  simp [bstr]
theorem bstr_app (a b : List UInt8) : bstr a ++ bstr b = bstr (a ++ b) := by
  apply ByteArray.ext
  simp [bstr]
theorem cps_string (out : List UInt8) (back k fr : Nat) (hfr : fr + back = out.length + k) (hb : 0 < back) :
    bstr (SqP.cps out back k) ++ (bstr (SqP.cps out back k)).extract fr (fr + 1) = bstr (SqP.cps out back (k + 1)) := by
  have hl := SqP.cps_len out back k
  have hlt : fr < (SqP.cps out back k).length := by omega
  have e : ((bstr (SqP.cps out back k)).extract fr (fr + 1)).data.toList = [(SqP.cps out back k).getD ((SqP.cps out back k).length - back) 0] := by
    rw [ByteArray.data_extract, show (SqP.cps out back k).length - back = fr from by omega]
    unfold bstr
    rw [List.getD_eq_getElem?_getD, List.getElem?_eq_getElem hlt, Array.toList_extract, List.extract_eq_take_drop]
    simp only [Nat.add_sub_cancel_left]
    rw [List.drop_eq_getElem_cons hlt]
    rfl
  rw [SqP.cps_succ, ← bstr_app]
  congr 1
  apply ByteArray.ext
  apply Array.toList_inj.1
  rw [e]
  rfl
theorem base_low (kk : Nat) (h : kk < 8) : SqP.base (256 + kk) = 3 + kk ∧ SqP.extra (256 + kk) = 0 := by
  unfold SqP.base SqP.extra
  rw [if_pos (by omega), if_pos (by omega)]
  omega
theorem extra_high (kk : Nat) (h : 8 ≤ kk) : SqP.extra (256 + kk) = kk - 7 := by
  unfold SqP.extra
  rw [if_neg (by omega)]
  omega
theorem numPart_any (l : List UInt8) (nb g q x cap : Nat) (w : World) (hx : x ≤ 32) (hq : q + x ≤ nb) (hc : ∀ j, j < nb → w.cell? ⟨g, j, none⟩ = some (.int .i64 (SqP.bitAt l j : Int))) :
    Calls Tryd.prog 21 #[.slice (some ⟨g, q, none⟩) x cap] w fun e w' => e = .returned (.int .i64 (SqP.numAt l q x : Int)) ∧ w = w' := by
  have hlen : (((SqP.bitsTo l nb).drop q).take x).length = x := by rw [List.length_take, List.length_drop, SqP.bitsTo_len]; omega
  have h := numberOf_any (((SqP.bitsTo l nb).drop q).take x) g q cap w (by rw [hlen]; exact hx) (fun b hb => by
    have hb2 := List.mem_of_mem_drop (List.mem_of_mem_take hb)
    unfold SqP.bitsTo at hb2
    rw [List.mem_map] at hb2
    obtain ⟨i, _, rfl⟩ := hb2
    exact SqP.bitAt_lt _ _) (fun j hj => by
    rw [hlen] at hj
    rw [hc _ (by omega)]
    rw [List.getD_eq_getElem?_getD, List.getElem?_take, if_pos hj, List.getElem?_drop]
    unfold SqP.bitsTo
    simp [show q + j < nb by omega])
  rw [hlen, SqP.num_part l nb q x hq] at h
  exact h
theorem base_next (j : Nat) (h1 : 8 ≤ j) (h2 : j < 15) : SqP.base (256 + (j + 1)) = SqP.base (256 + j) + 2 ^ (j - 7) := by
  have key : ∀ i : Fin 7, SqP.base (256 + (8 + i.val + 1)) = SqP.base (256 + (8 + i.val)) + 2 ^ (8 + i.val - 7) := by decide
  have := key ⟨j - 8, by omega⟩
  rwa [show 8 + (j - 8) = j from by omega] at this
set_option maxRecDepth 100000 in
set_option maxHeartbeats 4000000 in
theorem unsquash_any (s : ByteArray) (w : World) (hs : s.size ≤ 1000000000) :
    Calls Tryd.prog 10 #[.string s] w (UnpackPost s w) := by
  have hlen := len_data s
  by_cases h5 : s.size < 5
  · have HU := Bx.mk (show SqP.unpack s.data.toList = (11, []) by unfold SqP.unpack; rw [if_pos (by omega)])
    clear hlen
    go_enter Tryd.func10, Tryd.ntmps10
    go_wp2
    go_ret2
    refine ⟨?_, Below.refl _ _⟩
    rw [HU.out]; rfl
  · have HLEN := Bx.mk hlen; clear hlen
    have n4 : 4 < s.size := by omega
    have b4 := s[4].toNat_lt
    have g4 := Bx.mk (getD_data s 4 (by omega))
    obtain ⟨n, hnn⟩ : ∃ n, SqP.be4 s.data.toList = n := ⟨_, rfl⟩
    have hnl : n < 4294967296 := hnn ▸ SqP.be4_lt _
    have HNN := Bx.mk hnn; clear hnn
    have HEX := Bx.mk (extract_list s 5)
    have htl : (s.extract 5 s.size).size = s.size - 5 := by simp
    have HTL := Bx.mk htl; clear htl
    have HUN := Bx.mk (show SqP.unpack s.data.toList = if 1 < s[4].toNat then (8, []) else if s[4].toNat = 0 then if (s.extract 5 s.size).size < n then (11, []) else if n < (s.extract 5 s.size).size then (4, []) else (0, (s.extract 5 s.size).data.toList) else SqP.body (s.extract 5 s.size).data.toList n by
      unfold SqP.unpack
      rw [if_neg (by rw [HLEN.out]; omega), g4.out, HNN.out, ← HEX.out, len_data])
    have h4s : (s.extract 0 4).size = 4 := by simp; omega
    have h4l : (s.extract 0 4).data.toList = s.data.toList.take 4 := extract_take s 4
    have H4L := Bx.mk h4l; clear h4l
    go_enter Tryd.func10, Tryd.ntmps10
    go_wp2_with fail
    refine (bitsOf_any (s.extract 0 4) _ (by omega)).mono ?_
    rintro e w1 ⟨v, rfl, hown, hb1⟩
    dsimp only
    rw [h4s] at hown
    obtain ⟨g, cap, hv, hgb, hgc, hgcell, _⟩ := owns_read hown (by omega)
    rw [hv]
    clear hv
    have hnum := numberOf_any (SqP.bitsTo (s.extract 0 4).data.toList 32) g 0 cap w1 (by rw [SqP.bitsTo_len]; omega) (fun b hb => by
        unfold SqP.bitsTo at hb
        rw [List.mem_map] at hb
        obtain ⟨i, _, rfl⟩ := hb
        exact SqP.bitAt_lt _ _) (fun j hj => by
        rw [SqP.bitsTo_len] at hj
        rw [Nat.zero_add, hgcell j hj]
        unfold vals
        rw [List.getElem?_map, List.getD_eq_getElem?_getD, List.getElem?_eq_getElem (by rw [SqP.bitsTo_len]; omega)]
        rfl)
    rw [SqP.bitsTo_len, SqP.num_be4, H4L.out, be4_take, HNN.out] at hnum
    clear hgcell hown h4s
    go_wp2_with fail
    refine hnum.mono ?_
    rintro e w2 ⟨rfl, rfl⟩
    dsimp only
    clear hnum
    go_wp2_with fail
    · go_ret2
      refine ⟨?_, hb1⟩
      rw [HUN.out, if_pos (by omega)]; rfl
    · go_ret2
      refine ⟨?_, hb1⟩
      have e0 := beq0 (a := s[4].toNat) (by assumption)
      rw [HUN.out, if_neg (by omega), if_pos (by omega), if_pos (by rw [HTL.out]; omega)]; rfl
    · go_ret2
      refine ⟨?_, hb1⟩
      have e0 := beq0 (a := s[4].toNat) (by assumption)
      rw [HUN.out, if_neg (by omega), if_pos (by omega), if_neg (by rw [HTL.out]; omega), if_pos (by rw [HTL.out]; omega)]; rfl
    · go_ret2
      refine ⟨?_, hb1⟩
      have e0 := beq0 (a := s[4].toNat) (by assumption)
      rw [HUN.out, if_neg (by omega), if_pos (by omega), if_neg (by rw [HTL.out]; omega), if_neg (by rw [HTL.out]; omega)]; rfl
    · go_ret2
      refine ⟨?_, hb1⟩
      have e0 := beq0' (a := s[4].toNat) (by assumption)
      rw [HUN.out, if_neg (by omega), if_neg (by omega)]
      unfold SqP.body
      rw [if_pos (by rw [len_data, HTL.out]; omega)]; rfl
    · have e0 := beq0' (a := s[4].toNat) (by assumption)
      rw [show (((s[4].toNat : Nat) : Int) == 0) = false by assumption]
      have ht136 : 136 ≤ (s.extract 5 s.size).size := by rw [HTL.out]; omega
      have hts : (s.extract 5 s.size).size ≤ 1000000000 := by rw [HTL.out]; omega
      have HU := Bx.mk (show SqP.unpack s.data.toList = if SqP.kr (SqP.lens (s.extract 5 s.size).data.toList) 15 ≤ 32768 then SqP.unp (SqP.lens (s.extract 5 s.size).data.toList) ((s.extract 5 s.size).data.toList.drop 136) n (n + 1) 0 [] else (4, []) by
        rw [HUN.out, if_neg (by omega), if_neg (by omega)]
        unfold SqP.body
        rw [if_neg (by rw [len_data]; omega)])
      clear HUN HEX HTL g4 H4L hgb hgc e0
      have hts5 : (s.size - 5 : Nat) < 136 → False := by omega
      have hd48 : decide (((s.size - 5 : Nat) : Int) < 136) = false := by simp; omega
      clear hts5
      rw [hd48]
      generalize s.extract 5 s.size = t at *
      have HBEL0 := Bx.mk hb1; clear hb1
      obtain ⟨i0, hi, hz0, hz1, hz2⟩ := info_parts intInfo
      go_loopw [6, 49] (fun v i wr => ∃ k : Nat, k ≤ 136 ∧ i = .int .i64 k ∧ wr.ownsRow w.heap.size 3 1 v (2 * k) (vals ((SqP.lens t.data.toList).take (2 * k))) ∧ Below w.heap.size w wr) (fun _ i _ => 136 - (intOf i).toNat)
      case atStart => exact ⟨0, by omega, rfl, owns_nil _ _ _ _, HBEL0.out⟩
      case round =>
        clear HBEL0
        obtain ⟨k, hk, rfl, hown, hbel⟩ := hrel
        have hob := owns_below hown
        have HOB := Bx.mk hob; clear hob
        obtain ⟨la, lcap, hv⟩ := owns_slice hown
        rw [hv] at hown HOB ⊢
        clear hv
        have HOWN := Bx.mk hown; clear hown
        have HBEL := Bx.mk hbel; clear hbel
        by_cases hk2 : k < 136
        · have hkt : k < t.size := by omega
          have hki : (k : Int) < (t.size : Int) := by omega
          have hby := t[k].toNat_lt
          obtain ⟨x, hx⟩ : ∃ x : Nat, (t[k].toNat : Int) / 16 = (x : Int) := ⟨t[k].toNat / 16, by omega⟩
          obtain ⟨y, hy⟩ : ∃ y : Nat, (t[k].toNat : Int) % 16 = (y : Int) := ⟨t[k].toNat % 16, by omega⟩
          go_wp2
          have q1 : IntKind.i64.wrap (t[k].toNat : Int) = (t[k].toNat : Int) := by rw [IntKind.wrap_i64]; omega
          have q2 : (t[k].toNat : Int).tdiv 16 = (x : Int) := by rw [Int.tdiv_eq_ediv_of_nonneg (by omega)]; exact hx
          have q3 : IntKind.i64.wrap (x : Int) = (x : Int) := by rw [IntKind.wrap_i64]; omega
          have q4 : (t[k].toNat : Int).tmod 16 = (y : Int) := by rw [Int.tmod_eq_emod_of_nonneg (by omega)]; exact hy
          go_region_law (go_loud (refine step_append_lies _ rfl (.tmp 52) (.tmp 63) 30 rfl w.heap.size 3 i0 (.int .i64 0) 1 8 Tryd.underlying30 hi hz0 hz1 hz2 rfl (by decide) (.slice la (2 * k) lcap) (2 * k) (vals ((SqP.lens t.data.toList).take (2 * k))) (by simp [Act.eval]) (HOWN.out.alloc (.cells #[.int .i64 (x : Int), .int .i64 (y : Int)] 3)) ⟨wr.heap.size, 0, none⟩ 2 2 [.int .i64 (x : Int), .int .i64 (y : Int)] (by simp [Act.eval]) rfl (cell_two_new wr _ _ _) (by simp [Value.oneCell']) (by omega) (by unfold maxLen; omega) (by omega) (by have := HBEL.out.size; simp; omega) _ rfl ?_); intro g' cap' w2 hown' hgrow _ _)
          all_goals
            have HO := Bx.mk hown'; clear hown'
            have HG := Bx.mk hgrow; clear hgrow
            go_wp2
            go_roundw
            case rel =>
              have hl2 := lens_two t.data.toList k x y hk2 (by rw [getD_data t k hkt]; omega) (by rw [getD_data t k hkt]; omega)
              have hown3 : w2.ownsRow w.heap.size 3 1 (.slice (some ⟨g', 0, none⟩) (2 * k + 2) cap') (2 * (k + 1)) (vals ((SqP.lens t.data.toList).take (2 * (k + 1)))) := by
                rw [hl2]
                have h := HO.out
                simpa [vals, Nat.mul_add] using h
              have hbel3 : Below w.heap.size w w2 := ((HBEL.out.alloc HBEL.out.size _).drew).grown HG.out (by have := HBEL.out.size; simp; omega) HOB.out
              have hk3 : k + 1 ≤ 136 := by omega
              have hki3 : Value.int .i64 ((k : Int) + 1) = .int .i64 ((k + 1 : Nat) : Int) := by go_num
              first | exact ⟨k + 1, hk3, hki3, hown3, hbel3⟩ | ((repeat apply Exists.intro); exact ⟨⟨k + 1, hk3, hki3, hown3, hbel3⟩, rfl⟩)
            case measure => simp [intOf]; omega
        · obtain rfl : k = 136 := by omega
          have hd2 : decide ((136 : Int) < 136) = false := by decide
          obtain ⟨lg, lc, hv, hlgb, hlgc, hlgcell, _⟩ := owns_read HOWN.out (by omega)
          rw [hv]
          clear hv
          rw [show 2 * 136 = 272 from rfl, show ((136 : Nat) : Int) = 136 from rfl]
          have hL := lens_len t.data.toList
          have hL15 := fun s => lens_15 t.data.toList s
          have hcod := codesOf_any (SqP.lens t.data.toList) lg lc wr hL hL15 (fun k hk => by
            rw [hlgcell k (by omega)]
            unfold vals
            rw [List.take_of_length_le (by omega), List.getElem?_map, List.getD_eq_getElem?_getD, List.getElem?_eq_getElem (by omega)]
            rfl)
          have hlgl := cell_lt (hlgcell 0 (by omega) |>.trans (show (vals (List.take (2 * 136) (SqP.lens t.data.toList)))[0]? = some (.int .i64 (((SqP.lens t.data.toList).getD 0 0 : Nat) : Int)) by
            unfold vals
            rw [List.take_of_length_le (by omega), List.getElem?_map, List.getD_eq_getElem?_getD, List.getElem?_eq_getElem (by omega)]
            rfl))
          clear hlgcell
          have HCOD := Bx.mk hcod; clear hcod
          have HL := Bx.mk hL; clear hL
          have HL15 := Bx.mk hL15; clear hL15
          generalize SqP.lens t.data.toList = L at *
          go_wp2_with fail
          refine (HCOD.out hlgl).mono ?_
          rintro e w1 ⟨hc1, hb1⟩
          have HB1 := Bx.mk hb1; clear hb1 HCOD
          by_cases hkr : SqP.kr L 15 ≤ 32768
          · rw [if_pos hkr] at hc1
            obtain ⟨rfl, hcr⟩ := hc1
            have hu := HU.out
            rw [if_pos hkr, ← extract_list] at hu
            have HCR := Bx.mk hcr; clear hcr
            have hUs : (t.extract 136 t.size).size ≤ 1000000000 := by simp; omega
            have HUU := Bx.mk hu; clear hu HU
            have HKR := Bx.mk hkr; clear hkr
            dsimp only
            go_wp2_with fail
            generalize t.extract 136 t.size = U at *
            refine (bitsOf_any U _ hUs).mono ?_
            rintro e w2 ⟨vb, rfl, hbits, hb2⟩
            dsimp only
            obtain ⟨la, lc, hv⟩ := owns_slice hbits
            rw [hv] at hbits ⊢
            clear hv
            have hnbs : 8 * U.size ≤ 8000000000 := by omega
            have hlenU : U.data.toList.length = U.size := len_data U
            generalize hnb : 8 * U.size = nb at *
            have HNB := Bx.mk (show 8 * U.data.toList.length = nb by rw [hlenU]; exact hnb); clear hnb hlenU
            have HBT := Bx.mk (BitsAt.mk' hbits); clear hbits
            have HCA := Bx.mk ((CodesAt.mk' HCR.out).below (Nat.le_refl _) hb2)
            have HBEL2 := Bx.mk ((HBEL.out.trans (HB1.out.mono HBEL.out.size)).trans (hb2.mono (Nat.le_trans HBEL.out.size HB1.out.size)))
            clear HBEL HB1 hb2 HCR HOWN HOB
            generalize wr.heap.size = cb at *
            go_wp2
            go_loopw [11, 12] (fun a o wx => ∃ (f j : Nat) (out : List UInt8), n - out.length < f ∧ j ≤ nb ∧ out.length ≤ n ∧ a = .int .i64 (j : Int) ∧ o = .string (bstr out) ∧ SqP.unp L U.data.toList n f j out = SqP.unp L U.data.toList n (n + 1) 0 [] ∧ BitsAt U.data.toList nb la lc wx ∧ CodesAt L cb wx ∧ Below w.heap.size w wx) (fun _ o _ => n - lenS o)
            case atStart => exact ⟨n + 1, 0, [], by simp, by omega, by simp, rfl, rfl, rfl, HBT.out, HCA.out, HBEL2.out⟩
            case round =>
              clear HBT HCA HBEL2
              obtain ⟨f, j, out, hf, hj, hon, rfl, rfl, hun, hbt, hca, hbel⟩ := hrel
              obtain ⟨f, rfl⟩ : ∃ g, f = g + 1 := ⟨f - 1, by omega⟩
              have hosz : (bstr out).size = out.length := bstr_size out
              have HUN := Bx.mk hun; clear hun
              have HBT := Bx.mk hbt; clear hbt
              have HCA := Bx.mk hca; clear hca
              have HBEL := Bx.mk hbel; clear hbel
              by_cases hlt : out.length < n
              · have hdl : decide ((out.length : Int) < (n : Int)) = true := by simp; omega
                have U1 := Bx.mk (SqP.unp_err L U.data.toList n f j out hlt)
                have U2 := Bx.mk (SqP.unp_byte L U.data.toList n f j out hlt)
                have U3 := Bx.mk (SqP.unp_short L U.data.toList n f j out hlt)
                have U4 := Bx.mk (SqP.unp_range L U.data.toList n f j out hlt)
                have U5 := Bx.mk (SqP.unp_large L U.data.toList n f j out hlt)
                have U6 := Bx.mk (SqP.unp_copy L U.data.toList n f j out hlt)
                have HBD := Bx.mk (SqP.sym_bd L U.data.toList HL.out j (by rw [HNB.out]; exact hj))
                go_wp2
                go_loopw [11, 13, 14] (fun a sv cv wx => ∃ (m c q : Nat), m ≤ 15 ∧ c < 2 ^ m ∧ q = j + m ∧ q ≤ nb ∧ a = .int .i64 (q : Int) ∧ cv = .string (bstr (SqP.binS m c)) ∧ SymIs L U.data.toList j m c q sv ∧ BitsAt U.data.toList nb la lc wx ∧ CodesAt L cb wx ∧ Below w.heap.size w wx) (fun _ _ cv _ => 15 - lenS cv)
                case atStart => exact ⟨0, 0, j, by omega, by simp, by omega, hj, rfl, rfl, .inl ⟨rfl, (SqP.sym_start _ _ _).symm⟩, HBT.out, HCA.out, HBEL.out⟩
                case round =>
                  clear HBT HCA HBEL
                  obtain ⟨m, c, q, hm, hc, hq, hqn, rfl, rfl, hsy, hbt, hca, hbel⟩ := hrel
                  have hcsz : (bstr (SqP.binS m c)).size = m := by rw [bstr_size, SqP.binS_len]
                  have HC := Bx.mk hc; clear hc
                  have HQ := Bx.mk hq; clear hq
                  have HBT := Bx.mk hbt; clear hbt
                  have HCA := Bx.mk hca; clear hca
                  have HBEL := Bx.mk hbel; clear hbel
                  rcases hsy with ⟨rfl, hsy⟩ | ⟨s0, hs0, rfl, hsy⟩
                  · have HSY := Bx.mk hsy; clear hsy
                    by_cases hm15 : m < 15
                    · have hd15 : decide ((m : Int) < 15) = true := by simp; omega
                      by_cases hend : q = nb
                      · have heq : ((q : Int) == (nb : Int)) = true := by rw [beq_iff_eq]; omega
                        have e5 := HUN.out
                        have es : SqP.sym L U.data.toList j = (11, 0, q) := by
                          rw [HSY.out, show 15 - m = (14 - m) + 1 from by omega]
                          exact SqP.symGo_end _ _ _ _ _ _ (by rw [HNB.out]; exact hend)
                        have e6 := U1.out
                        rw [es] at e6
                        rw [e6 (fun h => by cases h)] at e5
                        have E5 := Bx.mk e5.symm; clear e5 e6 es hend
                        go_wp2
                        go_ret2
                        exact ⟨by rw [HUU.out, E5.out]; rfl, HBEL.out⟩
                      · have heq : ((q : Int) == (nb : Int)) = false := by rw [beq_eq_false_iff_ne]; omega
                        have hql : q < nb := by omega
                        obtain ⟨bg, hbg1, hbg2, hbg3, hbg4⟩ := HBT.out (by omega)
                        have hbc := hbg4 q hql
                        have hy := SqP.bitAt_lt U.data.toList q
                        have hmiss := SqP.symGo_miss L U.data.toList (14 - m) (m + 1) c q (by rw [HNB.out]; omega)
                        have hhit := fun s => SqP.symGo_hit L U.data.toList (14 - m) (m + 1) c q s (by rw [HNB.out]; omega)
                        rw [show (14 - m) + 1 = 15 - m from by omega, ← HSY.out] at hmiss
                        simp only [show (14 - m) + 1 = 15 - m from by omega, ← HSY.out] at hhit
                        have hadd := bits_more m c (SqP.bitAt U.data.toList q) hy
                        have hti := fun s => SqP.text_iff L HL.out HL15.out HKR.out (m + 1) (2 * c + SqP.bitAt U.data.toList q) s (by omega) (by have := HC.out; rw [Nat.pow_succ]; omega)
                        have hc2 : 2 * c + SqP.bitAt U.data.toList q < 2 ^ (m + 1) := by have := HC.out; rw [Nat.pow_succ]; omega
                        have HMISS := Bx.mk hmiss; clear hmiss
                        have HHIT := Bx.mk hhit; clear hhit
                        have HTI := Bx.mk hti; clear hti
                        have HC2 := Bx.mk hc2; clear hc2
                        generalize SqP.bitAt U.data.toList q = y at *
                        generalize 2 * c + y = c2 at *
                        have hdy : (bstr [UInt8.ofNat (48 + y)]).size ≤ 1 := by rw [bstr_size]; simp
                        have hdec := decimal_digit y
                        generalize bstr [UInt8.ofNat (48 + y)] = dy at *
                        have HDEC := Bx.mk hdec; clear hdec
                        clear hbg4
                        have HLA := Bx.mk hbg1; clear hbg1
                        rw [HLA.out]
                        go_wp2_with fail
                        refine (HDEC.out _ (by omega)).mono ?_
                        rintro e w3 ⟨rfl, hb3⟩
                        dsimp only
                        have hcf := HCA.out.2
                        have HBT3 := Bx.mk (HBT.out.below (Nat.le_refl _) hb3)
                        have HCA3 := Bx.mk (HCA.out.below (Nat.le_refl _) hb3)
                        have HBEL3 := Bx.mk (HBEL.out.trans (hb3.mono HBEL.out.size))
                        have HCF := Bx.mk HCA3.out.2
                        clear hcf hb3 hbc
                        go_wp2
                        go_loop [13, 102] (fun sv kv => ∃ k : Nat, k ≤ 272 ∧ kv = .int .i64 (k : Int) ∧ sv = .int .i64 (symUp (SqP.look L (m + 1) c2) k)) (fun _ kv => 272 - (intOf kv).toNat)
                        case atStart => exact ⟨0, by omega, rfl, by rw [symUp_zero]⟩
                        case round =>
                          obtain ⟨k, hk, rfl, rfl⟩ := hrel
                          by_cases hk2 : k < 272
                          · have hdk : decide ((k : Int) < 272) = true := by simp; omega
                            have hcell := HCF.out k hk2
                            have hck := HTI.out k hk2
                            by_cases hlk : SqP.look L (m + 1) c2 = some k
                            · rw [hck.2 hlk] at hcell
                              have HUP := Bx.mk (show symUp (SqP.look L (m + 1) c2) (k + 1) = (k : Int) by rw [hlk]; exact symUp_hit k)
                              clear hck hlk
                              generalize symUp (SqP.look L (m + 1) c2) k = sv at *
                              go_wp2
                              go_round
                              case rel => exact ⟨k + 1, by omega, by go_num, by rw [HUP.out]⟩
                              case measure => simp [intOf]; omega
                            · have hne : ((bstr (SqP.codeT L k)).toList == (bstr (SqP.binS (m + 1) c2)).toList) = false := by
                                rw [beq_eq_false_iff_ne]
                                intro e
                                refine hlk (hck.1 ?_)
                                unfold bstr at e
                                rwa [ByteArray.toList_mk, ByteArray.toList_mk] at e
                              have HUP := Bx.mk (symUp_miss _ _ hlk)
                              clear hck hlk
                              generalize symUp (SqP.look L (m + 1) c2) k = sv at *
                              generalize bstr (SqP.codeT L k) = ck at *
                              go_wp2
                              go_round
                              case rel => exact ⟨k + 1, by omega, by go_num, by rw [HUP.out]⟩
                              case measure => simp [intOf]; omega
                          · obtain rfl : k = 272 := by omega
                            have hdk : decide ((272 : Int) < 272) = false := by decide
                            rcases hlk : SqP.look L (m + 1) c2 with _ | s0
                            · have hs1 : symUp (none : Option Nat) 272 = -1 := rfl
                              rw [hs1]
                              have hsy2 : SymIs L U.data.toList j (m + 1) c2 (q + 1) (.int .i64 (-1)) := .inl ⟨rfl, by rw [show 15 - (m + 1) = 14 - m from by omega]; exact HMISS.out hlk⟩
                              have HSY2 := Bx.mk hsy2; clear hsy2 hlk
                              go_wp2
                              rw [← HLA.out]
                              go_roundw
                              case rel => exact ⟨m + 1, c2, q + 1, by omega, HC2.out, by have := HQ.out; omega, by omega, by go_num, rfl, HSY2.out, HBT3.out, HCA3.out, HBEL3.out⟩
                              case measure => simp only [lenS, bstr_size, SqP.binS_len]; omega
                            · have hs272 := ((SqP.look_iff L HL.out _ _ _).1 hlk).1
                              have hs1 : symUp (some s0) 272 = (s0 : Int) := by unfold symUp; simp only [if_pos hs272]
                              rw [hs1]
                              have hsy2 : SymIs L U.data.toList j (m + 1) c2 (q + 1) (.int .i64 (s0 : Int)) := .inr ⟨s0, hs272, rfl, HHIT.out s0 hlk⟩
                              have HSY2 := Bx.mk hsy2; clear hsy2 hlk hs1
                              go_wp2
                              rw [← HLA.out]
                              go_roundw
                              case rel => exact ⟨m + 1, c2, q + 1, by omega, HC2.out, by have := HQ.out; omega, by omega, by go_num, rfl, HSY2.out, HBT3.out, HCA3.out, HBEL3.out⟩
                              case measure => simp only [lenS, bstr_size, SqP.binS_len]; omega
                    · obtain rfl : m = 15 := by omega
                      have e5 := HUN.out
                      have es : SqP.sym L U.data.toList j = (4, 0, q) := by
                        rw [HSY.out]
                        exact SqP.symGo_zero _ _ _ _ _
                      have e6 := U1.out
                      rw [es] at e6
                      rw [e6 (fun h => by cases h)] at e5
                      have E5 := Bx.mk e5.symm; clear e5 e6 es
                      go_wp2
                      go_ret2
                      exact ⟨by rw [HUU.out, E5.out]; rfl, HBEL.out⟩
                  · have hsneg : decide ((s0 : Int) < 0) = false := by simp
                    rw [hsy] at U1 U2 U3 U4 U5 U6 HBD
                    dsimp only at U1 U2 U3 U4 U5 U6 HBD
                    rw [HNB.out] at U3 U4 U5 U6
                    clear hsy
                    by_cases hs256 : s0 < 256
                    · have hmod : (s0 : Int) % 256 = (s0 : Int) := by omega
                      have hd256 : decide ((s0 : Int) < 256) = true := by simp; omega
                      have hcv := fun W => conv1 (P := Tryd.prog) (src := 28) (dst := 9) Tryd.underlying28 Tryd.underlying5 Tryd.underlying9 W s0 hs256
                      have hds : (bstr [UInt8.ofNat s0]).size ≤ 1 := by rw [bstr_size]; simp
                      have hadd := bstr_app out [UInt8.ofNat s0]
                      have e5 := HUN.out
                      rw [U2.out rfl hs256] at e5
                      have E5 := Bx.mk e5; clear e5
                      generalize bstr [UInt8.ofNat s0] = ds at *
                      go_wp2
                      go_roundw
                      case rel =>
                        exact ⟨f, q, out ++ [UInt8.ofNat s0], by rw [List.length_append]; simp; omega, hqn, by rw [List.length_append]; simp; omega, rfl, rfl, E5.out, HBT.out.below (Nat.le_refl _) ((Below.refl _ _).alloc (Nat.le_refl _) _), HCA.out.below (Nat.le_refl _) ((Below.refl _ _).alloc (Nat.le_refl _) _), HBEL.out.alloc HBEL.out.size _⟩
                      case measure => simp only [lenS, bstr_size, List.length_append]; simp; omega
                    · have hd256 : decide ((s0 : Int) < 256) = false := by simp; omega
                      obtain ⟨hb3, hb265, hx8⟩ := SqP.base_bd s0 hs0 hs256
                      obtain ⟨kk, hkk⟩ : ∃ kk : Nat, (s0 : Int) - 256 = (kk : Int) := ⟨s0 - 256, by omega⟩
                      have hkk15 : kk ≤ 15 := by omega
                      have HKK := Bx.mk (show s0 = 256 + kk by omega)
                      obtain ⟨bs, hbs⟩ : ∃ bs, SqP.base s0 = bs := ⟨_, rfl⟩
                      obtain ⟨x, hx⟩ : ∃ x, SqP.extra s0 = x := ⟨_, rfl⟩
                      rw [hbs] at hb3 hb265 U5 U6
                      rw [hx] at hx8 U3 U4 U5 U6
                      have HBS := Bx.mk hbs; clear hbs
                      have HX := Bx.mk hx; clear hx
                      go_upto_if 127 with fail
                      go_cut [18, 19] (fun b xv wx => b = .int .i64 (bs : Int) ∧ xv = .int .i64 (x : Int) ∧ wx = wr)
                      case first =>
                        clear U1 U2 U3 U4 U5 U6 HBD HUN
                        by_cases hk8 : 8 ≤ kk
                        · have hd8 : decide ((8 : Int) ≤ (kk : Int)) = true := by simp; omega
                          go_wp2
                          go_loop [18, 20] (fun b jv => ∃ i : Nat, 8 ≤ i ∧ i ≤ kk ∧ jv = .int .i64 (i : Int) ∧ b = .int .i64 (SqP.base (256 + i) : Int)) (fun _ jv => kk - (intOf jv).toNat)
                          case atStart => exact ⟨8, by omega, hk8, rfl, rfl⟩
                          case round =>
                            obtain ⟨i, hi8, hik, rfl, rfl⟩ := hrel
                            by_cases hik2 : i < kk
                            · have hdi : decide ((i : Int) < (kk : Int)) = true := by simp; omega
                              obtain ⟨sh, hsh⟩ : ∃ sh : Nat, (i : Int) - 7 = (sh : Int) := ⟨i - 7, by omega⟩
                              have hsh7 : sh ≤ 14 := by omega
                              have hp2 : 2 ^ sh ≤ 16384 := Nat.pow_le_pow_right (n := 2) (by omega) hsh7
                              have hbi := (SqP.base_bd (256 + i) (by omega) (by omega)).2.1
                              have HN := Bx.mk (base_next i hi8 (by omega))
                              rw [show i - 7 = sh from by omega] at HN
                              have hshl : (2 : Int) ^ sh = ((2 ^ sh : Nat) : Int) := by simp
                              generalize SqP.base (256 + i) = bi at *
                              obtain ⟨pw, hpw⟩ : ∃ pw, 2 ^ sh = pw := ⟨_, rfl⟩
                              rw [hpw] at HN hshl hp2
                              clear hpw
                              go_wp2
                              go_round
                              case rel => exact ⟨i + 1, by omega, by omega, by go_num, by rw [HN.out]; go_num⟩
                              case measure => simp [intOf]; omega
                            · have hik3 : i = kk := by omega
                              have hdi : decide ((i : Int) < (kk : Int)) = false := by simp; omega
                              have HE := Bx.mk (show SqP.base (256 + i) = bs by rw [hik3, ← HKK.out]; exact HBS.out)
                              have HXE := Bx.mk (show ((kk : Int) - 7) = (x : Int) by have h1 := extra_high kk hk8; rw [← HKK.out, HX.out] at h1; omega)
                              clear hik3
                              generalize SqP.base (256 + i) = bi at *
                              go_wp2
                              go_meet
                              exact ⟨by rw [HE.out], by rw [HXE.out], rfl⟩
                        · have hd8 : decide ((8 : Int) ≤ (kk : Int)) = false := by simp; omega
                          have HL1 := Bx.mk (base_low kk (by omega))
                          rw [← HKK.out, HBS.out, HX.out] at HL1
                          go_wp2
                          go_meet
                          exact ⟨by rw [HL1.out.1]; go_num, by rw [HL1.out.2]; rfl, rfl⟩
                      case rest =>
                        obtain ⟨rfl, rfl, rfl⟩ := hcut
                        by_cases hsh : nb < q + x + 15
                        · have e5 := HUN.out
                          rw [U3.out rfl hs256 hsh] at e5
                          have E5 := Bx.mk e5.symm; clear e5
                          go_wp2
                          go_ret2
                          exact ⟨by rw [HUU.out, E5.out]; rfl, HBEL.out⟩
                        · obtain ⟨bg, hbg1, hbg2, hbg3, hbg4⟩ := HBT.out (by omega)
                          have HLA := Bx.mk hbg1; clear hbg1
                          rw [HLA.out]
                          have hn1 := numPart_any U.data.toList nb bg q x
                          have hn2 := numPart_any U.data.toList nb bg (q + x) 15
                          have ha := SqP.numAt_lt U.data.toList q x
                          have ha2 : SqP.numAt U.data.toList q x < 256 := Nat.lt_of_lt_of_le ha (Nat.pow_le_pow_right (n := 2) (by omega) hx8)
                          clear ha
                          have hbb := SqP.numAt_bd U.data.toList (q + x) 15 (by omega)
                          generalize SqP.numAt U.data.toList q x = na at *
                          generalize SqP.numAt U.data.toList (q + x) 15 = nbk at *
                          have HN1 := Bx.mk hn1; clear hn1
                          have HN2 := Bx.mk hn2; clear hn2
                          have HCELLS := Bx.mk hbg4; clear hbg4
                          go_wp2_with fail
                          refine (HN1.out _ _ (by omega) (by omega) HCELLS.out).mono ?_
                          rintro e w3 ⟨rfl, rfl⟩
                          dsimp only
                          go_wp2_with fail
                          refine (HN2.out _ _ (by omega) (by omega) HCELLS.out).mono ?_
                          rintro e w3 ⟨rfl, rfl⟩
                          dsimp only
                          by_cases hrg : out.length < nbk + 1
                          · have e5 := HUN.out
                            rw [U4.out (by trivial) hs256 hsh hrg] at e5
                            have E5 := Bx.mk e5.symm; clear e5
                            go_wp2
                            go_ret2
                            exact ⟨by rw [HUU.out, E5.out]; rfl, HBEL.out⟩
                          · by_cases hlg : n - out.length < bs + na
                            · have e5 := HUN.out
                              rw [U5.out (by trivial) hs256 hsh hrg hlg] at e5
                              have E5 := Bx.mk e5.symm; clear e5
                              go_wp2
                              go_ret2
                              exact ⟨by rw [HUU.out, E5.out]; rfl, HBEL.out⟩
                            · have e5 := HUN.out
                              rw [U6.out (by trivial) hs256 hsh hrg hlg] at e5
                              have E5 := Bx.mk e5; clear e5
                              clear HCELLS HN1 HN2
                              go_wp2
                              go_loop [12, 182] (fun o kv => ∃ k : Nat, k ≤ bs + na ∧ kv = .int .i64 (k : Int) ∧ o = .string (bstr (SqP.cps out (nbk + 1) k))) (fun _ kv => bs + na - (intOf kv).toNat)
                              case atStart => exact ⟨0, by omega, rfl, by rw [SqP.cps_zero]⟩
                              case round =>
                                obtain ⟨k, hk, rfl, rfl⟩ := hrel
                                have hcl : (bstr (SqP.cps out (nbk + 1) k)).size = out.length + k := by rw [bstr_size, SqP.cps_len]
                                by_cases hk2 : k < bs + na
                                · have hdk : decide ((k : Int) < (bs : Int) + (na : Int)) = true := by simp; omega
                                  obtain ⟨fr, hfr⟩ : ∃ fr : Nat, ((out.length : Int) + (k : Int)) - ((nbk : Int) + 1) = (fr : Int) := ⟨out.length + k - (nbk + 1), by omega⟩
                                  have hadd := cps_string out (nbk + 1) k fr (by omega) (by omega)
                                  have hes : ((bstr (SqP.cps out (nbk + 1) k)).extract fr (fr + 1)).size ≤ 1 := by simp; omega
                                  have hfl : (fr : Int) < (out.length : Int) + (k : Int) := by omega
                                  generalize bstr (SqP.cps out (nbk + 1) k) = X at *
                                  have hslice : ∀ wx : World, (Instr.slice 9 (.string X) (some (.int .i64 (fr : Int))) (some (.int .i64 ((fr : Int) + 1))) none).run Tryd.prog wx = .ok (.string (X.extract fr (fr + 1))) wx := fun wx =>
                                    run_slice_string wx 9 X .i64 .i64 (fr : Int) ((fr : Int) + 1) Tryd.underlying9 (by omega) (by omega) (by rw [hcl]; omega)
                                  go_wp2
                                  go_round
                                  case rel => exact ⟨k + 1, by omega, by go_num, rfl⟩
                                  case measure => simp [intOf]; omega
                                · have hkk2 : k = bs + na := by omega
                                  have HKB := Bx.mk hkk2; clear hkk2
                                  have hdk : decide ((k : Int) < (bs : Int) + (na : Int)) = false := by simp; omega
                                  have hlc := SqP.cps_len out (nbk + 1) k
                                  have HLC := Bx.mk hlc; clear hlc
                                  go_wp2
                                  rw [← HLA.out]
                                  go_roundw
                                  case rel =>
                                    have e5 := E5.out
                                    rw [← HKB.out] at e5
                                    have hlc := HLC.out
                                    exact ⟨f, q + x + 15, SqP.cps out (nbk + 1) k, by omega, by omega, by omega, by go_num, rfl, e5, HBT.out, HCA.out, HBEL.out⟩
                                  case measure => simp only [lenS, bstr_size, HLC.out]; omega
              · have hdl : decide ((out.length : Int) < (n : Int)) = false := by simp; omega
                have e5 := HUN.out
                rw [SqP.unp_fin _ _ _ _ _ _ hlt, SqP.fin_eq] at e5
                have E5 := Bx.mk e5; clear e5
                go_wp2
                go_loop [11] (fun a => ∃ j' f' : Nat, a = .int .i64 (j' : Int) ∧ j' ≤ nb ∧ (j' % 8 ≠ 0 → 8 - j' % 8 ≤ f') ∧ SqP.pad U.data.toList f' j' = SqP.pad U.data.toList 8 j) (fun a => nb - (intOf a).toNat)
                case atStart => exact ⟨j, 8, rfl, hj, by omega, rfl⟩
                case round =>
                  obtain ⟨j', f', rfl, hj', hf', hpad⟩ := hrel
                  have HP := Bx.mk hpad; clear hpad
                  have hm : (j' : Int).tmod 8 = (j' : Int) % 8 := Int.tmod_eq_emod_of_nonneg (by omega)
                  by_cases hr8 : j' % 8 = 0
                  · have hne : ((j' : Int) % 8 != 0) = false := by rw [bne_eq_false_iff_eq]; omega
                    have hp := HP.out
                    rw [SqP.pad_end _ _ _ hr8] at hp
                    rw [← hp] at E5
                    clear hp
                    by_cases hfin : j' < nb
                    · have e5 := E5.out
                      simp only [HNB.out, if_pos hfin] at e5
                      have E6 := Bx.mk e5.symm; clear e5 E5
                      go_wp2
                      go_ret2
                      exact ⟨by rw [HUU.out, E6.out]; rfl, HBEL.out⟩
                    · have e5 := E5.out
                      simp only [HNB.out, if_neg hfin] at e5
                      have E6 := Bx.mk e5.symm; clear e5 E5
                      go_wp2
                      go_ret2
                      exact ⟨by rw [HUU.out, E6.out]; rfl, HBEL.out⟩
                  · have hne : ((j' : Int) % 8 != 0) = true := by rw [bne_iff_ne]; omega
                    obtain ⟨fg, rfl⟩ : ∃ g, f' = g + 1 := ⟨f' - 1, by have := hf' hr8; omega⟩
                    have hjl : j' < nb := by
                      have h8 : 8 * U.data.toList.length = nb := HNB.out
                      omega
                    have hb2 := SqP.bitAt_lt U.data.toList j'
                    have hgl : (j' + 1) % 8 ≠ 0 → 8 - (j' + 1) % 8 ≤ fg := by have := hf' hr8; omega
                    have HGL := Bx.mk hgl; clear hgl hf'
                    obtain ⟨bg, hbg1, hbg2, hbg3, hbg4⟩ := HBT.out (by omega)
                    have HLA := Bx.mk hbg1; clear hbg1
                    rw [HLA.out]
                    have hbc := hbg4 j' hjl
                    clear hbg4
                    have HPZ := Bx.mk (SqP.pad_zero U.data.toList fg j' hr8)
                    have HPO := Bx.mk (SqP.pad_one U.data.toList fg j' hr8)
                    generalize SqP.bitAt U.data.toList j' = y at *
                    by_cases hbz : y = 0
                    · subst hbz
                      have hpz := HPZ.out (by trivial)
                      rw [HP.out] at hpz
                      have HPZ2 := Bx.mk hpz; clear hpz HPZ HPO
                      go_wp2
                      go_round
                      case rel => exact ⟨j' + 1, fg, by go_num, by omega, HGL.out, HPZ2.out.symm⟩
                      case measure => simp [intOf]; omega
                    · have hbb : (((y : Nat) : Int) != 0) = true := by rw [bne_iff_ne]; omega
                      have hp := HP.out
                      rw [HPO.out hbz] at hp
                      rw [← hp] at E5
                      clear hp
                      have E6 := Bx.mk E5.out.symm; clear E5
                      go_wp2
                      go_ret2
                      exact ⟨by rw [HUU.out, E6.out]; rfl, HBEL.out⟩
          · rw [if_neg hkr] at hc1
            obtain rfl := hc1
            have hu := HU.out
            rw [if_neg hkr] at hu
            have HUU := Bx.mk hu; clear hu HU
            have HBELX := Bx.mk (HBEL.out.trans (HB1.out.mono HBEL.out.size))
            clear hkr
            dsimp only
            go_wp2
            go_ret2
            exact ⟨by rw [HUU.out]; rfl, HBELX.out⟩
end Go.Proofs.YtefklhjjhcobmaaDoor
