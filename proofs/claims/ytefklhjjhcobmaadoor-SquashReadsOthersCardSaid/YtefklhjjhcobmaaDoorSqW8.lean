/- The walk of Unpack. -/
import Derived.Test.YtefklhjjhcobmaaDoorSqW7
namespace Go.Proofs.YtefklhjjhcobmaaDoor
open Go.RowKit
def UnpackPost (s : ByteArray) (w : World) (e : Ending) (w' : World) : Prop :=
  e = .returned (.tuple #[.string ⟨(SqP.unpack s.data.toList).2.toArray⟩, .int .i64 ((SqP.unpack s.data.toList).1 : Int)]) ∧ Below w.heap.size w w'
theorem getD_data (s : ByteArray) (i : Nat) (h : i < s.size) : s.data.toList.getD i 0 = s[i] := by
  rw [List.getD_eq_getElem?_getD, List.getElem?_eq_getElem (by simpa using h)]; rfl
theorem extract_list (s : ByteArray) (a : Nat) : (s.extract a s.size).data.toList = s.data.toList.drop a := by
  simp [ByteArray.data_extract]
  rw [List.take_of_length_le]
  simp
theorem mk_list (s : ByteArray) : (⟨s.data.toList.toArray⟩ : ByteArray) = s := by simp
def lensTo (r : List UInt8) (k : Nat) : List Nat := (List.range 272).map fun i => if i < k then SqP.nib r i else 0
theorem lensTo_all (r : List UInt8) : lensTo r 272 = SqP.lens r := by
  unfold lensTo SqP.lens
  apply List.map_congr_left
  intro i hi
  rw [if_pos (by simpa using hi)]
theorem ints_lensTo_zero (r : List UInt8) : zeros272 = ints (lensTo r 0) := by
  unfold zeros272 lensTo
  have e : (fun i => if i < 0 then SqP.nib r i else 0) = fun _ => 0 := by
    funext i; rw [if_neg (by omega)]
  rw [e, List.map_const', List.length_range]
theorem ints_lensTo_set (r : List UInt8) (k : Nat) (hk : k < 272) : (ints (lensTo r k)).setIfInBounds k (.int .i64 (SqP.nib r k : Int)) = ints (lensTo r (k + 1)) := by
  apply Array.ext_getElem?
  intro i
  rw [Array.getElem?_setIfInBounds]
  unfold ints lensTo
  rw [List.map_map, List.map_map, List.getElem?_toArray, List.getElem?_toArray, List.size_toArray, List.length_map, List.length_range, List.getElem?_map, List.getElem?_map]
  by_cases e : k = i
  · subst e
    rw [if_pos rfl, if_pos hk, List.getElem?_range hk]
    simp
  · rw [if_neg e]
    by_cases hi : i < 272
    · rw [List.getElem?_range hi]
      simp only [Option.map_some, Function.comp_apply]
      by_cases h2 : i < k
      · rw [if_pos h2, if_pos (by omega)]
      · rw [if_neg h2, if_neg (by omega)]
    · rw [List.getElem?_eq_none (by simp; omega)]
      rfl
theorem lens_len (r : List UInt8) : (SqP.lens r).length = 272 := by simp [SqP.lens]
theorem ready1 {L : List Nat} {W wd w1 w : World} {T : ByteArray} {B : Nat} (hdec : DecAt L W W.heap.size 16 (SqP.all L 15) wd) (hW : W.heap = (w1.alloc (.cells (rdr T 0) 49)).heap) (hos : W.os = w1.os) (htp : W.tape = w1.tape) (hou : W.output = w1.output) (hB : Bases w1) (hb : Below B w w1) (hBl : B ≤ w1.heap.size) :
    Row wd w1.heap.size 49 (rdr T 0) ∧ Decoder L (w1.heap.size + 1) w1.heap.size wd ∧ Bases wd ∧ Below B w wd ∧ w1.heap.size ≠ 0 ∧ B ≤ w1.heap.size := by
  have hsz : W.heap.size = w1.heap.size + 1 := by rw [hW]; simp
  have hkW : Keep (fun _ => False) w1 W := ⟨hos, htp, hou, by omega, fun k hk _ => by rw [hW]; exact Below.heap_alloc _ _ _ hk⟩
  have hbl := hdec.below
  have hkd : Keep (fun _ => False) W wd := Keep.ofBelow hbl (fun k hk _ => hk)
  have hk := hkW.trans hkd
  obtain ⟨⟨lv, h1, h2⟩, _⟩ := hdec
  obtain ⟨la, lc, hv⟩ := owns_slice h2
  rw [hsz] at h1 h2
  refine ⟨?_, ⟨⟨la, lc, ?_, ?_, ?_⟩, by omega⟩, hB.keep hk (fun h => h), ?_, by have := hB.lt; omega, hBl⟩
  · refine Row.below (w := W) ?_ hbl (by omega)
    unfold Row; rw [hW]; exact Row.new w1 _ _
  · rw [← hv]; exact h1
  · rw [← hv]; exact h2
  · rw [← hv]; intro e; have := owns_below h2 _ e; omega
  · exact hb.trans (hk.below hBl (fun _ _ h => h))
theorem ready2 {L : List Nat} {W wd w1 w : World} {B : Nat} (T : ByteArray) (hdec : DecAt L W W.heap.size 16 (SqP.all L 15) wd) (hW : W.heap = w1.heap) (hos : W.os = w1.os) (htp : W.tape = w1.tape) (hou : W.output = w1.output) (hB : Bases w1) (hb : Below B w w1) (hBl : B ≤ w1.heap.size) :
    Row (wd.alloc (.cells (rdr T 0) 49)) wd.heap.size 49 (rdr T 0) ∧ Decoder L w1.heap.size wd.heap.size (wd.alloc (.cells (rdr T 0) 49)) ∧ Bases (wd.alloc (.cells (rdr T 0) 49)) ∧ Below B w (wd.alloc (.cells (rdr T 0) 49)) ∧ wd.heap.size ≠ 0 ∧ B ≤ wd.heap.size := by
  have hkW : Keep (fun _ => False) w1 W := ⟨hos, htp, hou, by rw [hW]; omega, fun k hk _ => by rw [hW]⟩
  have hbl := hdec.below
  have hkd : Keep (fun _ => False) W wd := Keep.ofBelow hbl (fun k hk _ => hk)
  have hk := (hkW.trans hkd).alloc (.cells (rdr T 0) 49)
  obtain ⟨⟨lv, h1, h2⟩, _⟩ := hdec
  obtain ⟨la, lc, hv⟩ := owns_slice h2
  rw [hW] at h1 h2
  refine ⟨Row.new _ _ _, ⟨⟨la, lc, ?_, ?_, ?_⟩, ?_⟩, hB.keep hk (fun h => h), hb.trans (hk.below hBl (fun _ _ h => h)), by have := hB.lt; have := hkW.size; have := hkd.size; omega, by have := hkW.size; have := hkd.size; omega⟩
  · rw [← hv]; exact h1.alloc _
  · rw [← hv]; exact h2.alloc _
  · rw [← hv]; intro e
    rcases h2.2 with ⟨h3, _⟩ | ⟨g, cap, cur, h3, _, hg, _⟩
    · rw [h3] at e; cases e
    · rw [h3] at e
      have e2 : g = wd.heap.size := by injection e
      have := Row.lt (w := wd) (b := g) (t := 3) (cs := cur) hg
      omega
  · have := h1.lt; omega
set_option maxRecDepth 100000 in
set_option maxHeartbeats 8000000 in
theorem unpack_any (s : ByteArray) (w : World) (hs : s.size ≤ 1000000000) (hB : Bases w) :
    Calls Tryd.prog 8 #[.string s] w (UnpackPost s w) := by
  have hlen := len_data s
  have hmk := make272
  by_cases h5 : s.size < 5
  · have HU := Bx.mk (show SqP.unpack s.data.toList = (11, []) by unfold SqP.unpack; rw [if_pos (by omega)])
    clear hlen
    go_enter Tryd.func8, Tryd.ntmps8
    go_wp2
    go_ret2
    refine ⟨?_, Below.refl _ _⟩
    rw [HU.out]; rfl
  · have HLEN := Bx.mk hlen; clear hlen
    have g0 := Bx.mk (getD_data s 0 (by omega))
    have g1 := Bx.mk (getD_data s 1 (by omega))
    have g2 := Bx.mk (getD_data s 2 (by omega))
    have g3 := Bx.mk (getD_data s 3 (by omega))
    have g4 := Bx.mk (getD_data s 4 (by omega))
    have n0 : 0 < s.size := by omega
    have n1 : 1 < s.size := by omega
    have n2 : 2 < s.size := by omega
    have n3 : 3 < s.size := by omega
    have n4 : 4 < s.size := by omega
    have q0 : (0 : Int) < (s.size : Int) := by omega
    have q1 : (1 : Int) < (s.size : Int) := by omega
    have q2 : (2 : Int) < (s.size : Int) := by omega
    have q3 : (3 : Int) < (s.size : Int) := by omega
    have b0 := s[0].toNat_lt
    have b1 := s[1].toNat_lt
    have b2 := s[2].toNat_lt
    have b3 := s[3].toNat_lt
    have b4 := s[4].toNat_lt
    obtain ⟨n, hor⟩ : ∃ n : Nat, bits .or .i64 (bits .or .i64 (bits .or .i64 ((s[0].toNat : Int) * 16777216) ((s[1].toNat : Int) * 65536)) ((s[2].toNat : Int) * 256)) (s[3].toNat : Int) = (n : Int) := ⟨_, Bi.or4 _ _ _ _ b0 b1 b2 b3⟩
    have hnn : SqP.be4 s.data.toList = n := by
      rw [Bi.or4 _ _ _ _ b0 b1 b2 b3] at hor
      have h : s[0].toNat * 16777216 + s[1].toNat * 65536 + s[2].toNat * 256 + s[3].toNat = n := by omega
      unfold SqP.be4
      rw [g0.out, g1.out, g2.out, g3.out]; exact h
    have hnl : n < 4294967296 := hnn ▸ SqP.be4_lt _
    have HNN := Bx.mk hnn; clear hnn
    have HEX := Bx.mk (extract_list s 5)
    have htl : (s.extract 5 s.size).size = s.size - 5 := by simp
    have HTL := Bx.mk htl; clear htl
    have HUN := Bx.mk (show SqP.unpack s.data.toList = if 1 < s[4].toNat then (8, []) else if s[4].toNat = 0 then if (s.extract 5 s.size).size < n then (11, []) else if n < (s.extract 5 s.size).size then (4, []) else (0, (s.extract 5 s.size).data.toList) else SqP.body (s.extract 5 s.size).data.toList n by
      unfold SqP.unpack
      rw [if_neg (by rw [HLEN.out]; omega), g4.out, HNN.out, ← HEX.out, len_data])
    go_enter Tryd.func8, Tryd.ntmps8
    go_wp2
    go_quiet (fail)
    go_wp2_with fail
    · go_ret2
      refine ⟨?_, below_drewN (Below.refl _ _) _⟩
      rw [HUN.out, if_pos (by omega)]; rfl
    · go_ret2
      refine ⟨?_, below_drewN (Below.refl _ _) _⟩
      rw [HUN.out, if_neg (by omega), if_pos (by omega), if_pos (by rw [HTL.out]; omega)]; rfl
    · go_ret2
      refine ⟨?_, below_drewN (Below.refl _ _) _⟩
      rw [HUN.out, if_neg (by omega), if_pos (by omega), if_neg (by rw [HTL.out]; omega), if_pos (by rw [HTL.out]; omega)]; rfl
    · go_ret2
      refine ⟨?_, below_drewN (Below.refl _ _) _⟩
      rw [HUN.out, if_neg (by omega), if_pos (by omega), if_neg (by rw [HTL.out]; omega), if_neg (by rw [HTL.out]; omega)]; rfl
    · go_ret2
      refine ⟨?_, below_drewN (Below.refl _ _) _⟩
      rw [HUN.out, if_neg (by omega), if_neg (by omega)]
      unfold SqP.body
      rw [if_pos (by rw [len_data, HTL.out]; omega)]; rfl
    · have ht136 : 136 ≤ (s.extract 5 s.size).size := by rw [HTL.out]; omega
      have hts : (s.extract 5 s.size).size ≤ 1000000000 := by rw [HTL.out]; omega
      have HU := Bx.mk (show SqP.unpack s.data.toList = if SqP.kr (SqP.lens (s.extract 5 s.size).data.toList) 15 ≤ 32768 then SqP.unp (SqP.lens (s.extract 5 s.size).data.toList) ((s.extract 5 s.size).data.toList.drop 136) n (n + 1) 0 [] else (4, []) by
        rw [HUN.out, if_neg (by omega), if_neg (by omega)]
        unfold SqP.body
        rw [if_neg (by rw [len_data]; omega)])
      clear HUN HEX HTL g0 g1 g2 g3 g4
      generalize s.extract 5 s.size = t at *
      clear hor
      have hrow0 : Row ((w.alloc (Obj.cells zeros272 3)).drewN nq) w.heap.size 3 (ints (lensTo t.data.toList 0)) := by
        rw [← ints_lensTo_zero]; exact (Row.new _ _ _).drewN _
      have hbel0 : Below w.heap.size w ((w.alloc (Obj.cells zeros272 3)).drewN nq) := below_drewN ((Below.refl _ _).alloc (Nat.le_refl _) _) _
      have HROW0 := Bx.mk hrow0; clear hrow0
      have HBEL0 := Bx.mk hbel0; clear hbel0
      go_loopw [67] (fun i wr => ∃ k : Nat, k ≤ 272 ∧ i = .int .i64 k ∧ Row wr w.heap.size 3 (ints (lensTo t.data.toList k)) ∧ Below w.heap.size w wr) (fun i _ => 272 - (intOf i).toNat)
      case atStart => exact ⟨0, by omega, rfl, HROW0.out, HBEL0.out⟩
      case round =>
        clear HROW0 HBEL0
        obtain ⟨k, hk, rfl, hrow, hbel⟩ := hrel
        have HBEL := Bx.mk hbel; clear hbel
        by_cases hk2 : k < 272
        · have hd272 : decide ((k : Int) < 272) = true := by simp; omega
          have hlen : (lensTo t.data.toList k).length = 272 := by simp [lensTo]
          have hcl : wr.cell? ⟨w.heap.size, k, none⟩ = some (.int .i64 (((lensTo t.data.toList k).getD k 0 : Nat) : Int)) := (hrow.cell k).trans (ints_get _ _ (by omega))
          generalize (lensTo t.data.toList k).getD k 0 = old at hcl
          have hfr := hrow.frozen k
          have HROW := Bx.mk hrow; clear hrow
          obtain ⟨q, hq⟩ : ∃ q : Nat, (k : Int) / 2 = (q : Int) := ⟨k / 2, by omega⟩
          have hqt : q < t.size := by omega
          obtain ⟨m, hm⟩ : ∃ m : Nat, (k : Int) % 2 = (m : Int) := ⟨k % 2, by omega⟩
          have hm2 : m ≤ 1 := by omega
          obtain ⟨sh, hsh⟩ : ∃ sh : Nat, (4 : Int) - 4 * (m : Int) = (sh : Int) := ⟨4 - 4 * m, by omega⟩
          have hsh4 : sh ≤ 4 := by omega
          have hby := t[q].toNat_lt
          have hand := Bi.and15 t[q].toNat sh (by omega)
          have hnib : SqP.nib t.data.toList k = t[q].toNat / 2 ^ sh % 16 := by
            have e1 : k / 2 = q := by omega
            have e2 : 4 - 4 * (k % 2) = sh := by omega
            unfold SqP.nib
            rw [e1, e2, getD_data t q hqt]
          rw [← hnib] at hand
          have HSET := Bx.mk (ints_lensTo_set t.data.toList k hk2)
          clear hnib
          generalize SqP.nib t.data.toList k = y at *
          go_wp2
          go_roundw
          case rel => exact ⟨k + 1, by omega, by go_num, (HROW.out.set k _).same HSET.out, HBEL.out.setCell (Nat.le_refl _) _⟩
          case measure => simp [intOf]; omega
        · have hk272 : k = 272 := by omega
          have hd272 : decide ((k : Int) < 272) = false := by simp; omega
          rw [hk272, lensTo_all] at hrow
          clear hk272
          go_wp2_with fail
          refine (codes_any _ _ _ (lens_len _) hrow).mono ?_
          rintro e w1 ⟨rfl, hb1⟩
          dsimp only
          have hrow1 := hrow.below hb1 hrow.lt
          have HBEL1 := Bx.mk (HBEL.out.trans (hb1.mono HBEL.out.size))
          have HSZ := Bx.mk hb1.size
          clear hb1
          by_cases hkr : SqP.kr (SqP.lens t.data.toList) 15 ≤ 32768
          · have hkd : decide (SqP.kr (SqP.lens t.data.toList) 15 ≤ 32768) = true := by simp; exact hkr
            have h2 := HU.out
            rw [if_pos hkr] at h2
            have HU2 := Bx.mk h2; clear h2 HU
            rw [hkd]
            clear hkd hkr
            go_wp2_with fail
            have HB1 := Bx.mk (Bases.keep (S := fun _ => False) hB (Keep.ofBelow HBEL1.out (fun k hk _ => hk)) (fun h => h))
            have hTs : (t.extract 136 t.size).size ≤ 1000000000 := by simp; omega
            have hBl := HBEL1.out.size
            have hTl := extract_list t 136
            have HTL2 := Bx.mk hTl; clear hTl
            obtain ⟨F, hF⟩ : ∃ F, SqP.unp (SqP.lens t.data.toList) (t.extract 136 t.size).data.toList n (n + 1) 0 [] = F := ⟨_, rfl⟩
            have HF := Bx.mk hF; clear hF
            go_region_with (first | (go_at_call 20; refine (newDecoder_any (SqP.lens t.data.toList) w.heap.size _ (lens_len _) (by first | exact hrow1 | exact hrow1.alloc _)).mono ?_; rintro e wd ⟨rfl, hdec⟩; dsimp only; (first | ((obtain ⟨y1, y2, y3, y4, y5, y6⟩ := ready1 (T := t.extract 136 t.size) (w1 := w1) (w := w) hdec rfl rfl rfl rfl HB1.out HBEL1.out hBl)) | ((obtain ⟨y1, y2, y3, y4, y5, y6⟩ := ready2 (t.extract 136 t.size) (w1 := w1) (w := w) hdec rfl rfl rfl rfl HB1.out HBEL1.out hBl))); clear hdec) | (go_at_call 19; (refine (unpacked_any (SqP.lens t.data.toList) (t.extract 136 t.size) 0 _ _ n _ (lens_len _) hTs (by omega) (Nat.zero_le _) y1 y2 y3 y5).mono ?_); rintro e w9 ⟨z1, he⟩; rw [HF.out] at he; subst he; dsimp only))
            all_goals
              go_wp2
              go_ret2
              refine ⟨?_, y4.trans (z1.below y4.size (fun k hk e => by omega))⟩
              rw [HU2.out, ← HTL2.out, HF.out]
              rfl
          · have hkd : decide (SqP.kr (SqP.lens t.data.toList) 15 ≤ 32768) = false := by simp; omega
            have h2 := HU.out
            rw [if_neg hkr] at h2
            have HU2 := Bx.mk h2; clear h2 HU
            rw [hkd]
            clear hkd hkr
            go_wp2
            go_ret2
            refine ⟨?_, HBEL1.out⟩
            rw [HU2.out]; rfl
end Go.Proofs.YtefklhjjhcobmaaDoor
