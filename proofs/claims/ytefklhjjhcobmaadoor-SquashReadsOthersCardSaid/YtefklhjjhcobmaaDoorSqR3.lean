/- The walk of the reference's codesOf. -/
import Derived.Test.YtefklhjjhcobmaaDoorSqR2
import Derived.Test.YtefklhjjhcobmaaDoorSqR3a
import Derived.WalkLawsBesides
namespace Go.Proofs.YtefklhjjhcobmaaDoor
open Go.RowKit
def strs (l : List (List UInt8)) : Array Value := (l.map fun x => Value.string (bstr x)).toArray
def nils : Array Value := strs (List.replicate 272 [])
theorem makeStrs (w : World) : (Instr.makeSlice 41 (.int .i64 272) (.int .i64 272)).run Tryd.prog w = .ok (.slice (some ⟨w.heap.size, 0, none⟩) 272 272) (w.alloc (.cells nils 9)) := by kernel_rfl
def textsTo (L : List Nat) (n k : Nat) : List (List UInt8) := (List.range 272).map fun s => if (1 ≤ L.getD s 0 ∧ L.getD s 0 < n) ∨ (L.getD s 0 = n ∧ s < k) then SqP.codeT L s else []
/-- the last code as a text: of length len, its number v; the room used is P -/
def LastIs (P n : Nat) (last : List UInt8) : Prop := (last = [] ∧ P = 0) ∨ ∃ len v, 1 ≤ len ∧ len ≤ n ∧ last = SqP.binS len v ∧ P = (v + 1) * 2 ^ (15 - len)
theorem texts_start (L : List Nat) : nils = strs (textsTo L 1 0) := by
  unfold nils textsTo
  congr 1
  have e : (fun s => if (1 ≤ L.getD s 0 ∧ L.getD s 0 < 1) ∨ (L.getD s 0 = 1 ∧ s < 0) then SqP.codeT L s else []) = fun _ => [] := by
    funext s; rw [if_neg (by omega)]
  rw [e, List.map_const', List.length_range]
theorem texts_skip (L : List Nat) (n k : Nat) (h : L.getD k 0 ≠ n) : textsTo L n (k + 1) = textsTo L n k := by
  unfold textsTo
  apply List.map_congr_left
  intro s _
  by_cases e : s = k
  · subst e
    by_cases h2 : 1 ≤ L.getD s 0 ∧ L.getD s 0 < n
    · rw [if_pos (.inl h2), if_pos (.inl h2)]
    · rw [if_neg (by omega), if_neg (by omega)]
  · by_cases h2 : (1 ≤ L.getD s 0 ∧ L.getD s 0 < n) ∨ (L.getD s 0 = n ∧ s < k)
    · rw [if_pos h2, if_pos (by omega)]
    · rw [if_neg h2, if_neg (by omega)]
theorem texts_next (L : List Nat) (n : Nat) : textsTo L n 272 = textsTo L (n + 1) 0 := by
  unfold textsTo
  apply List.map_congr_left
  intro s hs
  have hs2 : s < 272 := by simpa using hs
  by_cases h0 : L.getD s 0 = 0
  · have e : SqP.codeT L s = [] := by unfold SqP.codeT; rw [if_pos h0]
    rw [e]; simp
  · by_cases h2 : L.getD s 0 < n + 1
    · rw [if_pos (by omega), if_pos (by omega)]
    · rw [if_neg (by omega), if_neg (by omega)]
theorem texts_all (L : List Nat) (h : ∀ s, L.getD s 0 ≤ 15) : textsTo L 16 0 = (List.range 272).map (SqP.codeT L) := by
  unfold textsTo
  apply List.map_congr_left
  intro s _
  have := h s
  by_cases h0 : L.getD s 0 = 0
  · have e : SqP.codeT L s = [] := by unfold SqP.codeT; rw [if_pos h0]
    rw [e]; simp
  · rw [if_pos (by omega)]
theorem texts_set (L : List Nat) (n k : Nat) (x : List UInt8) (hk : k < 272) (h : L.getD k 0 = n) (hx : SqP.codeT L k = x) : (strs (textsTo L n k)).setIfInBounds k (.string (bstr x)) = strs (textsTo L n (k + 1)) := by
  apply Array.ext_getElem?
  intro i
  rw [Array.getElem?_setIfInBounds]
  unfold strs textsTo
  rw [List.getElem?_toArray, List.getElem?_toArray, List.size_toArray, List.length_map, List.length_map, List.length_range, List.getElem?_map, List.getElem?_map, List.getElem?_map, List.getElem?_map]
  by_cases e : k = i
  · subst e
    rw [if_pos rfl, if_pos hk, List.getElem?_range hk]
    simp only [Option.map_some]
    rw [if_pos (by omega), hx]
  · rw [if_neg e]
    by_cases hi : i < 272
    · rw [List.getElem?_range hi]
      simp only [Option.map_some]
      by_cases h2 : (1 ≤ L.getD i 0 ∧ L.getD i 0 < n) ∨ (L.getD i 0 = n ∧ i < k)
      · rw [if_pos h2, if_pos (by omega)]
      · rw [if_neg h2, if_neg (by omega)]
    · rw [List.getElem?_eq_none (by simp; omega)]
      rfl
theorem code_at (L : List Nat) (n k v : Nat) (hn : 1 ≤ n) (hn2 : n ≤ 15) (h : L.getD k 0 = n) (hv : SqP.kr L (n - 1) + (SqP.pre L n k).length * 2 ^ (15 - n) = v * 2 ^ (15 - n)) : SqP.codeT L k = SqP.binS n v := by
  unfold SqP.codeT
  rw [if_neg (by omega), h]
  have e := SqP.kr_ca L (n - 1) (by omega)
  rw [e, show 15 - (n - 1) = (15 - n) + 1 from by omega, Nat.pow_succ, Nat.mul_comm (2 ^ (15 - n)) 2, ← Nat.mul_assoc, ← Nat.add_mul, Nat.mul_comm _ 2] at hv
  rw [Nat.eq_of_mul_eq_mul_right (Nat.two_pow_pos _) hv]
def CodesPost (L : List Nat) (w : World) (e : Ending) (w' : World) : Prop :=
  (if SqP.kr L 15 ≤ 32768 then e = .returned (.tuple #[.slice (some ⟨w.heap.size, 0, none⟩) 272 272, .bool true]) ∧ Row w' w.heap.size 9 (strs ((List.range 272).map (SqP.codeT L))) else e = .returned (.tuple #[.slice none 0 0, .bool false])) ∧ Below w.heap.size w w'
set_option maxRecDepth 100000 in
set_option maxHeartbeats 2000000 in
theorem codesOf_any (L : List Nat) (lb : Nat) (lcap : Nat) (w : World) (hL : L.length = 272) (hL15 : ∀ s, L.getD s 0 ≤ 15) (hr : ∀ k, k < 272 → w.cell? ⟨lb, k, none⟩ = some (.int .i64 ((L.getD k 0 : Nat) : Int))) (hlb : lb < w.heap.size) :
    Calls Tryd.prog 23 #[.slice (some ⟨lb, 0, none⟩) 272 lcap] w (CodesPost L w) := by
  have HR := Bx.mk hr; clear hr
  have hmk := makeStrs
  go_enter Tryd.func23, Tryd.ntmps23
  go_wp2
  go_loopw [5, 6, 7] (fun l p n wr => ∃ (k : Nat) (last : List UInt8), 1 ≤ k ∧ k ≤ 16 ∧ n = .int .i64 k ∧ p = .int .i64 (SqP.kr L (k - 1) : Int) ∧ l = .string (bstr last) ∧ LastIs (SqP.kr L (k - 1)) k last ∧ SqP.kr L (k - 1) ≤ 32768 ∧ Row wr w.heap.size 9 (strs (textsTo L k 0)) ∧ Below w.heap.size w wr) (fun _ _ n _ => 16 - (intOf n).toNat)
  case atStart =>
    refine ⟨1, [], by omega, by omega, rfl, rfl, rfl, .inl ⟨rfl, rfl⟩, by simp [SqP.kr], ?_, (Below.refl _ _).alloc (Nat.le_refl _) _⟩
    rw [← texts_start]
    exact Row.new _ _ _
  case round =>
    obtain ⟨n, last, hn1, hn16, rfl, rfl, rfl, hlast, hkr, hrow, hbel⟩ := hrel
    by_cases hlt : n ≤ 15
    · have hd15 : decide ((n : Int) ≤ 15) = true := by simp; omega
      obtain ⟨m, hm⟩ : ∃ m : Nat, IntKind.i64.wrap (15 - (n : Int)) = (m : Int) := ⟨15 - n, by rw [IntKind.wrap_i64]; omega⟩
      have hmn : m = 15 - n := by rw [IntKind.wrap_i64] at hm; omega
      have hm14 : m ≤ 14 := by omega
      have HMN := Bx.mk hmn; clear hmn
      have hsh := shl_one m hm14
      have h2m : 2 ^ m ≤ 16384 := Nat.pow_le_pow_right (n := 2) (by omega) hm14
      obtain ⟨p, hp⟩ : ∃ p, 2 ^ m = p := ⟨_, rfl⟩
      rw [hp] at hsh h2m
      have HP2 := Bx.mk hp; clear hp
      have HROW := Bx.mk hrow; clear hrow
      have HLAST := Bx.mk hlast; clear hlast
      go_wp2
      go_loopw [5, 6, 21] (fun l s i wr => ∃ (k P : Nat) (last : List UInt8), k ≤ 272 ∧ i = .int .i64 k ∧ P = SqP.kr L (n - 1) + (SqP.pre L n k).length * p ∧ s = .int .i64 (P : Int) ∧ l = .string (bstr last) ∧ LastIs P n last ∧ P ≤ 32768 ∧ Row wr w.heap.size 9 (strs (textsTo L n k)) ∧ Below w.heap.size w wr) (fun _ _ i _ => 272 - (intOf i).toNat)
      case atStart => exact ⟨0, _, last, by omega, rfl, by simp [SqP.pre], rfl, rfl, HLAST.out, hkr, HROW.out, hbel⟩
      case round =>
        clear HROW HLAST hbel hkr
        obtain ⟨k, P, last, hk, rfl, hP, rfl, rfl, hlast, hkr, hrow, hbel⟩ := hrel
        have HLAST := Bx.mk hlast; clear hlast
        have HROW := Bx.mk hrow; clear hrow
        have HP := Bx.mk hP; clear hP
        have HBEL := Bx.mk hbel; clear hbel
        by_cases hk2 : k < 272
        · have hcl : wr.cell? ⟨lb, k, none⟩ = some (.int .i64 ((L.getD k 0 : Nat) : Int)) := (HBEL.out.cell (p := ⟨lb, k, none⟩) hlb).trans (HR.out k hk2)
          by_cases he : L.getD k 0 = n
          · have heq : (((L.getD k 0 : Nat) : Int) != (n : Int)) = false := by rw [he]; exact bne_self_eq_false _
            have HPR := Bx.mk (SqP.pre_yes L n k he)
            have HTS := Bx.mk (fun x hx => texts_set L n k x hk2 he hx)
            have HCA := Bx.mk (fun v hv => code_at L n k v hn1 hlt he hv)
            generalize L.getD k 0 = x at *
            have HX := Bx.mk he; clear he
            by_cases hover : 32768 < P + p
            · go_wp2
              go_ret2
              refine ⟨?_, HBEL.out⟩
              have h1 := SqP.kr_over L n (k + 1) hn1 hlt (by omega)
              rw [HPR.out, List.length_append, Nat.add_mul, ← HMN.out, HP2.out] at h1
              have h2 := HP.out
              rw [if_neg (by simp at h1; omega)]
              rfl
            · have hnext : ∃ (len v : Nat), len ≤ n ∧ len ≤ 15 ∧ v * 2 ^ (15 - len) = P ∧ (v + 1 ≤ 2 ^ len) ∧ ((last = [] ∧ len = 0 ∧ v = 0) ∨ (1 ≤ len ∧ ∃ u, v = u + 1 ∧ last = SqP.binS len u)) := by
                rcases HLAST.out with ⟨h1, h2⟩ | ⟨len, u, h1, h2, h3, h4⟩
                · exact ⟨0, 0, by omega, by omega, by omega, by simp, .inl ⟨h1, rfl, rfl⟩⟩
                · refine ⟨len, u + 1, h2, by omega, h4.symm, ?_, .inr ⟨h1, u, rfl, h3⟩⟩
                  have hpos : 0 < p := by rw [← HP2.out]; exact Nat.two_pow_pos m
                  have h5 : (u + 1) * 2 ^ (15 - len) < 2 ^ len * 2 ^ (15 - len) := by
                    rw [← Nat.pow_add, show len + (15 - len) = 15 from by omega, ← h4]; omega
                  have := Nat.lt_of_mul_lt_mul_right h5
                  omega
              obtain ⟨len, v, hlen, hlen15, hv, hvl, hcase⟩ := hnext
              have HV := Bx.mk hv; clear hv
              have HVL := Bx.mk hvl; clear hvl
              rcases hcase with ⟨rfl, rfl, rfl⟩ | ⟨hlen1, u, rfl, rfl⟩
              · have hemp : (bstr []).toList.isEmpty = true := by rw [bstr_emp]; rfl
                go_wp2
                rw [show bstr [] = bstr (SqP.binS 0 0) from rfl]
                have HROWC := HROW
                have HBELC := HBEL
                have HVe := HV.out
                obtain ⟨len, hlen0⟩ : ∃ len, len = 0 := ⟨0, rfl⟩
                obtain ⟨v, hv0⟩ : ∃ v, v = 0 := ⟨0, rfl⟩
                rw [show SqP.binS 0 0 = SqP.binS len v by rw [hlen0, hv0]]
                replace HV : Bx (v * 2 ^ (15 - len) = P) := ⟨by rw [hlen0, hv0]; exact HVe⟩
                replace hlen : len ≤ n := by omega
                have HV0 := Bx.mk hv0; clear hv0
                have HV1 := Bx.mk hlen0; clear hlen0 HVe
                have hcsz : (strs (textsTo L n k)).size = 272 := by simp [strs, textsTo]
                have hco := (HROWC.out.cell k).trans (Array.getElem?_eq_getElem (by omega))
                generalize (strs (textsTo L n k))[k]'(by omega) = old at hco
                have hfo := HROWC.out.frozen k
                clear hcsz
                go_loop [5] (fun l => ∃ j : Nat, len + j ≤ n ∧ l = .string (bstr (SqP.binS (len + j) (v * 2 ^ j)))) (fun l => n - lenS l)
                case atStart => exact ⟨0, by omega, by rw [Nat.pow_zero, Nat.mul_one]; rfl⟩
                case round =>
                  obtain ⟨j, hj, rfl⟩ := hrel
                  have hsz2 : (bstr (SqP.binS (len + j) (v * 2 ^ j))).size = len + j := by rw [bstr_size, SqP.binS_len]
                  by_cases hfin : len + j < n
                  · have hadd : bstr (SqP.binS (len + j) (v * 2 ^ j)) ++ { data := #[48] } = bstr (SqP.binS (len + (j + 1)) (v * 2 ^ (j + 1))) := by
                      rw [bstr_add, Nat.pow_succ, ← Nat.mul_assoc, Nat.mul_comm _ 2, ← SqP.binS_shift]; rfl
                    go_wp2
                    go_round
                    case rel => exact ⟨j + 1, by omega, rfl⟩
                    case measure => simp only [lenS, bstr_size, SqP.binS_len]; omega
                  · have hjn : len + j = n := by omega
                    have hpw : 15 - len = j + (15 - n) := by omega
                    have hPP : P = v * 2 ^ j * p := by rw [← HV.out, hpw, Nat.pow_add, ← Nat.mul_assoc, ← HMN.out, HP2.out]
                    have HPP := Bx.mk hPP; clear hPP hpw
                    have HJN := Bx.mk hjn; clear hjn
                    go_wp2
                    go_roundw
                    case rel =>
                      refine ⟨k + 1, P + p, SqP.binS (len + j) (v * 2 ^ j), by omega, by go_num, ?_, by go_num, rfl, ?_, by omega, ?_, HBELC.out.setCell (Nat.le_refl _) _⟩
                      · rw [HPR.out, List.length_append, Nat.add_mul, ← Nat.add_assoc, ← HP.out]; simp
                      · refine .inr ⟨n, v * 2 ^ j, hn1, Nat.le_refl _, by rw [HJN.out], ?_⟩
                        rw [← HMN.out, HP2.out, Nat.add_mul, Nat.one_mul, ← HPP.out]
                      · refine (HROWC.out.set k _).same (HTS.out _ ?_)
                        have hcode := HCA.out (v * 2 ^ j) (by rw [← HMN.out, HP2.out, ← HP.out]; exact HPP.out)
                        rw [hcode, HJN.out]
                    case measure => simp [intOf]; omega
              · obtain ⟨wo, rfl⟩ : ∃ wo : World, wo = wr := ⟨_, rfl⟩
                have hemp : (bstr (SqP.binS len u)).toList.isEmpty = false := by
                  rw [bstr_emp, List.isEmpty_eq_false_iff]
                  intro e
                  have := SqP.binS_len len u
                  rw [e] at this
                  simp at this; omega
                have hsz : (bstr (SqP.binS len u)).size = len := by rw [bstr_size, SqP.binS_len]
                have hcv := fun (W : World) (z : ByteArray) => run_bytes_of_string (P := Tryd.prog) W 9 28 5 z Tryd.underlying9 Tryd.underlying28 Tryd.underlying5
                have hbr := BRow.new wo (bstr (SqP.binS len u)) (grownCap wo len 0 5)
                rw [hsz] at hbr
                have HBR := Bx.mk hbr; clear hbr
                have hbw : Below w.heap.size w (wo.alloc (.cells (bytesRow (bstr (SqP.binS len u)) (grownCap wo len 0 5)) 5 ((bytesRow (bstr (SqP.binS len u)) (grownCap wo len 0 5)).size, (bytesRow (bstr (SqP.binS len u)) (grownCap wo len 0 5)).size + 1))) := HBEL.out.alloc HBEL.out.size _
                have HBW := Bx.mk hbw; clear hbw
                have hwlt := HROW.out.lt
                have hrw := HROW.out.alloc (.cells (bytesRow (bstr (SqP.binS len u)) (grownCap wo len 0 5)) 5 ((bytesRow (bstr (SqP.binS len u)) (grownCap wo len 0 5)).size, (bytesRow (bstr (SqP.binS len u)) (grownCap wo len 0 5)).size + 1))
                have HRW := Bx.mk hrw; clear hrw
                go_wp2
                generalize hcap : grownCap wo len 0 5 = cap at *
                clear hcap
                go_loopw [11] (fun c wr => ∃ j : Nat, j < len ∧ u % 2 ^ j = 2 ^ j - 1 ∧ c = .int .i64 ((len : Int) - 1 - (j : Int)) ∧ (∃ z, BRow wr wo.heap.size (SqP.binS (len - j) (u / 2 ^ j) ++ List.replicate j 48) z) ∧ Row wr w.heap.size 9 (strs (textsTo L n k)) ∧ Below w.heap.size w wr) (fun c _ => (intOf c + 1).toNat)
                case atStart =>
                  refine ⟨0, by omega, by rw [Nat.pow_zero, Nat.mod_one], by simp, ⟨_, HBR.out.cast ?_⟩, HRW.out.drew, HBW.out.drew⟩
                  simp [bstr]
                case round =>
                  clear HBR HBW HRW HBEL HROW
                  obtain ⟨j, hj, hd, rfl, ⟨z, hb⟩, hrow, hbel⟩ := hrel
                  have HROW := Bx.mk hrow; clear hrow
                  have HBEL := Bx.mk hbel; clear hbel
                  rw [carry_split len j u hj] at hb
                  have hbl : (SqP.binS (len - 1 - j) (u / 2 ^ (j + 1))).length = len - 1 - j := SqP.binS_len _ _
                  have hcq := hb.cell (len - 1 - j) (by rw [List.length_append, hbl]; simp)
                  rw [List.getD_eq_getElem?_getD, List.getElem?_append_right (by omega), hbl, Nat.sub_self, List.getElem?_cons_zero, Option.getD_some] at hcq
                  have hfq := hb.frozen (len - 1 - j) (by rw [List.length_append, hbl]; simp)
                  obtain ⟨q, hq⟩ : ∃ q : Nat, (len : Int) - 1 - (j : Int) = (q : Int) := ⟨len - 1 - j, by omega⟩
                  have hqn : len - 1 - j = q := by omega
                  rw [hqn] at hcq hfq hb hbl
                  have HQN := Bx.mk hqn; clear hqn
                  have HB := Bx.mk hb; clear hb
                  have HBLN := Bx.mk hbl; clear hbl
                  have HD := Bx.mk hd; clear hd
                  have hql : q < len := by omega
                  by_cases hbit : u / 2 ^ j % 2 = 1
                  · have hdg : SqP.dig (u / 2 ^ j) = 49 := by unfold SqP.dig; rw [if_neg (by omega)]
                    rw [hdg] at hcq HB
                    have hcq2 : wr.cell? ⟨wo.heap.size, q, none⟩ = some (.int .u8 49) := hcq
                    clear hcq hdg
                    have HM := Bx.mk (carry_mod j u HD.out hbit)
                    have HJ := Bx.mk (carry_room len j u hj HM.out HVL.out)
                    clear hbit
                    go_wp2
                    go_roundw
                    case rel =>
                      refine ⟨j + 1, HJ.out, HM.out, ?_, ⟨z, ?_⟩, HROW.out.other (by simp; omega) _, HBEL.out.setCell (by have := HBEL.out.size; simp; omega) _⟩
                      · congr 1; omega
                      · rw [← carry_next len j u hj, HQN.out]
                        have h := HB.out.set 48
                        rw [HBLN.out] at h
                        exact h
                    case measure => simp [intOf]; omega
                  · have hdg : SqP.dig (u / 2 ^ j) = 48 := by unfold SqP.dig; rw [if_pos (by omega)]
                    rw [hdg] at hcq HB
                    have hcq2 : wr.cell? ⟨wo.heap.size, q, none⟩ = some (.int .u8 48) := hcq
                    clear hcq hdg
                    have h2 := HB.out.set 49
                    rw [HBLN.out] at h2
                    have h3 := h2.cast ((by rw [← HQN.out]; exact carry_last len j u hj HD.out (by omega)) : _ = SqP.binS len (u + 1))
                    have hstr := h3.string (P := Tryd.prog) (src := 28) (dst := 9) Tryd.underlying28 Tryd.underlying5 Tryd.underlying9 cap
                    rw [SqP.binS_len] at hstr
                    have hstr2 : (convert 28 9 (.slice (some ⟨wo.heap.size, 0, none⟩) len cap)).run Tryd.prog (wr.setCell ⟨wo.heap.size, q, none⟩ (.int .u8 49)) = .ok (.string (bstr (SqP.binS len (u + 1)))) (wr.setCell ⟨wo.heap.size, q, none⟩ (.int .u8 49)) := hstr
                    clear hstr h2 h3 hbit
                    have HROWC := Bx.mk (HROW.out.other (a := ⟨wo.heap.size, q, none⟩) (by simp; omega) (.int .u8 49))
                    have HBELC := Bx.mk (HBEL.out.setCell (p := ⟨wo.heap.size, q, none⟩) (by have := HBEL.out.size; simp; omega) (.int .u8 49))
                    go_wp2
                    obtain ⟨v, hv0⟩ : ∃ v, v = u + 1 := ⟨_, rfl⟩
                    rw [← hv0] at HV ⊢
                    clear hv0 hq HD HQN HB HBLN hql hfq hcq2 hstr2
                    have hcsz : (strs (textsTo L n k)).size = 272 := by simp [strs, textsTo]
                    have hco := (HROWC.out.cell k).trans (Array.getElem?_eq_getElem (by omega))
                    generalize (strs (textsTo L n k))[k]'(by omega) = old at hco
                    have hfo := HROWC.out.frozen k
                    clear hcsz
                    go_loop [5] (fun l => ∃ j : Nat, len + j ≤ n ∧ l = .string (bstr (SqP.binS (len + j) (v * 2 ^ j)))) (fun l => n - lenS l)
                    case atStart => exact ⟨0, by omega, by rw [Nat.pow_zero, Nat.mul_one]; rfl⟩
                    case round =>
                      obtain ⟨j, hj, rfl⟩ := hrel
                      have hsz2 : (bstr (SqP.binS (len + j) (v * 2 ^ j))).size = len + j := by rw [bstr_size, SqP.binS_len]
                      by_cases hfin : len + j < n
                      · have hadd : bstr (SqP.binS (len + j) (v * 2 ^ j)) ++ { data := #[48] } = bstr (SqP.binS (len + (j + 1)) (v * 2 ^ (j + 1))) := by
                          rw [bstr_add, Nat.pow_succ, ← Nat.mul_assoc, Nat.mul_comm _ 2, ← SqP.binS_shift]; rfl
                        go_wp2
                        go_round
                        case rel => exact ⟨j + 1, by omega, rfl⟩
                        case measure => simp only [lenS, bstr_size, SqP.binS_len]; omega
                      · have hjn : len + j = n := by omega
                        have hpw : 15 - len = j + (15 - n) := by omega
                        have hPP : P = v * 2 ^ j * p := by rw [← HV.out, hpw, Nat.pow_add, ← Nat.mul_assoc, ← HMN.out, HP2.out]
                        have HPP := Bx.mk hPP; clear hPP hpw
                        have HJN := Bx.mk hjn; clear hjn
                        go_wp2
                        go_roundw
                        case rel =>
                          refine ⟨k + 1, P + p, SqP.binS (len + j) (v * 2 ^ j), by omega, by go_num, ?_, by go_num, rfl, ?_, by omega, ?_, HBELC.out.setCell (Nat.le_refl _) _⟩
                          · rw [HPR.out, List.length_append, Nat.add_mul, ← Nat.add_assoc, ← HP.out]; simp
                          · refine .inr ⟨n, v * 2 ^ j, hn1, Nat.le_refl _, by rw [HJN.out], ?_⟩
                            rw [← HMN.out, HP2.out, Nat.add_mul, Nat.one_mul, ← HPP.out]
                          · refine (HROWC.out.set k _).same (HTS.out _ ?_)
                            have hcode := HCA.out (v * 2 ^ j) (by rw [← HMN.out, HP2.out, ← HP.out]; exact HPP.out)
                            rw [hcode, HJN.out]
                        case measure => simp [intOf]; omega
          · have heq : (((L.getD k 0 : Nat) : Int) != (n : Int)) = true := by rw [bne_iff_ne]; omega
            have HPR := Bx.mk (SqP.pre_no L n k he)
            have HTX := Bx.mk (texts_skip L n k he)
            generalize L.getD k 0 = x at *
            clear he
            go_wp2
            go_roundw
            case rel => exact ⟨k + 1, P, last, by omega, by go_num, by rw [HPR.out]; exact HP.out, rfl, rfl, HLAST.out, hkr, by rw [HTX.out]; exact HROW.out, HBEL.out⟩
            case measure => simp [intOf]; omega
        · obtain rfl : k = 272 := by omega
          have hd2 : decide ((272 : Int) < 272) = false := by decide
          go_wp2
          go_roundw
          case rel =>
            have e2 : n - 1 + 1 = n := by omega
            have hkrn : SqP.kr L n = P := by
              conv => lhs; rw [← e2]
              simp only [SqP.kr, SqP.cnt, SqP.syms]; rw [e2, hL, HP.out, ← HP2.out, HMN.out]
            refine ⟨n + 1, last, by omega, by omega, by go_num, ?_, rfl, ?_, ?_, ?_, HBEL.out⟩
            · rw [Nat.add_sub_cancel, hkrn]
            · rw [Nat.add_sub_cancel, hkrn]
              rcases HLAST.out with h | ⟨a, b, h1, h2, h3⟩
              · exact .inl h
              · exact .inr ⟨a, b, h1, by omega, h3⟩
            · rw [Nat.add_sub_cancel, hkrn]; exact hkr
            · rw [← texts_next L n]; exact HROW.out
          case measure => simp [intOf]; omega
    · obtain rfl : n = 16 := by omega
      have hd2 : decide ((16 : Int) ≤ 15) = false := by decide
      have HROW := Bx.mk hrow; clear hrow
      go_wp2
      go_ret2
      refine ⟨?_, hbel⟩
      rw [if_pos hkr]
      refine ⟨rfl, ?_⟩
      rw [← texts_all L hL15]
      exact HROW.out
end Go.Proofs.YtefklhjjhcobmaaDoor
