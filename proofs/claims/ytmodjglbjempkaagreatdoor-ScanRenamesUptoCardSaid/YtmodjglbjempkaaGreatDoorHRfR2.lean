/- References: the walk of the reference's readSide. -/
import Derived.Test.YtmodjglbjempkaaGreatDoorHRfR1
set_option linter.unusedSimpArgs false
set_option linter.unusedVariables false
namespace Go.Proofs.YtmodjglbjempkaaGreatDoor
open Go.RowKit
def sideA (x : RfP.Side) : Array Value := #[.int .i64 x.row, .int .i64 x.col, .bool x.ar, .bool x.ac]
def SidePost (w : World) (X : RfP.Side × Int) (e : Ending) (w' : World) : Prop := e = .returned (.tuple #[.agg (sideA X.1), .int .i64 X.2]) ∧ Below w.heap.size w w'
def RestPost (s r : List UInt8) (p : UInt8 → Bool) (ib : Nat) (w : World) (e : Ending) (w' : World) : Prop :=
  ∃ j : Nat, j ≤ s.length ∧ s.drop j = r.dropWhile p ∧ e = .returned (.string (bstr (r.takeWhile p))) ∧ Row w' ib 3 #[.int .i64 (j : Int)] ∧ Keep (· = ib) w w'
theorem take_rest (f : FuncId) (p : UInt8 → Bool) (HF : Bx (PredC f p)) (ef : ∀ args w, (callFunc f args).run Tryz.prog w = .ok (.enter f args) w) (s r : List UInt8) (i ib sb : Nat) (w : World) (hs : s.length ≤ 1000000) (hi : i ≤ s.length) (hr : s.drop i = r) (hib : sb ≠ ib) (hI : Row w ib 3 #[.int .i64 (i : Int)]) (hS : Row w sb 9 #[.string (bstr s)]) :
    Calls Tryz.prog 94 #[.func (Fn.func f) #[] #[], .pointer (some ⟨ib, 0, none⟩), .pointer (some ⟨sb, 0, none⟩)] w (RestPost s r p ib w) := by
  refine (take_any f p HF ef s i ib sb w hs hi hib hI hS).mono ?_
  rintro e w' ⟨j, h1, h2, h3, h4, h5⟩
  rw [hr] at h2 h3
  exact ⟨j, h1, h2.symm, h3, h4, h5⟩
/-- the blocks of readSide -/
structure SideSt (s : List UInt8) (w0 : World) (z o q : Nat) (W : World) (i : Nat) (A : Array Value) : Prop where
  S : Row W w0.heap.size 9 #[.string (bstr s)]
  Z : Row W z 68 #[.int .i64 0, .int .i64 0, .bool false, .bool false]
  O : Row W o 68 A
  I : Row W q 3 #[.int .i64 (i : Int)]
  B : Below w0.heap.size w0 W
theorem SideSt.take {s : List UInt8} {w0 : World} {z o q : Nat} {W W' : World} {i j : Nat} {A : Array Value} (h : SideSt s w0 z o q W i A) (h1 : w0.heap.size < z) (h2 : z < o) (h3 : o < q) (hk : Keep (· = q) W W') (hI : Row W' q 3 #[.int .i64 (j : Int)]) : SideSt s w0 z o q W' j A :=
  ⟨hk.row h.S (by omega), hk.row h.Z (by omega), hk.row h.O (by omega), hI, h.B.trans (hk.below h.B.size (fun k hk2 e => by omega))⟩
theorem SideSt.set {s : List UInt8} {w0 : World} {z o q : Nat} {W : World} {i : Nat} {A : Array Value} (h : SideSt s w0 z o q W i A) (h1 : w0.heap.size < z) (h2 : z < o) (h3 : o < q) (k : Nat) (v : Value) : SideSt s w0 z o q (W.setCell ⟨o, k, none⟩ v) i (A.setIfInBounds k v) :=
  ⟨h.S.other (by dsimp only; omega) v, h.Z.other (by dsimp only; omega) v, h.O.set k v, h.I.other (by dsimp only; omega) v, h.B.setCell (by dsimp only; omega) v⟩
theorem dol1_len (x : Nat) : ((x : Int) == 1) = (x == 1) := by
  rw [Bool.eq_iff_iff]; simp; omega
set_option maxRecDepth 100000 in
set_option maxHeartbeats 4000000 in
theorem readSide_tail {u0 u1 u5 u6 u7 u10 u11 u12 u13 u14 u15 u16 u17 u18 u19 u20 u21 u22 u23 u24 u25 u26 u27 u28 u29 u30 u31 u32 u33 u34 u35 u36 u37 u38 u39 u40 u41 u42 u43 u44 u45 u46 u47 u48 u49 u50 u51 u52 u53 u54 u55 u56 u57 u58 u59 u60 u61 u62 u63 u64 u65 u66 u67 u68 u69 u70 u71 u72 u73 u74 u75 u76 u77 u78 u79 u80 u81 u82 u83 u84 u85 u86 u87 u88 u89 u90 u91 u92 u93 u94 u95 u96 u97 u98 u99 u100 u101 u102 u103 u104 u105 u106 u107 u108 u109 u110 u111 u112 u113 u114 u115 u116 u117 u118 : Value} (L D : List UInt8) (ar ac : Bool) (w wc : World) (z o : Nat) (hz : w.heap.size ≤ z) (hzo : z < o) (X : RfP.Side × Int)
    (HRz : Bx (Row wc z 68 #[.int .i64 0, .int .i64 0, .bool false, .bool false])) (HO : Bx (Row wc o 68 #[.int .i64 (-1), .int .i64 (-1), .bool ar, .bool ac])) (HB : Bx (Below w.heap.size w wc))
    (hL7 : L.length ≤ 7) (hD10 : D.length ≤ 10) (hL : RfP.allL L = true) (hD : ∀ c ∈ D, RfP.isDigit c = true)
    (HX : Bx (X = (⟨RfP.sRow D, RfP.sCol L, ar, ac⟩, if 1073741824 ≤ RfP.sRow D ∨ 1073741824 ≤ RfP.sCol L then 2 else 1))) :
    Code.wp Tryz.prog ((Tryz.f41.body.bind (restOf 18)).getD .skip) (bodyPost Tryz.prog Tryz.f41 (SidePost w X)) ⟨#[u0, u1, .pointer (some ⟨z, 0, none⟩), .int .i64 0, .pointer (some ⟨o, 0, none⟩), u5, u6, u7, .string (bstr L), .string (bstr D), u10, u11, u12, u13, u14, u15, u16, u17, u18, u19, u20, u21, u22, u23, u24, u25, u26, u27, u28, u29, u30, u31, u32, u33, u34, u35, u36, u37, u38, u39, u40, u41, u42, u43, u44, u45, u46, u47, u48, u49, u50, u51, u52, u53, u54, u55, u56, u57, u58, u59, u60, u61, u62, u63, u64, u65, u66, u67, u68, u69, u70, u71, u72, u73, u74, u75, u76, u77, u78, u79, u80, u81, u82, u83, u84, u85, u86, u87, u88, u89, u90, u91, u92, u93, u94, u95, u96, u97, u98, u99, u100, u101, u102, u103, u104, u105, u106, u107, u108, u109, u110, u111, u112, u113, u114, u115, u116, u117, u118], []⟩ wc := by
  have hDz := bstr_size D
  have hDe := bstr_emp D
  have hLe := bstr_emp L
  have hlt := HO.out.lt
  conv => arg 2; whnf
  go_upto_if 86 with fail
  go_cut [] (fun wx => Row wx z 68 #[.int .i64 0, .int .i64 0, .bool false, .bool false] ∧ Row wx o 68 #[.int .i64 (RfP.sRow D), .int .i64 (-1), .bool ar, .bool ac] ∧ Below w.heap.size w wx)
  case first =>
    by_cases h0 : D = []
    · have he : D.isEmpty = true := by rw [h0]; rfl
      rw [he]
      have HR := Bx.mk (show RfP.sRow D = -1 by rw [h0]; rfl)
      clear h0
      go_wp2
      go_meet
      exact ⟨HRz.out, by rw [HR.out]; exact HO.out, HB.out⟩
    · have he : D.isEmpty = false := by simpa using h0
      rw [he]
      have HR := Bx.mk (show RfP.sRow D = (RfP.numD D : Int) - 1 by unfold RfP.sRow; rw [if_neg h0])
      have HDD := Bx.mk hD
      clear h0 hD
      have c0 : wc.cell? ⟨o, 0, none⟩ = some (.int .i64 (-1)) := HO.out.cell 0
      have f0 := HO.out.frozen 0
      go_wp2
      go_loop [11, 89] (fun n i => ∃ k : Nat, k ≤ D.length ∧ i = .int .i64 (k : Int) ∧ n = .int .i64 (RfP.numD (D.take k) : Int)) (fun _ i => D.length - (intOf i).toNat)
      case atStart => exact ⟨0, Nat.zero_le _, rfl, rfl⟩
      case round =>
        obtain ⟨k, hk, rfl, rfl⟩ := hrel
        have hb := RfP.numD_lt (D.take k) (fun c hc => HDD.out c (List.mem_of_mem_take hc))
        have hb2 : 10 ^ (D.take k).length ≤ 10 ^ 10 := Nat.pow_le_pow_right (by omega) (by rw [List.length_take]; omega)
        have hb3 : RfP.numD (D.take k) < 10000000000 := by omega
        clear hb hb2
        by_cases hlt2 : k < D.length
        · have HN := Bx.mk (take_next0 D k hlt2)
          have hat := bstr_at D k (by rw [hDz]; exact hlt2)
          have HS := Bx.mk (RfP.numD_snoc (D.take k) (D.getD k 0))
          have hdg := HDD.out _ (mem_getD D k hlt2)
          generalize D.getD k 0 = c at *
          obtain ⟨h48, h57⟩ : 48 ≤ c.toNat ∧ c.toNat ≤ 57 := by
            unfold RfP.isDigit at hdg
            simp only [Bool.and_eq_true, decide_eq_true_eq, UInt8.le_iff_toNat_le] at hdg
            simpa using hdg
          clear hdg
          go_wp2
          go_round
          case rel => exact ⟨k + 1, by omega, by go_num, by rw [HN.out, HS.out]; go_num⟩
          case measure => simp [intOf]; omega
        · obtain rfl : k = D.length := by omega
          rw [List.take_length] at hb3 ⊢
          go_wp2
          go_meet
          exact ⟨HRz.out.other (by dsimp only; omega) _, by rw [HR.out]; exact HO.out.set 0 _, HB.out.setCell (by dsimp only; omega) _⟩
  case rest =>
    clear HRz HO HB hDz hDe
    obtain ⟨hrz, ho, hb⟩ := hcut
    have HRz := Bx.mk hrz; clear hrz
    have HO := Bx.mk ho; clear ho
    have HB := Bx.mk hb; clear hb
    have hrb : RfP.sRow D < 10000000000 := by
      have hb := RfP.numD_lt D hD
      have hb2 : 10 ^ D.length ≤ 10 ^ 10 := Nat.pow_le_pow_right (by omega) hD10
      unfold RfP.sRow; split <;> omega
    generalize RfP.sRow D = row at *
    clear hD hD10
    have hlt := HO.out.lt
    apply_assumption
    go_upto_if 105 with fail
    go_cut [] (fun wx => Row wx z 68 #[.int .i64 0, .int .i64 0, .bool false, .bool false] ∧ Row wx o 68 #[.int .i64 row, .int .i64 (RfP.sCol L), .bool ar, .bool ac] ∧ Below w.heap.size w wx)
    case first =>
      by_cases h0 : L = []
      · have he : L.isEmpty = true := by rw [h0]; rfl
        rw [he]
        have HR := Bx.mk (show RfP.sCol L = -1 by rw [h0]; rfl)
        clear h0
        go_wp2
        go_meet
        exact ⟨HRz.out, by rw [HR.out]; exact HO.out, HB.out⟩
      · have he : L.isEmpty = false := by simpa using h0
        rw [he]
        have HR := Bx.mk (show RfP.sCol L = (RfP.val26 L : Int) - 1 by unfold RfP.sCol; rw [if_neg h0])
        have HC := Bx.mk (fun w => RColumn_any L w h0 hL7 hL)
        clear h0
        go_wp2_with (first | (go_at_call 97; refine (HC.out _).mono ?_; rintro e w1 ⟨rfl, hb1⟩; have HO1 := Bx.mk (HO.out.below hb1 hlt); have c0 : w1.cell? ⟨o, 1, none⟩ = some (.int .i64 (-1)) := HO1.out.cell 1; have f0 := HO1.out.frozen 1))
        go_meet
        exact ⟨(HRz.out.below hb1 HRz.out.lt).other (by dsimp only; omega) _, by rw [HR.out]; exact HO1.out.set 1 _, (HB.out.trans (hb1.mono HB.out.size)).setCell (by dsimp only; omega) _⟩
    case rest =>
      clear HRz HO HB hLe hL hL7 hlt
      obtain ⟨hrz, ho, hb⟩ := hcut
      have HRz := Bx.mk hrz; clear hrz
      have HO := Bx.mk ho; clear ho
      have HB := Bx.mk hb; clear hb
      generalize RfP.sCol L = col at *
      have co := fun o => HO.out.cell o
      have cz := fun o => HRz.out.cell o
      have fz := HRz.out.frozen
      apply_assumption
      by_cases h1 : 1073741824 ≤ row
      · have HX2 := Bx.mk (show X = (⟨row, col, ar, ac⟩, 2) by rw [HX.out, if_pos (Or.inl h1)])
        go_wp2
        exact bodyPost_ret (v := .tuple #[.agg #[.int .i64 row, .int .i64 col, .bool ar, .bool ac], .int .i64 2]) (by simp [results, Tryz.results41, go_sem, cz, fz]) rfl ⟨by rw [HX2.out]; rfl, Below.setAllB (by omega) [.int .i64 row, .int .i64 col, .bool ar, .bool ac] 0 _ HB.out⟩
      · by_cases h2 : 1073741824 ≤ col
        · have HX2 := Bx.mk (show X = (⟨row, col, ar, ac⟩, 2) by rw [HX.out, if_pos (Or.inr h2)])
          go_wp2
          exact bodyPost_ret (v := .tuple #[.agg #[.int .i64 row, .int .i64 col, .bool ar, .bool ac], .int .i64 2]) (by simp [results, Tryz.results41, go_sem, cz, fz]) rfl ⟨by rw [HX2.out]; rfl, Below.setAllB (by omega) [.int .i64 row, .int .i64 col, .bool ar, .bool ac] 0 _ HB.out⟩
        · have HX2 := Bx.mk (show X = (⟨row, col, ar, ac⟩, 1) by rw [HX.out, if_neg (by omega)])
          go_wp2
          exact bodyPost_ret (v := .tuple #[.agg #[.int .i64 row, .int .i64 col, .bool ar, .bool ac], .int .i64 1]) (by simp [results, Tryz.results41, go_sem, cz, fz]) rfl ⟨by rw [HX2.out]; rfl, Below.setAllB (by omega) [.int .i64 row, .int .i64 col, .bool ar, .bool ac] 0 _ HB.out⟩
set_option maxRecDepth 100000 in
set_option maxHeartbeats 4000000 in
theorem readSide_any (s : List UInt8) (w : World) (hs : s.length ≤ 1000000) : Calls Tryz.prog 41 #[.string (bstr s)] w (SidePost w (RfP.sideP s)) := by
  have hsz := bstr_size s
  go_enter Tryz.func41, Tryz.ntmps41
  go_wp2_with fail
  have HS0 := Bx.mk ((((Row.new w 9 #[.string (bstr s)]).alloc (.cells #[.int .i64 0, .int .i64 0, .bool false, .bool false] 68)).alloc (.cells #[.int .i64 (-1), .int .i64 (-1), .bool false, .bool false] 68)).alloc (.cells #[.int .i64 0] 3))
  have HZ0 := Bx.mk (((Row.new (w.alloc (.cells #[.string (bstr s)] 9)) 68 #[.int .i64 0, .int .i64 0, .bool false, .bool false]).alloc (.cells #[.int .i64 (-1), .int .i64 (-1), .bool false, .bool false] 68)).alloc (.cells #[.int .i64 0] 3))
  have HO0 := Bx.mk ((Row.new ((w.alloc (.cells #[.string (bstr s)] 9)).alloc (.cells #[.int .i64 0, .int .i64 0, .bool false, .bool false] 68)) 68 #[.int .i64 (-1), .int .i64 (-1), .bool false, .bool false]).alloc (.cells #[.int .i64 0] 3))
  have HI0 := Bx.mk (Row.new (((w.alloc (.cells #[.string (bstr s)] 9)).alloc (.cells #[.int .i64 0, .int .i64 0, .bool false, .bool false] 68)).alloc (.cells #[.int .i64 (-1), .int .i64 (-1), .bool false, .bool false] 68)) 3 #[.int .i64 0])
  have HB0 : Bx (Below w.heap.size w ((((w.alloc (.cells #[.string (bstr s)] 9)).alloc (.cells #[.int .i64 0, .int .i64 0, .bool false, .bool false] 68)).alloc (.cells #[.int .i64 (-1), .int .i64 (-1), .bool false, .bool false] 68)).alloc (.cells #[.int .i64 0] 3))) := ⟨((((Below.refl _ _).alloc (Nat.le_refl _) _).alloc (by simp) _).alloc (by simp; omega) _).alloc (by simp; omega) _⟩
  have hsa : ∀ (w : World) (o : Obj), (w.alloc o).heap.size = w.heap.size + 1 := fun w o => by simp
  rw [hsa] at HZ0
  rw [hsa, hsa] at HO0
  rw [hsa, hsa, hsa] at HI0
  clear hsa
  obtain ⟨W, hW⟩ : ∃ W, (((w.alloc (.cells #[.string (bstr s)] 9)).alloc (.cells #[.int .i64 0, .int .i64 0, .bool false, .bool false] 68)).alloc (.cells #[.int .i64 (-1), .int .i64 (-1), .bool false, .bool false] 68)).alloc (.cells #[.int .i64 0] 3) = W := ⟨_, rfl⟩
  rw [hW] at HS0 HZ0 HO0 HI0 HB0 ⊢
  clear hW
  obtain ⟨z, hz⟩ : ∃ z, w.heap.size + 1 = z := ⟨_, rfl⟩
  rw [hz] at HZ0 HO0 HI0 ⊢
  obtain ⟨o, ho⟩ : ∃ o, z + 1 = o := ⟨_, rfl⟩
  rw [ho] at HO0 HI0 ⊢
  obtain ⟨q, hq⟩ : ∃ q, o + 1 = q := ⟨_, rfl⟩
  rw [hq] at HI0 ⊢
  have h1 : w.heap.size < z := by omega
  have h2 : z < o := by omega
  have h3 : o < q := by omega
  have HT0 := Bx.mk (SideSt.mk HS0.out HZ0.out HO0.out HI0.out HB0.out)
  clear HS0 HZ0 HO0 HI0 HB0 hz ho hq
  have HC := Bx.mk (show RfP.sideC s = ⟨(s.takeWhile RfP.isDol).length, (s.dropWhile RfP.isDol).takeWhile RfP.isLetter, bif ((s.dropWhile RfP.isDol).takeWhile RfP.isLetter).isEmpty then 0 else (((s.dropWhile RfP.isDol).dropWhile RfP.isLetter).takeWhile RfP.isDol).length, (bif ((s.dropWhile RfP.isDol).takeWhile RfP.isLetter).isEmpty then (s.dropWhile RfP.isDol).dropWhile RfP.isLetter else ((s.dropWhile RfP.isDol).dropWhile RfP.isLetter).dropWhile RfP.isDol).takeWhile RfP.isDigit, (bif ((s.dropWhile RfP.isDol).takeWhile RfP.isLetter).isEmpty then (s.dropWhile RfP.isDol).dropWhile RfP.isLetter else ((s.dropWhile RfP.isDol).dropWhile RfP.isLetter).dropWhile RfP.isDol).dropWhile RfP.isDigit⟩ from rfl)
  have HLA := Bx.mk (RfP.tw_all RfP.isLetter (s.dropWhile RfP.isDol))
  refine (take_rest _ RfP.isDol ⟨dol1_pred⟩ ef_dol1 s s 0 q w.heap.size W hs (by omega) rfl (by omega) HT0.out.I HT0.out.S).mono ?_
  rintro e w1 ⟨i1, hi1, hd1, rfl, hI1, hk1⟩
  dsimp only
  have HT1 := Bx.mk (HT0.out.take h1 h2 h3 hk1 hI1)
  clear HT0 hk1 hI1
  have en := bstr_size (s.takeWhile RfP.isDol)
  have hnl : (s.takeWhile RfP.isDol).length ≤ s.length := (List.takeWhile_sublist _).length_le
  generalize s.takeWhile RfP.isDol = T1 at *
  generalize s.dropWhile RfP.isDol = r1 at *
  have HD1 := Bx.mk hd1; clear hd1
  go_wp2_with fail
  refine (take_rest _ RfP.isLetter ⟨letter_pred⟩ ef_letter s r1 i1 q w.heap.size w1 hs (by omega) HD1.out (by omega) HT1.out.I HT1.out.S).mono ?_
  rintro e w2 ⟨i2, hi2, hd2, rfl, hI2, hk2⟩
  dsimp only
  have HT2 := Bx.mk (HT1.out.take h1 h2 h3 hk2 hI2)
  clear HT1 hk2 hI2 hi1 HD1
  generalize r1.takeWhile RfP.isLetter = L at *
  generalize r1.dropWhile RfP.isLetter = r2 at *
  have HD2 := Bx.mk hd2; clear hd2
  go_upto_if 21 with fail
  obtain ⟨b1, hb1⟩ : ∃ b, ((T1.length : Int) == 1) = b := ⟨_, rfl⟩
  have HB1 := Bx.mk (show (T1.length == 1) = b1 by rw [← hb1, dol1_len])
  rw [bstr_emp]
  go_cut [3, 9] (fun c3 v wx => ∃ (i3 m : Nat) (D rest : List UInt8), c3 = .int .i64 0 ∧ v = .string (bstr D) ∧ s.drop i3 = rest ∧ i3 ≤ s.length ∧ RfP.sideC s = ⟨T1.length, L, m, D, rest⟩ ∧ RfP.bad1 ⟨T1.length, L, m, D, rest⟩ = false ∧ (∀ c ∈ D, RfP.isDigit c = true) ∧ SideSt s w z o q wx i3 #[.int .i64 (-1), .int .i64 (-1), .bool (bif L.isEmpty then b1 else m == 1), .bool (!L.isEmpty && b1)])
  case first =>
    rcases Bool.eq_false_or_eq_true L.isEmpty with hL | hL
    · rw [hL] at HC ⊢
      have HEL := Bx.mk hL; clear hL
      simp only [cond_true] at HC
      go_wp2_with fail
      refine (take_rest _ RfP.isDigit ⟨digit_pred⟩ ef_digit s r2 i2 q w.heap.size w2 hs (by omega) HD2.out (by omega) HT2.out.I HT2.out.S).mono ?_
      rintro e w3 ⟨i3, hi3, hd3, rfl, hI3, hk3⟩
      dsimp only
      have HT3 := Bx.mk (HT2.out.take h1 h2 h3 hk3 hI3)
      clear hk3 hI3 HT2
      have HDG := Bx.mk (RfP.tw_all RfP.isDigit r2)
      generalize r2.takeWhile RfP.isDigit = D at *
      generalize r2.dropWhile RfP.isDigit = rest at *
      have HD3 := Bx.mk hd3; clear hd3
      have c2 : w3.cell? ⟨o, 2, none⟩ = some (.bool false) := HT3.out.O.cell 2
      have f2 := HT3.out.O.frozen 2
      go_wp2
      go_meet
      exact ⟨i3, 0, D, rest, rfl, rfl, HD3.out, hi3, HC.out, by unfold RfP.bad1; simp, HDG.out, by rw [HEL.out]; exact HT3.out.set h1 h2 h3 2 _⟩
    · rw [hL] at HC ⊢
      have HEL := Bx.mk hL; clear hL
      simp only [cond_false] at HC
      have c3 : w2.cell? ⟨o, 3, none⟩ = some (.bool false) := HT2.out.O.cell 3
      have f3 := HT2.out.O.frozen 3
      go_wp2_with fail
      have HT3 := Bx.mk (HT2.out.set h1 h2 h3 3 (.bool b1))
      refine (take_rest _ RfP.isDol ⟨dol2_pred⟩ ef_dol2 s r2 i2 q w.heap.size _ hs (by omega) HD2.out (by omega) HT3.out.I HT3.out.S).mono ?_
      rintro e w4 ⟨i4, hi4, hd4, rfl, hI4, hk4⟩
      dsimp only
      have HT4 := Bx.mk (HT3.out.take h1 h2 h3 hk4 hI4)
      clear hk4 hI4 HT2 HT3 c3 f3
      have en2 := bstr_size (r2.takeWhile RfP.isDol)
      have hml : (r2.takeWhile RfP.isDol).length ≤ s.length := by
        have := (List.takeWhile_sublist RfP.isDol (l := r2)).length_le
        have h := congrArg List.length HD2.out
        rw [List.length_drop] at h; omega
      generalize r2.takeWhile RfP.isDol = T2 at *
      generalize r2.dropWhile RfP.isDol = r3 at *
      have HD4 := Bx.mk hd4; clear hd4
      go_wp2_with fail
      refine (take_rest _ RfP.isDigit ⟨digit_pred⟩ ef_digit s r3 i4 q w.heap.size w4 hs (by omega) HD4.out (by omega) HT4.out.I HT4.out.S).mono ?_
      rintro e w5 ⟨i5, hi5, hd5, rfl, hI5, hk5⟩
      dsimp only
      have HT5 := Bx.mk (HT4.out.take h1 h2 h3 hk5 hI5)
      clear hk5 hI5 HT4
      have HDG := Bx.mk (RfP.tw_all RfP.isDigit r3)
      generalize r3.takeWhile RfP.isDigit = D at *
      generalize r3.dropWhile RfP.isDigit = rest at *
      have HD5 := Bx.mk hd5; clear hd5
      have HT6 : Bx (SideSt s w z o q w5 i5 #[.int .i64 (-1), .int .i64 (-1), .bool false, .bool b1]) := ⟨HT5.out⟩
      clear HT5
      have hDe := bstr_emp D
      have co : ∀ k, w5.cell? ⟨o, k, none⟩ = #[Value.int .i64 (-1), .int .i64 (-1), .bool false, .bool b1][k]? := fun k => HT6.out.O.cell k
      have fo := HT6.out.O.frozen 2
      have cz := fun k => HT6.out.Z.cell k
      have fz := HT6.out.Z.frozen
      have HBD := Bx.mk (show RfP.bad1 ⟨T1.length, L, T2.length, D, rest⟩ = (decide (1 < T2.length) || (T2.length == 1 && D.isEmpty)) from rfl)
      have HX : RfP.bad1 ⟨T1.length, L, T2.length, D, rest⟩ = true → Bx (RfP.sideP s = (⟨-1, -1, false, b1⟩, 0)) := fun h => ⟨by
        unfold RfP.sideP RfP.sideV; rw [HC.out, if_pos h]; dsimp only; rw [HEL.out, HB1.out]; rfl⟩
      have HXX := Bx.mk HX; clear HX
      by_cases hm : 1 < T2.length
      · have HX := HXX.out (by rw [HBD.out]; simp [hm])
        go_wp2
        exact bodyPost_ret (v := .tuple #[.agg #[.int .i64 (-1), .int .i64 (-1), .bool false, .bool b1], .int .i64 0]) (by simp [results, Tryz.results41, go_sem, cz, fz]) rfl ⟨by rw [HX.out]; rfl, Below.setAllB (by omega) [.int .i64 (-1), .int .i64 (-1), .bool false, .bool b1] 0 _ HT6.out.B⟩
      · by_cases hm1 : T2.length = 1
        · have hq : ((T2.length : Int) == 1) = true := by rw [hm1]; rfl
          rcases Bool.eq_false_or_eq_true D.isEmpty with hd | hd
          · have HX := HXX.out (by rw [HBD.out, hm1, hd]; rfl)
            clear hm1
            go_wp2
            exact bodyPost_ret (v := .tuple #[.agg #[.int .i64 (-1), .int .i64 (-1), .bool false, .bool b1], .int .i64 0]) (by simp [results, Tryz.results41, go_sem, cz, fz]) rfl ⟨by rw [HX.out]; rfl, Below.setAllB (by omega) [.int .i64 (-1), .int .i64 (-1), .bool false, .bool b1] 0 _ HT6.out.B⟩
          · have HM1 := Bx.mk hm1; clear hm1
            have HDD := Bx.mk hd
            go_wp2
            go_meet
            exact ⟨i5, T2.length, D, rest, rfl, rfl, HD5.out, hi5, HC.out, by rw [HBD.out, HM1.out, HDD.out]; rfl, HDG.out, by rw [HEL.out, HM1.out]; exact HT6.out.set h1 h2 h3 2 _⟩
        · have hq : ((T2.length : Int) == 1) = false := by rw [beq_eq_false_iff_ne]; omega
          have HM1 := Bx.mk (show (T2.length == 1) = false from beq_eq_false_iff_ne.2 hm1); clear hm1
          have HM := Bx.mk hm
          go_wp2
          go_meet
          exact ⟨i5, T2.length, D, rest, rfl, rfl, HD5.out, hi5, HC.out, by rw [HBD.out, HM1.out, decide_eq_false HM.out]; rfl, HDG.out, by rw [HEL.out, HM1.out]; exact HT6.out.set h1 h2 h3 2 _⟩
  case rest =>
    clear HC HT2 HD2
    obtain ⟨i3, m, D, rest, rfl, rfl, hd3, hi3, hsc, hb1', hdg, ht⟩ := hcut
    have HC := Bx.mk hsc; clear hsc
    have HD3 := Bx.mk hd3; clear hd3
    have HBD1 := Bx.mk hb1'; clear hb1'
    have HDG := Bx.mk hdg; clear hdg
    have HT := Bx.mk ht; clear ht
    have HXD : Bx (RfP.sideP s = if RfP.bad2 ⟨T1.length, L, m, D, rest⟩ = true then (⟨-1, -1, bif L.isEmpty then b1 else m == 1, !L.isEmpty && b1⟩, 0) else (⟨RfP.sRow D, RfP.sCol L, bif L.isEmpty then b1 else m == 1, !L.isEmpty && b1⟩, if 1073741824 ≤ RfP.sRow D ∨ 1073741824 ≤ RfP.sCol L then 2 else 1)) := ⟨by
      unfold RfP.sideP RfP.sideV; rw [HC.out, if_neg (by rw [HBD1.out]; simp)]; dsimp only; rw [HB1.out]⟩
    have HB2 := Bx.mk (show RfP.bad2 ⟨T1.length, L, m, D, rest⟩ = (decide (1 < T1.length) || (!rest.isEmpty || ((L.isEmpty && D.isEmpty) || (decide (7 < L.length) || (decide (10 < D.length) || (!D.isEmpty && D.head? == some 48)))))) from rfl)
    generalize RfP.bad2 ⟨T1.length, L, m, D, rest⟩ = bad at *
    generalize (bif L.isEmpty then b1 else m == 1) = ar at *
    generalize (!L.isEmpty && b1) = ac at *
    apply_assumption
    have hrest : decide ((i3 : Int) < (s.length : Int)) = !rest.isEmpty := by
      rw [← HD3.out]
      rw [Bool.eq_iff_iff]; simp
    have hLe := bstr_emp L
    have hDe := bstr_emp D
    have hLz := bstr_size L
    have hDz := bstr_size D
    have ci : wc.cell? ⟨q, 0, none⟩ = some (.int .i64 (i3 : Int)) := HT.out.I.cell 0
    have cs : wc.cell? ⟨w.heap.size, 0, none⟩ = some (.string (bstr s)) := HT.out.S.cell 0
    obtain ⟨wy, hwy⟩ : ∃ wy : World, wc = wy := ⟨_, rfl⟩
    subst hwy
    go_upto_region 16 with fail
    go_cut [83] (fun v wx => v = .bool bad ∧ wx = wc)
    case first =>
      clear HXD HDG HC HBD1 HD3 HLA HB1 hb1
      by_cases c1 : 1 < T1.length
      · have C1 := Bx.mk c1
        go_wp2
        go_meet
        exact ⟨congrArg Value.bool (by rw [HB2.out]; simp [C1.out] <;> omega), rfl⟩
      have C1 := Bx.mk c1
      by_cases c2 : i3 < s.length
      · have C2 : Bx (rest.isEmpty = false) := ⟨by rw [decide_eq_true (by omega)] at hrest; simpa using hrest.symm⟩
        clear hrest
        go_wp2
        go_meet
        exact ⟨congrArg Value.bool (by rw [HB2.out]; simp [C2.out] <;> omega), rfl⟩
      have C2 : Bx (rest.isEmpty = true) := ⟨by rw [decide_eq_false (by omega)] at hrest; simpa using hrest.symm⟩
      clear hrest
      cases D with
      | nil =>
        clear hDz
        have hDe2 : (bstr []).toList.isEmpty = true := hDe
        clear hDe
        rcases Bool.eq_false_or_eq_true L.isEmpty with hl | hl
        · have HL := Bx.mk hl
          go_wp2
          go_meet
          exact ⟨congrArg Value.bool (by rw [HB2.out]; simp [C1.out, C2.out, HL.out] <;> omega), rfl⟩
        · have HL := Bx.mk hl
          by_cases c3 : 7 < L.length
          · have C3 := Bx.mk c3
            go_wp2
            go_meet
            exact ⟨congrArg Value.bool (by rw [HB2.out]; simp [C1.out, C2.out, HL.out, C3.out] <;> omega), rfl⟩
          · have C3 := Bx.mk c3
            go_wp2
            go_meet
            exact ⟨congrArg Value.bool (by rw [HB2.out]; simp [C1.out, C2.out, HL.out, C3.out] <;> omega), rfl⟩
      | cons d ds =>
        have hat := bstr_at (d :: ds) 0 (by rw [bstr_size]; simp)
        rw [show (d :: ds).getD 0 0 = d from rfl] at hat
        have hp : 0 < (bstr (d :: ds)).size := by rw [bstr_size]; simp
        have hDe2 : (bstr (d :: ds)).toList.isEmpty = false := hDe
        have HDE := Bx.mk hDe; clear hDe
        have H48 := Bx.mk (show (d == 48) = ((d.toNat : Int) == 48) by
          rw [Bool.eq_iff_iff]; simp
          constructor
          · intro e; rw [e]; rfl
          · intro e; exact UInt8.toNat_inj.1 (by rw [show (48 : UInt8).toNat = 48 from rfl]; omega))
        rcases Bool.eq_false_or_eq_true L.isEmpty with hl | hl
        all_goals
          have HL := Bx.mk hl
          by_cases c3 : 7 < L.length
          · have C3 := Bx.mk c3
            go_wp2
            go_meet
            exact ⟨congrArg Value.bool (by rw [HB2.out]; simp [HL.out, C1.out, C2.out, C3.out] <;> omega), rfl⟩
          have C3 := Bx.mk c3
          by_cases c4 : 10 < (d :: ds).length
          · have C4 := Bx.mk c4
            have C5 := Bx.mk (show 10 < ds.length + 1 by simp at c4; omega)
            have c5 : decide ((10 : Int) < (ds.length : Int) + 1) = true := by have := C5.out; simp; omega
            go_wp2
            go_meet
            exact ⟨congrArg Value.bool (by rw [HB2.out]; simp [HL.out, C1.out, C2.out, C3.out, C5.out] <;> omega), rfl⟩
          have C5 := Bx.mk (show ¬ 10 < ds.length + 1 by simp at c4 ⊢; omega)
          have c5 : decide ((10 : Int) < (ds.length : Int) + 1) = false := by have := C5.out; simp; omega
          clear c4
          rcases Bool.eq_false_or_eq_true ((d.toNat : Int) == 48) with h48 | h48
          · have H49 := Bx.mk (H48.out.trans h48)
            go_wp2
            go_meet
            exact ⟨congrArg Value.bool (by rw [HB2.out]; simp [HL.out, C1.out, C2.out, C3.out, C5.out, H49.out] <;> omega), rfl⟩
          · have H49 := Bx.mk (H48.out.trans h48)
            go_wp2
            go_meet
            exact ⟨congrArg Value.bool (by rw [HB2.out]; simp [HL.out, C1.out, C2.out, C3.out, C5.out, H49.out] <;> omega), rfl⟩
    case rest =>
      obtain ⟨rfl, rfl⟩ := hcut
      apply_assumption
      obtain ⟨wz, hwz⟩ : ∃ wz : World, wc = wz := ⟨_, rfl⟩
      subst hwz
      clear hrest hLe hDe hLz hDz ci cs
      have co : ∀ k, wc.cell? ⟨o, k, none⟩ = #[Value.int .i64 (-1), .int .i64 (-1), .bool ar, .bool ac][k]? := fun k => HT.out.O.cell k
      have cz := fun k => HT.out.Z.cell k
      have fz := HT.out.Z.frozen
      go_cut [3] (fun v wx => v = .int .i64 0 ∧ wx = wc ∧ bad = false)
      case first =>
        cases bad with
        | true =>
          have HX := Bx.mk (show RfP.sideP s = (⟨-1, -1, ar, ac⟩, 0) by rw [HXD.out, if_pos rfl])
          go_wp2
          exact bodyPost_ret (v := .tuple #[.agg #[.int .i64 (-1), .int .i64 (-1), .bool ar, .bool ac], .int .i64 0]) (by simp [results, Tryz.results41, go_sem, cz, fz]) rfl ⟨by rw [HX.out]; rfl, Below.setAllB (by omega) [.int .i64 (-1), .int .i64 (-1), .bool ar, .bool ac] 0 _ HT.out.B⟩
        | false =>
          go_wp2
          go_meet
          exact ⟨rfl, rfl, trivial⟩
      case rest =>
        obtain ⟨rfl, rfl, rfl⟩ := hcut
        have h9 := HB2.out
        have hlen : L.length ≤ 7 ∧ D.length ≤ 10 := by
          have h8 := h9.symm
          simp only [Bool.or_eq_false_iff, decide_eq_false_iff_not] at h8
          omega
        apply_assumption
        exact readSide_tail L D ar ac w wc z o (by omega) h2 (RfP.sideP s) ⟨HT.out.Z⟩ ⟨HT.out.O⟩ ⟨HT.out.B⟩ hlen.1 hlen.2 (by unfold RfP.allL; rw [List.all_eq_true]; exact HLA.out) HDG.out ⟨by rw [HXD.out, if_neg (by simp)]⟩
end Go.Proofs.YtmodjglbjempkaaGreatDoor
