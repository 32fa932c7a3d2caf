/- References: the walk of Parse, behind the test of the form. -/
import Derived.Test.YtmodjglbjempkaaGreatDoorHRfW10
import Derived.Test.YtmodjglbjempkaaGreatDoorHMa
set_option linter.unusedSimpArgs false
set_option linter.unusedVariables false
namespace Go.Proofs.YtmodjglbjempkaaGreatDoor
open Go.RowKit
def firstReg : Code → Option Nat
  | .region k _ _ => some k
  | .seq a b => match firstReg a with
    | some k => some k
    | none => firstReg b
  | .loop c => firstReg c
  | .block _ c => firstReg c
  | .scope c => firstReg c
  | _ => none
def restOf (n : Nat) : Code → Option Code
  | .seq a b => if firstReg b = some n then some b else match restOf n a with
    | some c => some c
    | none => restOf n b
  | .block _ c => restOf n c
  | .scope c => restOf n c
  | _ => none
def RefPost (w : World) (X : RfP.Ref × Int) (e : Ending) (w' : World) : Prop := e = .returned (.tuple #[.agg (refC X.1), .int .i64 X.2]) ∧ Below w.heap.size w w'
set_option maxRecDepth 100000 in
set_option maxHeartbeats 8000000 in
theorem Parse_tail {u0 u1 u5 u6 u7 u8 u11 u13 u15 u16 u17 u18 u19 u20 u21 u22 u23 u24 u25 u26 u27 u28 u29 u30 u31 u32 u33 u34 u35 u36 u37 u38 u39 u40 u41 u42 u43 u44 u45 u46 u47 u48 u49 u50 u51 u52 u53 u54 u55 u56 u57 u58 u59 u60 u61 u62 u63 u64 u65 u66 u67 u68 u69 u70 u71 u72 u73 u74 u75 u76 u77 u78 u79 u80 u81 u82 u83 u84 u85 u86 u87 u88 u89 u90 u91 u92 u93 u94 u95 u96 u97 u98 u99 u100 u101 u102 u103 u104 u105 u106 u107 u108 u109 u110 u111 u112 u113 u114 u115 u116 u117 u118 u119 u120 u121 u122 u123 u124 u125 u126 u127 u128 u129 u130 u131 u132 u133 u134 u135 u136 u137 u138 u139 u140 u141 u142 u143 u144 u145 u146 u147 u148 : Value} (t1 : List UInt8) (two whole : Bool) (aL aD : List UInt8) (aac aar : Bool) (cL cD : List UInt8) (cac car : Bool) (w wc : World) (p : Nat) (X : RfP.Ref × Int) (hpl : w.heap.size < p)
    (HRz : Bx (Row wc w.heap.size 35 (refC RfP.zeroR))) (HR10 : Bx (Row wc p 101 (corC ⟨aL, aD, aac, aar⟩))) (HR12 : Bx (Row wc (p + 1) 101 (corC ⟨cL, cD, cac, car⟩))) (HB : Bx (Below w.heap.size w wc))
    (hga : RfP.Good ⟨aL, aD, aac, aar⟩) (hgc : RfP.Good ⟨cL, cD, cac, car⟩) (hne : aL ≠ [] ∨ aD ≠ []) (hw : (!aL.isEmpty && !aD.isEmpty) = whole) (HX : Bx (X = RfP.readP t1 two ⟨aL, aD, aac, aar⟩ ⟨cL, cD, cac, car⟩)) :
    Code.wp Tryz.prog ((Tryz.f39.body.bind (restOf 14)).getD .skip) (bodyPost Tryz.prog Tryz.f39 (RefPost w X)) ⟨#[u0, u1, .pointer (some ⟨w.heap.size, 0, none⟩), .int .i64 0, .string (bstr t1), u5, u6, u7, u8, .bool two, .pointer (some ⟨p, 0, none⟩), u11, .pointer (some ⟨p + 1, 0, none⟩), u13, .bool whole, u15, u16, u17, u18, u19, u20, u21, u22, u23, u24, u25, u26, u27, u28, u29, u30, u31, u32, u33, u34, u35, u36, u37, u38, u39, u40, u41, u42, u43, u44, u45, u46, u47, u48, u49, u50, u51, u52, u53, u54, u55, u56, u57, u58, u59, u60, u61, u62, u63, u64, u65, u66, u67, u68, u69, u70, u71, u72, u73, u74, u75, u76, u77, u78, u79, u80, u81, u82, u83, u84, u85, u86, u87, u88, u89, u90, u91, u92, u93, u94, u95, u96, u97, u98, u99, u100, u101, u102, u103, u104, u105, u106, u107, u108, u109, u110, u111, u112, u113, u114, u115, u116, u117, u118, u119, u120, u121, u122, u123, u124, u125, u126, u127, u128, u129, u130, u131, u132, u133, u134, u135, u136, u137, u138, u139, u140, u141, u142, u143, u144, u145, u146, u147, u148], []⟩ wc := by
  have HRD := Bx.mk (show RfP.readP t1 two ⟨aL, aD, aac, aar⟩ ⟨cL, cD, cac, car⟩ = if (RfP.valuesP ⟨aL, aD, aac, aar⟩).2.2 ≠ 0 then (RfP.zeroR, (RfP.valuesP ⟨aL, aD, aac, aar⟩).2.2) else if two = true then if (RfP.valuesP ⟨cL, cD, cac, car⟩).2.2 ≠ 0 then (RfP.zeroR, (RfP.valuesP ⟨cL, cD, cac, car⟩).2.2) else RfP.doneP ⟨t1, (if aL = [] then 2 else if aD = [] then 3 else 1), (RfP.valuesP ⟨aL, aD, aac, aar⟩).1, (RfP.valuesP ⟨aL, aD, aac, aar⟩).2.1, (RfP.valuesP ⟨cL, cD, cac, car⟩).1, (RfP.valuesP ⟨cL, cD, cac, car⟩).2.1, aar, aac, car, cac⟩ else RfP.doneP ⟨t1, 0, (RfP.valuesP ⟨aL, aD, aac, aar⟩).1, (RfP.valuesP ⟨aL, aD, aac, aar⟩).2.1, 0, 0, aar, aac, false, false⟩ from rfl)
  have hva := fun w => values_any ⟨aL, aD, aac, aar⟩ w hga
  have hvc := fun w => values_any ⟨cL, cD, cac, car⟩ w hgc
  have hkd : (if aL = [] then (2 : Int) else if aD = [] then 3 else 1) = if whole = true then 1 else if aD.isEmpty = true then 3 else 2 := by
    rw [← hw]
    by_cases h1 : aL = [] <;> by_cases h2 : aD = [] <;> simp [h1, h2]
    rcases hne with h | h
    · exact h h1
    · exact h h2
  rw [hkd] at HRD
  generalize RfP.valuesP ⟨aL, aD, aac, aar⟩ = va at *
  generalize RfP.valuesP ⟨cL, cD, cac, car⟩ = vc at *
  obtain ⟨v1, v2, v3⟩ := va
  obtain ⟨y1, y2, y3⟩ := vc
  unfold corC at hva hvc
  dsimp only at *
  clear hga hgc hne hw hkd
  have HVA := Bx.mk hva; clear hva
  have HVC := Bx.mk hvc; clear hvc
  have hDe := bstr_emp aD
  have c10 : ∀ o, wc.cell? ⟨p, o, none⟩ = #[Value.string (bstr aL), Value.string (bstr aD), Value.bool aac, Value.bool aar][o]? := fun o => HR10.out.cell o
  have l10 := HR10.out.lt
  have l12 := HR12.out.lt
  have lz : w.heap.size < wc.heap.size := by omega
  conv => arg 2; whnf
  by_cases hv3 : v3 = 0
  · subst hv3
    rw [if_neg (by simp)] at HRD
    go_upto_if 113 with (first | (go_at_call 91; refine (HVA.out _).mono ?_; rintro e w5 ⟨rfl, hb5⟩; have HQ : Bx (Row w5 wc.heap.size 35 #[Value.string (bstr t1), .int .i64 0, .int .i64 0, .int .i64 0, .int .i64 0, .int .i64 0, .bool aar, .bool aac, .bool false, .bool false]) := ⟨(Row.new _ _ _).below hb5 (by simp)⟩; have qc := fun o => HQ.out.cell o; have qf := HQ.out.frozen))
    have HR12' : Bx (Row ((w5.setCell ⟨wc.heap.size, 2, none⟩ (.int .i64 v1)).setCell ⟨wc.heap.size, 3, none⟩ (.int .i64 v2)) (p + 1) 101 #[Value.string (bstr cL), Value.string (bstr cD), Value.bool cac, Value.bool car]) := ⟨(((HR12.out.alloc _).below hb5 (by simp; omega)).other (by dsimp only; omega) _).other (by dsimp only; omega) _⟩
    have HR10' : Bx (Row ((w5.setCell ⟨wc.heap.size, 2, none⟩ (.int .i64 v1)).setCell ⟨wc.heap.size, 3, none⟩ (.int .i64 v2)) p 101 #[Value.string (bstr aL), Value.string (bstr aD), Value.bool aac, Value.bool aar]) := ⟨(((HR10.out.alloc _).below hb5 (by simp; omega)).other (by dsimp only; omega) _).other (by dsimp only; omega) _⟩
    have HZ : Bx (Row ((w5.setCell ⟨wc.heap.size, 2, none⟩ (.int .i64 v1)).setCell ⟨wc.heap.size, 3, none⟩ (.int .i64 v2)) w.heap.size 35 (refC RfP.zeroR)) := ⟨(((HRz.out.alloc _).below hb5 (by simp; omega)).other (by dsimp only; omega) _).other (by dsimp only; omega) _⟩
    have HQ1 : Bx (Row ((w5.setCell ⟨wc.heap.size, 2, none⟩ (.int .i64 v1)).setCell ⟨wc.heap.size, 3, none⟩ (.int .i64 v2)) wc.heap.size 35 #[Value.string (bstr t1), .int .i64 0, .int .i64 v1, .int .i64 v2, .int .i64 0, .int .i64 0, .bool aar, .bool aac, .bool false, .bool false]) := ⟨(HQ.out.set 2 _).set 3 _⟩
    have HB1 : Bx (Below w.heap.size w ((w5.setCell ⟨wc.heap.size, 2, none⟩ (.int .i64 v1)).setCell ⟨wc.heap.size, 3, none⟩ (.int .i64 v2))) := ⟨(((HB.out.alloc (by omega) _).trans (hb5.mono (by simp; omega))).setCell (by dsimp only; omega) _).setCell (by dsimp only; omega) _⟩
    obtain ⟨W1, hW1⟩ : ∃ W1, (w5.setCell ⟨wc.heap.size, 2, none⟩ (.int .i64 v1)).setCell ⟨wc.heap.size, 3, none⟩ (.int .i64 v2) = W1 := ⟨_, rfl⟩
    rw [hW1] at HR12' HR10' HZ HQ1 HB1 ⊢
    obtain ⟨q, hq⟩ : ∃ q, wc.heap.size = q := ⟨_, rfl⟩
    rw [hq] at l10 l12 lz HQ1 ⊢
    clear hW1 hq hb5 HQ qc qf c10 HB HR12 HR10 HRz HVA
    go_cut [] (fun wx => ∃ R : RfP.Ref, X = RfP.doneP R ∧ Row wx q 35 (refC R) ∧ Row wx w.heap.size 35 (refC RfP.zeroR) ∧ Below w.heap.size w wx)
    case first =>
      cases two with
      | false =>
        go_wp2
        go_meet
        exact ⟨⟨t1, 0, v1, v2, 0, 0, aar, aac, false, false⟩, by rw [HX.out, HRD.out]; rfl, HQ1.out, HZ.out, HB1.out⟩
      | true =>
        rw [if_pos rfl] at HRD
        have c12 := fun o => HR12'.out.cell o
        have qc := fun o => HQ1.out.cell o
        have qf := HQ1.out.frozen
        have lq1 := HQ1.out.lt
        go_wp2_with fail
        go_region
        have HQ2 : Bx (Row (((W1.setCell ⟨q, 1, none⟩ (.int .i64 1)).setCell ⟨q, 8, none⟩ (.bool car)).setCell ⟨q, 9, none⟩ (.bool cac)).drew q 35 #[Value.string (bstr t1), .int .i64 1, .int .i64 v1, .int .i64 v2, .int .i64 0, .int .i64 0, .bool aar, .bool aac, .bool car, .bool cac]) := ⟨(((HQ1.out.set 1 _).set 8 _).set 9 _).drew⟩
        have HR2 : Bx (Row (((W1.setCell ⟨q, 1, none⟩ (.int .i64 1)).setCell ⟨q, 8, none⟩ (.bool car)).setCell ⟨q, 9, none⟩ (.bool cac)).drew (p + 1) 101 #[Value.string (bstr cL), Value.string (bstr cD), Value.bool cac, Value.bool car]) := ⟨(((HR12'.out.other (by dsimp only; omega) _).other (by dsimp only; omega) _).other (by dsimp only; omega) _).drew⟩
        have HR1 : Bx (Row (((W1.setCell ⟨q, 1, none⟩ (.int .i64 1)).setCell ⟨q, 8, none⟩ (.bool car)).setCell ⟨q, 9, none⟩ (.bool cac)).drew p 101 #[Value.string (bstr aL), Value.string (bstr aD), Value.bool aac, Value.bool aar]) := ⟨(((HR10'.out.other (by dsimp only; omega) _).other (by dsimp only; omega) _).other (by dsimp only; omega) _).drew⟩
        have HZ2 : Bx (Row (((W1.setCell ⟨q, 1, none⟩ (.int .i64 1)).setCell ⟨q, 8, none⟩ (.bool car)).setCell ⟨q, 9, none⟩ (.bool cac)).drew w.heap.size 35 (refC RfP.zeroR)) := ⟨(((HZ.out.other (by dsimp only; omega) _).other (by dsimp only; omega) _).other (by dsimp only; omega) _).drew⟩
        have HB2 : Bx (Below w.heap.size w (((W1.setCell ⟨q, 1, none⟩ (.int .i64 1)).setCell ⟨q, 8, none⟩ (.bool car)).setCell ⟨q, 9, none⟩ (.bool cac)).drew) := ⟨(((HB1.out.setCell (by dsimp only; omega) _).setCell (by dsimp only; omega) _).setCell (by dsimp only; omega) _).drew⟩
        obtain ⟨W2, hW2⟩ : ∃ W2, (((W1.setCell ⟨q, 1, none⟩ (.int .i64 1)).setCell ⟨q, 8, none⟩ (.bool car)).setCell ⟨q, 9, none⟩ (.bool cac)).drew = W2 := ⟨_, rfl⟩
        rw [hW2] at HQ2 HR2 HR1 HZ2 HB2 ⊢
        clear hW2 HQ1 HR12' HR10' HZ HB1 c12 qc qf lq1
        have c12 := fun o => HR2.out.cell o
        have l2 := HQ2.out.lt
        by_cases hy3 : y3 = 0
        · subst hy3
          rw [if_neg (by simp)] at HRD
          go_upto_if 134 with (first | (go_at_call 91; refine (HVC.out _).mono ?_; rintro e w6 ⟨rfl, hb6⟩; have HQ6 : Bx (Row w6 q 35 #[Value.string (bstr t1), .int .i64 1, .int .i64 v1, .int .i64 v2, .int .i64 0, .int .i64 0, .bool aar, .bool aac, .bool car, .bool cac]) := ⟨HQ2.out.below hb6 (by omega)⟩; have qc6 := fun o => HQ6.out.cell o; have qf6 := HQ6.out.frozen))
          have hc := HQ6.out
          have HB6 := Bx.mk (HB2.out.trans (hb6.mono (by omega)))
          have HZ6 := Bx.mk (HZ2.out.below hb6 (by omega))
          have HR16 := Bx.mk (HR1.out.below hb6 (by omega))
          have c16 := fun o => HR16.out.cell o
          clear hb6 HB2 HZ2 HR2 HR1
          cases whole with
          | true =>
            rw [if_pos rfl] at HRD
            go_wp2
            go_meet
            exact ⟨⟨t1, 1, v1, v2, y1, y2, aar, aac, car, cac⟩, by rw [HX.out, HRD.out], (HQ6.out.set 4 _).set 5 _, (HZ6.out.other (by dsimp only; omega) _).other (by dsimp only; omega) _, (HB6.out.setCell (by dsimp only; omega) _).setCell (by dsimp only; omega) _⟩
          | false =>
            rw [if_neg (by simp)] at HRD
            rcases Bool.eq_false_or_eq_true aD.isEmpty with hd | hd
            · rw [if_pos hd] at HRD
              go_wp2
              go_meet
              exact ⟨⟨t1, 3, v1, v2, y1, y2, aar, aac, car, cac⟩, by rw [HX.out, HRD.out], (((HQ6.out.set 4 _).set 5 _).set 1 _).set 1 _, (((HZ6.out.other (by dsimp only; omega) _).other (by dsimp only; omega) _).other (by dsimp only; omega) _).other (by dsimp only; omega) _, (((HB6.out.setCell (by dsimp only; omega) _).setCell (by dsimp only; omega) _).setCell (by dsimp only; omega) _).setCell (by dsimp only; omega) _⟩
            · rw [if_neg (by rw [hd]; simp)] at HRD
              go_wp2
              go_meet
              exact ⟨⟨t1, 2, v1, v2, y1, y2, aar, aac, car, cac⟩, by rw [HX.out, HRD.out], ((HQ6.out.set 4 _).set 5 _).set 1 _, ((HZ6.out.other (by dsimp only; omega) _).other (by dsimp only; omega) _).other (by dsimp only; omega) _, ((HB6.out.setCell (by dsimp only; omega) _).setCell (by dsimp only; omega) _).setCell (by dsimp only; omega) _⟩
        · have hy3' : (y3 != 0) = true := by simpa using hy3
          rw [if_pos hy3] at HRD
          clear hy3
          go_wp2_with (first | (go_at_call 91; refine (HVC.out _).mono ?_; rintro e w6 ⟨rfl, hb6⟩; have HQ6 : Bx (Row w6 q 35 #[Value.string (bstr t1), .int .i64 1, .int .i64 v1, .int .i64 v2, .int .i64 0, .int .i64 0, .bool aar, .bool aac, .bool car, .bool cac]) := ⟨HQ2.out.below hb6 (by omega)⟩; have qc6 := fun o => HQ6.out.cell o; have qf6 := HQ6.out.frozen; have HZ6 : Bx (Row w6 w.heap.size 35 #[Value.string (bstr []), .int .i64 0, .int .i64 0, .int .i64 0, .int .i64 0, .int .i64 0, .bool false, .bool false, .bool false, .bool false]) := ⟨HZ2.out.below hb6 (by omega)⟩; have zc := fun o => HZ6.out.cell o; have zf := HZ6.out.frozen))
          have HB6 := Bx.mk (HB2.out.trans (hb6.mono (by omega)))
          exact bodyPost_ret (v := .tuple #[.agg #[.string { data := #[] }, .int .i64 0, .int .i64 0, .int .i64 0, .int .i64 0, .int .i64 0, .bool false, .bool false, .bool false, .bool false], .int .i64 y3]) (by simp [results, Tryz.results39, go_sem, zc, zf]) rfl ⟨by rw [HX.out, HRD.out]; rfl, by
            iterate 12 refine Below.setCell ?_ (by dsimp only; omega) _
            exact HB6.out⟩
    case rest =>
      clear HRD HX HVC HR12' HR10' HZ HQ1 HB1
      obtain ⟨R, hx, hq, hz, hb⟩ := hcut
      have HX := Bx.mk hx; clear hx
      have HQ := Bx.mk hq; clear hq
      have HB := Bx.mk hb; clear hb
      have HD := Bx.mk (show RfP.doneP R = if RfP.checkP (RfP.orderedP R) = 0 then (RfP.orderedP R, 0) else (RfP.zeroR, RfP.checkP (RfP.orderedP R)) from rfl)
      have ho := fun w => ordered_any R w
      have hk := fun w => Check_any (RfP.orderedP R) w
      have HZ : Bx (Row wc w.heap.size 35 #[Value.string (bstr []), .int .i64 0, .int .i64 0, .int .i64 0, .int .i64 0, .int .i64 0, .bool false, .bool false, .bool false, .bool false]) := ⟨hz⟩
      clear hz
      generalize RfP.orderedP R = Y at *
      generalize hE : RfP.checkP Y = E at *
      clear hE
      obtain ⟨b0, b1, b2, b3, b4, b5, b6, b7, b8, b9⟩ := Y
      obtain ⟨d0, d1, d2, d3, d4, d5, d6, d7, d8, d9⟩ := R
      unfold refC at ho hk HQ
      dsimp only at *
      have HO := Bx.mk ho; clear ho
      have HK := Bx.mk hk; clear hk
      apply_assumption
      have qc := fun o => HQ.out.cell o
      have qf := HQ.out.frozen
      have zc := fun o => HZ.out.cell o
      have zf := HZ.out.frozen
      have lq := HQ.out.lt
      go_wp2_with (first | (go_at_call 92; refine (HO.out _).mono ?_; rintro e w7 ⟨rfl, hb7⟩; have HQ7 := Bx.mk (HQ.out.below hb7 lq); have qc7 := fun o => HQ7.out.cell o; have qf7 := HQ7.out.frozen))
      have HZ7 := Bx.mk (HZ.out.below hb7 HZ.out.lt)
      have HQ8 := Bx.mk (HQ7.out.setAll [Value.string (bstr b0), .int .i64 b1, .int .i64 b2, .int .i64 b3, .int .i64 b4, .int .i64 b5, .bool b6, .bool b7, .bool b8, .bool b9] rfl)
      have HZ8 := Bx.mk (Row.otherAll (show w.heap.size ≠ q by omega) [Value.string (bstr b0), .int .i64 b1, .int .i64 b2, .int .i64 b3, .int .i64 b4, .int .i64 b5, .bool b6, .bool b7, .bool b8, .bool b9] 0 w7 HZ7.out)
      have HB8 := Bx.mk (Below.setAllB (show w.heap.size ≤ q by omega) [Value.string (bstr b0), .int .i64 b1, .int .i64 b2, .int .i64 b3, .int .i64 b4, .int .i64 b5, .bool b6, .bool b7, .bool b8, .bool b9] 0 w7 (HB.out.trans (hb7.mono HB.out.size)))
      change Calls _ _ _ (setAll w7 q 0 [Value.string (bstr b0), .int .i64 b1, .int .i64 b2, .int .i64 b3, .int .i64 b4, .int .i64 b5, .bool b6, .bool b7, .bool b8, .bool b9]) _
      obtain ⟨W8, hW8⟩ : ∃ W8, setAll w7 q 0 [Value.string (bstr b0), .int .i64 b1, .int .i64 b2, .int .i64 b3, .int .i64 b4, .int .i64 b5, .bool b6, .bool b7, .bool b8, .bool b9] = W8 := ⟨_, rfl⟩
      rw [hW8] at HQ8 HZ8 HB8 ⊢
      clear hW8 hb7 HZ7 HQ7 qc7 qf7 HQ HZ HB qc qf zc zf
      have l8 := HQ8.out.lt
      by_cases hE : E = 0
      · subst hE
        rw [if_pos rfl] at HD
        go_wp2_with (first | (go_at_call 57; refine (HK.out _).mono ?_; rintro e w9 ⟨rfl, hb9⟩; have HQ9 : Bx (Row w9 q 35 #[Value.string (bstr b0), .int .i64 b1, .int .i64 b2, .int .i64 b3, .int .i64 b4, .int .i64 b5, .bool b6, .bool b7, .bool b8, .bool b9]) := ⟨HQ8.out.below hb9 l8⟩; have qc9 := fun o => HQ9.out.cell o; have HZ9 : Bx (Row w9 w.heap.size 35 #[Value.string (bstr []), .int .i64 0, .int .i64 0, .int .i64 0, .int .i64 0, .int .i64 0, .bool false, .bool false, .bool false, .bool false]) := ⟨HZ8.out.below hb9 HZ8.out.lt⟩; have zc := fun o => HZ9.out.cell o; have zf := HZ9.out.frozen))
        exact bodyPost_ret (v := .tuple #[.agg #[Value.string (bstr b0), .int .i64 b1, .int .i64 b2, .int .i64 b3, .int .i64 b4, .int .i64 b5, .bool b6, .bool b7, .bool b8, .bool b9], .int .i64 0]) (by simp [results, Tryz.results39, go_sem, zc, zf]) rfl ⟨by rw [HX.out, HD.out]; rfl, Below.setAllB (Nat.le_refl _) [Value.string (bstr b0), .int .i64 b1, .int .i64 b2, .int .i64 b3, .int .i64 b4, .int .i64 b5, .bool b6, .bool b7, .bool b8, .bool b9] 0 w9 (HB8.out.trans (hb9.mono HB8.out.size))⟩
      · have hE' : (E != 0) = true := by simpa using hE
        rw [if_neg hE] at HD
        clear hE
        go_wp2_with (first | (go_at_call 57; refine (HK.out _).mono ?_; rintro e w9 ⟨rfl, hb9⟩; have HZ9 : Bx (Row w9 w.heap.size 35 #[Value.string (bstr []), .int .i64 0, .int .i64 0, .int .i64 0, .int .i64 0, .int .i64 0, .bool false, .bool false, .bool false, .bool false]) := ⟨HZ8.out.below hb9 HZ8.out.lt⟩; have zc := fun o => HZ9.out.cell o; have zf := HZ9.out.frozen))
        exact bodyPost_ret (v := .tuple #[.agg #[Value.string { data := #[] }, .int .i64 0, .int .i64 0, .int .i64 0, .int .i64 0, .int .i64 0, .bool false, .bool false, .bool false, .bool false], .int .i64 E]) (by simp [results, Tryz.results39, go_sem, zc, zf]) rfl ⟨by rw [HX.out, HD.out]; rfl, Below.setAllB (Nat.le_refl _) [Value.string { data := #[] }, .int .i64 0, .int .i64 0, .int .i64 0, .int .i64 0, .int .i64 0, .bool false, .bool false, .bool false, .bool false] 0 w9 (HB8.out.trans (hb9.mono HB8.out.size))⟩
  · have hv3' : (v3 != 0) = true := by simpa using hv3
    rw [if_pos hv3] at HRD
    clear hv3
    go_wp2_with (first | (go_at_call 91; refine (HVA.out _).mono ?_; rintro e w5 ⟨rfl, hb5⟩; have HQ : Bx (Row w5 wc.heap.size 35 #[Value.string (bstr t1), .int .i64 0, .int .i64 0, .int .i64 0, .int .i64 0, .int .i64 0, .bool aar, .bool aac, .bool false, .bool false]) := ⟨(Row.new _ _ _).below hb5 (by simp)⟩; have qc := fun o => HQ.out.cell o; have qf := HQ.out.frozen; have HZ : Bx (Row w5 w.heap.size 35 #[Value.string (bstr []), .int .i64 0, .int .i64 0, .int .i64 0, .int .i64 0, .int .i64 0, .bool false, .bool false, .bool false, .bool false]) := ⟨(HRz.out.alloc _).below hb5 (by simp; omega)⟩; have zc := fun o => HZ.out.cell o; have zf := HZ.out.frozen))
    exact bodyPost_ret (v := .tuple #[.agg #[.string { data := #[] }, .int .i64 0, .int .i64 0, .int .i64 0, .int .i64 0, .int .i64 0, .bool false, .bool false, .bool false, .bool false], .int .i64 v3]) (by simp [results, Tryz.results39, go_sem, zc, zf]) rfl ⟨by rw [HX.out, HRD.out]; rfl, by
      iterate 12 refine Below.setCell ?_ (by dsimp only; omega) _
      exact (HB.out.alloc (by omega) _).trans (hb5.mono (by simp; omega))⟩
end Go.Proofs.YtmodjglbjempkaaGreatDoor
