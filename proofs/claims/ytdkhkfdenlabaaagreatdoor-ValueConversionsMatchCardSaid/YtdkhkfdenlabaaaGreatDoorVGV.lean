/- Values, the program: so many digits as a -/
import Derived.Test.YtdkhkfdenlabaaaGreatDoorVGG
import Derived.Test.YtdkhkfdenlabaaaGreatDoorVGU
import Derived.Lib.ItoaLen
import Derived.DataShut
set_option linter.unusedSimpArgs false
set_option linter.unusedVariables false
set_option maxRecDepth 100000
set_option maxHeartbeats 64000000
namespace Go.Proofs.YtdkhkfdenlabaaaGreatDoor
open Go.Proofs.Tryz
section
open Go.RowKit
open Sym
theorem LQ {P : Program} {w : World} {t : TypeId} {ms : Array (String × TypeId)} (v : Value) (b : Bool) (hv : (v = .nilIface /\ b = true) \/ ((∃ tp p, v = .iface tp p) /\ b = false)) (hi : P.underlying t = some (.interface ms)) :
  (binOp .eql t v .nilIface).run P w = .ok (.bool b) w := by
 rcases hv with ⟨rfl, rfl⟩ | ⟨⟨tp, p, rfl⟩, rfl⟩
 ·have h : ∀ d : Nat, (Op.equalIn (d + 1) t .nilIface .nilIface).run P w = .ok true w := fun d => by simp [Op.equalIn, run_underlying hi]
  simp only [binOp]
  simp [Op.equal, Op.maxDepth, h 9999]
 ·have h : ∀ d : Nat, (Op.equalIn (d + 1) t (.iface tp p) .nilIface).run P w = .ok false w := fun d => by simp [Op.equalIn, run_underlying hi]
  simp only [binOp]
  simp [Op.equal, Op.maxDepth, h 9999]
namespace Sym
theorem J9 {C : Ctx} {G : eU} {x : Operand} {t u : TypeId} {ms : Array (String × TypeId)} (v : Value) (b : Bool) (hv : (v = .nilIface /\ b = true) \/ ((∃ tp p, v = .iface tp p) /\ b = false)) (ht : C.P.underlying t = some (.interface ms)) : dH C G (.binOp .eql t x (.const .nilIface) u) [.any v, .any .nilIface] (.lit b) := by
 unfold dH
 intro ρ β w dst ty pos after g _ _ h
 have h' : ρ x = v /\ ρ (.const .nilIface) = .nilIface := by simpa [jg, SV.aF, SV.den] using h
 have h2 := LQ (P := C.P) (w := w) (t := t) v b hv ht
 rcases hv with ⟨rfl, rfl⟩ | ⟨⟨tp, p, rfl⟩, rfl⟩ <;> simp [execOp, eqGuard, h'.1, h'.2, h2, SV.den]
end Sym
section
attribute [local irreducible] Calls Sym.bM ae.nd ae.bu ae.upd ae.ak ae.ay
variable (s d r : List UInt8) (n k : Int) (w : World) (hw0 : 0 < w.heap.size)
 (hD : ∀ w' : World, QC 119 #[.string (ah s)] w' (.tuple #[.string (ah d), .string (ah r)]))
include hD
theorem QH (hA : ∀ w', BW w w' -> QC 177 #[.string (ah d)] w' (.tuple #[.int .i64 k, .nilIface])) :
  QC 118 #[.string (ah s), .int .i64 n] w (.tuple #[.int .i64 k, .bool (decide ((d.length : Int) = n /\ r = []))]) := by
 refine yE func118 rfl results118 ntmps118 [] [] [.str s, .int .i64 n] w ?_
 repeat' (first | exact ⟨⟩ | refine yG ?_ ?_ | refine yA (.bg [.str d, .str r]) (fun _ => hD) ?_ | refine yB (.bg [.int .i64 k, .any .nilIface]) (fun _ => hA) ?_ | ((with_reducible show ∃ _ : SV, _); first | (refine ⟨.lit true, ?ok, J9 _ true (.inl ⟨rfl, rfl⟩) underlying169, ?_⟩; (case ok => exact fun _ _ => trivial))) | intro _)
 all_goals first | (rw [decide_eq_true (by first | exact ⟨by assumption, by assumption⟩)]; rfl) | (rw [decide_eq_false (fun h => by first | exact absurd h.1 (by assumption) | exact absurd h.2 (by assumption))]; rfl)
include hw0
theorem Ol (hA : ∀ w', BW w w' -> Calls Tryz.prog 177 #[.string (ah d)] w' fun e w'' => ∃ N, e = .returned (.tuple #[.int .i64 k, .iface 214 (.pointer (some ⟨N, 0, none⟩))]) /\ BW w' w'') :
  QC 118 #[.string (ah s), .int .i64 n] w (.tuple #[.int .i64 k, .bool false]) := by
 refine yE func118 rfl results118 ntmps118 [] [] [.str s, .int .i64 n] w ?_
 repeat' (first | exact ⟨⟩ | refine yG ?_ ?_ | refine yA (.bg [.str d, .str r]) (fun _ => hD) ?_ | (refine bT (T := Nat) (fun N => .bg [.int .i64 k, .any (.iface 214 (.pointer (some ⟨N, 0, none⟩)))]) (fun _ => []) hw0 (by kernel_rfl) rfl (fun N => ⟨trivial, rfl, trivial⟩) (fun β w' hm => (hA w' hm.below).mono fun e w'' ⟨N, he, hb⟩ => ⟨hb, N, he, fun p hp => by cases hp⟩) (fun N _ => ?_)) | ((with_reducible show ∃ _ : SV, _); first | (refine ⟨.lit false, ?ok, J9 _ false (.inr ⟨⟨_, _, rfl⟩, rfl⟩) underlying169, ?_⟩; (case ok => exact fun _ _ => trivial))) | intro _)
 all_goals first | rfl
end
theorem count_any (s : List UInt8) (n : Int) (w : World) (hw : XV w) (hl : s.length <= 1000000) : ∃ (k : Int) (ok : Bool), (ok = true -> s ≠ [] /\ s.all ae.aY = true /\ (s.length : Int) = n) /\ (1 <= s.length -> s.length <= 18 -> s.all ae.aY = true -> (s.length : Int) = n -> ok = true /\ k = (ae.ax s : Nat)) /\
  ∀ w', BW w w' -> QC 118 #[.string (ah s), .int .i64 n] w' (.tuple #[.int .i64 k, .bool ok]) := by
 have D := fun (w' : World) => oJ s w' (by omega)
 have happ := ae.l9 s
 have Zx := ae.gu s
 have hlen := congrArg List.length happ
 rw [List.length_append] at hlen
 have hok : ∀ k' : Int, (∀ w', BW w w' -> QC 177 #[.string (ah (ae.aW s))] w' (.tuple #[.int .i64 k', .nilIface])) -> ae.aW s ≠ [] -> (1 <= s.length -> s.length <= 18 -> s.all ae.aY = true -> k' = (ae.ax s : Nat)) -> ∃ (k : Int) (ok : Bool), (ok = true -> s ≠ [] /\ s.all ae.aY = true /\ (s.length : Int) = n) /\ (1 <= s.length -> s.length <= 18 -> s.all ae.aY = true -> (s.length : Int) = n -> ok = true /\ k = (ae.ax s : Nat)) /\
   ∀ w', BW w w' -> QC 118 #[.string (ah s), .int .i64 n] w' (.tuple #[.int .i64 k, .bool ok]) := fun k' hA hne hk => by
  refine ⟨k', decide (((ae.aW s).length : Int) = n /\ ae.bf s = []), fun h => ?_, fun h1 h2 h3 h4 => ?_, fun w' hb => QH s _ _ n k' w' D (fun w2 h2 => hA w2 (bZ hb h2))⟩
  ·obtain ⟨h1, h2⟩ := of_decide_eq_true h
   have ha := ae.Am h2
   refine ⟨fun e => hne (by rw [e]; rfl), ha, ?_⟩
   rw [h2] at hlen
   simp at hlen
   omega
  ·obtain ⟨r1, r2⟩ := ae.jy h3
   rw [r1, r2]
   exact ⟨decide_eq_true ⟨h4, rfl⟩, hk h1 h2 h3⟩
 have hbad : ∀ k' : Int, (∀ w', BW w w' -> Calls Tryz.prog 177 #[.string (ah (ae.aW s))] w' fun e w'' => ∃ N, e = .returned (.tuple #[.int .i64 k', .iface 214 (.pointer (some ⟨N, 0, none⟩))]) /\ BW w' w'') -> ¬ (1 <= s.length /\ s.length <= 18 /\ s.all ae.aY = true) -> ∃ (k : Int) (ok : Bool), (ok = true -> s ≠ [] /\ s.all ae.aY = true /\ (s.length : Int) = n) /\ (1 <= s.length -> s.length <= 18 -> s.all ae.aY = true -> (s.length : Int) = n -> ok = true /\ k = (ae.ax s : Nat)) /\
   ∀ w', BW w w' -> QC 118 #[.string (ah s), .int .i64 n] w' (.tuple #[.int .i64 k, .bool ok]) := fun k' hA hk =>
  ⟨k', false, (fun h => by cases h), fun h1 h2 h3 _ => absurd ⟨h1, h2, h3⟩ hk, fun w' hb => Ol s _ _ n k' w' (hw.below hb).pos D (fun w2 h2 => hA w2 (bZ hb h2))⟩
 by_cases hc : ae.aW s ≠ [] /\ (ae.aW s).length <= 18
 ·refine hok _ (fun w' hb => qX (ae.aW s) w' hc.1 hc.2 Zx) hc.1 (fun h1 h2 h3 => ?_)
  rw [(ae.jy h3).1]
 ·have hns : ¬ (1 <= s.length /\ s.length <= 18 /\ s.all ae.aY = true) := fun ⟨h1, h2, h3⟩ => by
   rw [(ae.jy h3).1] at hc
   exact hc ⟨fun e => by rw [e] at h1; simp at h1, h2⟩
  have hd : (ah (ae.aW s)).data.toList = ae.aW s := by simp [ah]
  cases hA : Lib.atoiAll (ae.aW s) with
  | ok v =>
    refine hok v (fun w' hb => ?_) (fun e => by rw [e] at hA; cases hA) (fun h1 h2 h3 => absurd ⟨h1, h2, h3⟩ hns)
    refine (Tryz.strconv_Atoi_ok (ah (ae.aW s)) (by rw [bW]; omega) v (by rw [hd]; exact hA) w').mono ?_
    rintro e w'' h
    exact ⟨h.1, by obtain ⟨-, h2⟩ := h; rcases h2 with rfl | ⟨t, rfl⟩; exact Below.refl _ _; exact Lib.bytesWorld_below _ _ _⟩
  | range =>
    refine hbad (Lib.atoiSat (ae.aW s)) (fun w' hb => ?_) hns
    obtain ⟨te, pe, he⟩ := (hw.below hb).ran
    refine (Tryz.strconv_Atoi_range (ah (ae.aW s)) (by rw [bW]; omega) (by rw [hd]; exact hA) (.iface te pe) w' he (.inr ⟨_, _, rfl⟩)).mono ?_
    rintro e w'' ⟨N, h, -, -, hb2⟩
    exact ⟨N, by rw [h, hd], hb2⟩
  | _ =>
    refine hbad 0 (fun w' hb => ?_) hns
    obtain ⟨te, pe, he⟩ := (hw.below hb).ZB
    refine (Tryz.strconv_Atoi_syntax (ah (ae.aW s)) (by rw [bW]; omega) (by rw [hd]; exact hA) (.iface te pe) w' he (.inr ⟨_, _, rfl⟩)).mono ?_
    rintro e w'' ⟨N, h, -, -, hb2⟩
    exact ⟨N, h, hb2⟩
def bP (l : List (List UInt8)) : List Value := l.map fun x => Value.string (ah x)
theorem Dh (c : UInt8) (s : List UInt8) (w : World) (hw : XV w) (hs : s.length <= 1000000) : Calls Tryz.prog 117 #[.string (ah s), .string (ah [c])] w fun e w' => BW w w' /\ ∃ g : Nat, e = .returned (.slice (some ⟨g, 0, none⟩) (af.aN c s).length (af.aN c s).length) /\ ∀ q ∈ [((some ⟨g, 0, none⟩ : Option Addr), bP (af.aN c s))], aS q.1 q.2 w' /\ bz q.1 q.2 w := by
 obtain ⟨m, hm⟩ := hw.len
 refine (Tryz.strings_Split (ah s) (ah [c]) m w (by rw [bW]; omega) hm (by rw [bW]; exact Nat.le_refl 1)).mono ?_
 rintro e w' ⟨h, rfl⟩
 have h1 : (ah [c]).data.toList = [c] := rfl
 have h2 : (ah s).data.toList = s := rfl
 have hd := Lib.splitB_data (ah [c]) 0 (Lib.countB (ah s) (ah [c])) (ah s)
 have hL : (Lib.splitB (ah [c]) 0 (Lib.countB (ah s) (ah [c])) (ah s)).map (·.data.toList) = af.aN c s := by
  rw [hd, h1, h2, show Lib.countB (ah s) (ah [c]) = Lib.count s [c] from rfl]
  exact af.Eb c _ s (Nat.le_refl _)
 have hV : (Lib.splitB (ah [c]) 0 (Lib.countB (ah s) (ah [c])) (ah s)).map Value.string = bP (af.aN c s) := by
  unfold bP
  rw [<- hL, List.map_map]
  apply List.map_congr_left
  intro b _
  rfl
 have hn := Lib.splitB_all (ah [c]) (by rw [bW]; exact Nat.le_refl 1) 0 (Lib.countB (ah s) (ah [c])) (ah s) rfl
 have hn' : (af.aN c s).length = Lib.countB (ah s) (ah [c]) + 1 := by
  rw [<- hL, List.length_map]; exact hn
 rw [hV]
 have hcs := World.cells?_some (World.cells?_alloc_all w (bP (af.aN c s)).toArray 9 0 (bP (af.aN c s)).length (Nat.zero_le _) (by simp))
 refine ⟨(Below.refl _ _).alloc (Nat.le_refl _) _, w.heap.size, by rw [h, hn'], fun q hq => ?_⟩
 obtain rfl := List.mem_singleton.1 hq
 refine ⟨fun i v hi => ⟨_, rfl, ?_, ?_⟩, fun _ ad h => by cases h; exact Nat.le_refl _⟩
 ·show w.heap.size < (w.heap.push _).size
  simp
 ·have hlt := (List.getElem?_eq_some_iff.1 hi).1
  rw [hcs.2.2 i hlt]
  exact hi
section
attribute [local irreducible] Calls Sym.bM ae.nd ae.bu ae.upd ae.ak ae.ay
theorem ae.vJ {n : Nat} (h : n <= 9223372036854775807) : (Lib.itoa (n : Int), ([49] : List UInt8)) = ae.ak ⟨false, n, 1⟩ := by
 rw [Lib.itoa_nonneg, ae.sV (Nat.le_trans (ae.dX (n := 20) (by omega) (by omega)) (by omega))]
section
variable (s a b c : List UInt8) (k1 k2 k3 N : Int) (o1 o2 o3 P : Bool) (L : List UInt8) (w : World) (hw0 : 0 < w.heap.size)
 (hS : ∀ w' : World, BW w w' -> Calls Tryz.prog 117 #[.string (ah s), .string (ah [45])] w' fun e w'' => BW w' w'' /\ ∃ g : Nat, e = .returned (.slice (some ⟨g, 0, none⟩) 3 3) /\ ∀ q ∈ [((some ⟨g, 0, none⟩ : Option Addr), [Value.string (ah a), Value.string (ah b), Value.string (ah c)])], aS q.1 q.2 w'' /\ bz q.1 q.2 w')
 (h1 : ∀ w', BW w w' -> QC 118 #[.string (ah a), .int .i64 4] w' (.tuple #[.int .i64 k1, .bool o1]))
 (h2 : ∀ w', BW w w' -> QC 118 #[.string (ah b), .int .i64 2] w' (.tuple #[.int .i64 k2, .bool o2]))
 (h3 : ∀ w', BW w w' -> QC 118 #[.string (ah c), .int .i64 2] w' (.tuple #[.int .i64 k3, .bool o3]))
 (hD : ∀ w' : World, QC 29 #[.int .i64 k1, .int .i64 k2, .int .i64 k3] w' (.tuple #[.int .i64 N, .bool P]))
 (hO : ∀ w', BW w w' -> QC 77 #[.int .i64 N] w' (iI (L, [49])))
include hw0 hS h1 h2 h3 hD hO
theorem KJ : QC 58 #[.string (ah s)] w (.tuple #[iI (L, [49]), .bool (o1 && o2 && o3 && P)]) := by
 refine yE func58 rfl results58 ntmps58 [] [] [.str s] w ?_
 repeat' (first | exact ⟨⟩ | refine yG ?_ ?_ | (refine bT (T := Nat) (fun g => .any (.slice (some ⟨g, 0, none⟩) 3 3)) (fun g => [(some ⟨g, 0, none⟩, [Value.string (ah a), Value.string (ah b), Value.string (ah c)])]) hw0 (by kernel_rfl) rfl (fun _ => rfl) (fun β w' hm => hS w' hm.below) (fun g _ => ?_)) | refine yB (.bg [.int .i64 k1, .bool o1]) (fun _ => h1) ?_ | refine yB (.bg [.int .i64 k2, .bool o2]) (fun _ => h2) ?_ | refine yB (.bg [.int .i64 k3, .bool o3]) (fun _ => h3) ?_ | refine yA (.bg [.int .i64 N, .bool P]) (fun _ => hD) ?_ | refine yB (.agg [.str L, .str [49]]) (fun _ => hO) ?_ | refine yO (aJ underlying121) ?_ | refine yN (j := 0) underlying121 sizeOf9 ?_ | refine yN (j := 1) underlying121 sizeOf9 ?_ | refine yN (j := 2) underlying121 sizeOf9 ?_ | refine yO (v := .str a) (aP 1 (.str a) (fun w => isAgg9 w) rfl (fun β => rfl)) ?_ | refine yO (v := .str b) (aP 1 (.str b) (fun w => isAgg9 w) rfl (fun β => rfl)) ?_ | refine yO (v := .str c) (aP 1 (.str c) (fun w => isAgg9 w) rfl (fun β => rfl)) ?_ | intro _)
 all_goals first | (exfalso; omega) | (clear hS h1 h2 h3 hD hO; simp_all [SV.den, SV.aF]; done)
end
section
variable (s : List UInt8) (n : Nat) (xs : List Value) (w : World) (hw0 : 0 < w.heap.size)
 (hS : ∀ w' : World, BW w w' -> Calls Tryz.prog 117 #[.string (ah s), .string (ah [45])] w' fun e w'' => BW w' w'' /\ ∃ g : Nat, e = .returned (.slice (some ⟨g, 0, none⟩) n n) /\ ∀ q ∈ [((some ⟨g, 0, none⟩ : Option Addr), xs)], aS q.1 q.2 w'' /\ bz q.1 q.2 w')
include hw0 hS
theorem QN (h : n ≠ 3) : QC 58 #[.string (ah s)] w (.tuple #[iI ([], []), .bool false]) := by
 refine yE func58 rfl results58 ntmps58 [] [] [.str s] w ?_
 repeat' (first | exact ⟨⟩ | refine yG ?_ ?_ | (refine bT (T := Nat) (fun g => .any (.slice (some ⟨g, 0, none⟩) n n)) (fun g => [(some ⟨g, 0, none⟩, xs)]) hw0 (by kernel_rfl) rfl (fun _ => rfl) (fun β w' hm => hS w' hm.below) (fun g _ => ?_)) | refine yO (aJ underlying121) ?_ | intro _)
 all_goals first | (exfalso; omega) | rfl
end
theorem af.xA {s : List UInt8} {n : Nat} (h : af.mV s n = true) : s.all ae.aY = true /\ s.length = n := by
 unfold af.mV at h
 simpa using h
theorem jJ (c : UInt8) : ∀ s : List UInt8, ∀ x ∈ af.aN c s, x.length <= s.length
 | [], x, h => by
   simp only [af.aN, List.mem_singleton] at h
   subst h; exact Nat.le_refl _
 | y :: s, x, h => by
   have ih := jJ c s
   unfold af.aN at h
   split at h
   ·rcases List.mem_cons.1 h with rfl | h
    ·simp
    ·have := ih x h; simp; omega
   ·split at h
    ·rename_i h0; exact absurd h0 (af.pV c s)
    ·rename_i g l h0
     rw [h0] at ih
     rcases List.mem_cons.1 h with rfl | h
     ·have := ih g (List.mem_cons_self ..); simp; omega
     ·have := ih x (List.mem_cons_of_mem _ h); simp; omega
def af.jH (s : List UInt8) : Option ae.Num := if 0 < af.gX s then some ⟨false, (af.gX s).toNat, 1⟩ else none
theorem EO (s : List UInt8) (w : World) (hw : XV w) (hl : s.length <= 40000) : Reads 58 s (af.jH s) w := by
 have hS := fun (w' : World) (h : BW w w') => Dh 45 s w' (hw.below h) (by omega)
 have hlen := jJ 45 s
 unfold af.jH
 by_cases h3 : (af.aN 45 s).length = 3
 ·match hsp : af.aN 45 s, h3 with
  | [a, b, c], _ =>
    rw [hsp] at hS hlen
    have la := hlen a (by simp)
    have lb := hlen b (by simp)
    have lc := hlen c (by simp)
    have hv : af.gX s = if af.mV a 4 = true /\ af.mV b 2 = true /\ af.mV c 2 = true then af.o8 (ae.ax a : Nat) (ae.ax b : Nat) (ae.ax c : Nat) else 0 := by
     unfold af.gX
     rw [hsp]
    obtain ⟨k1, o1, p1, q1, H1⟩ := count_any a 4 w hw (by omega)
    obtain ⟨k2, o2, p2, q2, H2⟩ := count_any b 2 w hw (by omega)
    obtain ⟨k3, o3, p3, q3, H3⟩ := count_any c 2 w hw (by omega)
    have hb := af.Af k1 k2 k3
    have hp := af.QQ k1 k2 k3
    have hall : (o1 && o2 && o3 && decide (af.xG k1 k2 k3)) = decide (0 < af.gX s) /\ (0 < af.gX s -> af.gX s = af.o8 k1 k2 k3) := by
     by_cases hc : af.mV a 4 = true /\ af.mV b 2 = true /\ af.mV c 2 = true
     ·obtain ⟨c1, c2, c3⟩ := hc
      obtain ⟨d1, e1⟩ := af.xA c1
      obtain ⟨d2, e2⟩ := af.xA c2
      obtain ⟨d3, e3⟩ := af.xA c3
      obtain ⟨rfl, rfl⟩ := q1 (by omega) (by omega) d1 (by omega)
      obtain ⟨rfl, rfl⟩ := q2 (by omega) (by omega) d2 (by omega)
      obtain ⟨rfl, rfl⟩ := q3 (by omega) (by omega) d3 (by omega)
      rw [if_pos ⟨c1, c2, c3⟩] at hv
      rw [hv]
      refine ⟨?_, fun _ => rfl⟩
      simp only [Bool.and_self, Bool.true_and]
      rw [decide_eq_decide]; exact hp.symm
     ·rw [if_neg hc] at hv
      rw [hv]
      refine ⟨?_, fun h => absurd h (by omega)⟩
      have hno : (o1 && o2 && o3) = false := by
       cases ho : (o1 && o2 && o3) with
       | false => rfl
       | true =>
         exfalso
         simp only [Bool.and_eq_true] at ho
         obtain ⟨⟨r1, r2⟩, r3⟩ := ho
         obtain ⟨-, d1, e1⟩ := p1 r1
         obtain ⟨-, d2, e2⟩ := p2 r2
         obtain ⟨-, d3, e3⟩ := p3 r3
         exact hc ⟨by unfold af.mV; rw [d1]; simp; omega, by unfold af.mV; rw [d2]; simp; omega, by unfold af.mV; rw [d3]; simp; omega⟩
      rw [hno]; rfl
    refine ⟨(Lib.itoa (af.o8 k1 k2 k3), [49]), fun x hx => ?_, ⟨Nat.le_trans (Lib.itoa_length_le _ (by omega) (by omega)) (by omega), by simp⟩, fun w' hb' => ?_⟩
    ·split at hx
     ·rename_i h0
      cases hx
      have := hall.2 h0
      rw [this] at h0 ⊢
      obtain ⟨j, hj⟩ : ∃ j : Nat, af.o8 k1 k2 k3 = (j : Int) := ⟨(af.o8 k1 k2 k3).toNat, by omega⟩
      rw [hj, ae.vJ (by omega)]
      simp
     ·cases hx
    ·have := KJ s a b c k1 k2 k3 (af.o8 k1 k2 k3) o1 o2 o3 (decide (af.xG k1 k2 k3)) (Lib.itoa (af.o8 k1 k2 k3)) w' (hw.below hb').pos (fun w2 h2 => hS w2 (bZ hb' h2)) (fun w2 h2 => H1 w2 (bZ hb' h2)) (fun w2 h2 => H2 w2 (bZ hb' h2)) (fun w2 h2 => H3 w2 (bZ hb' h2)) (fun w2 => UM k1 k2 k3 w2) (fun w2 h2 => xZ _ w2 (hw.below (bZ hb' h2)).xw (by omega) (by omega))
     rw [hall.1] at this
     by_cases h0 : 0 < af.gX s
     ·rw [if_pos h0]; rw [decide_eq_true h0] at this; exact this
     ·rw [if_neg h0]; rw [decide_eq_false h0] at this; exact this
 ·have hv : af.gX s = 0 := by
   unfold af.gX
   split
   ·rename_i h; rw [h] at h3; exact absurd rfl h3
   ·rfl
  rw [hv, if_neg (by omega)]
  refine ⟨([], []), (fun x h => by cases h), ⟨by simp, by simp⟩, fun w' hb => ?_⟩
  exact QN s _ _ w' (hw.below hb).pos (fun w2 h2 => hS w2 (bZ hb h2)) h3
end
end
section
open Go.RowKit
open Sym
attribute [local irreducible] Calls Sym.bM ae.nd ae.bu ae.upd ae.ak ae.ay
section
variable (s : List UInt8) (n : Nat) (xs : List Value) (w : World) (hw0 : 0 < w.heap.size)
 (hS : ∀ w' : World, BW w w' -> Calls Tryz.prog 117 #[.string (ah s), .string (ah [58])] w' fun e w'' => BW w' w'' /\ ∃ g : Nat, e = .returned (.slice (some ⟨g, 0, none⟩) n n) /\ ∀ q ∈ [((some ⟨g, 0, none⟩ : Option Addr), xs)], aS q.1 q.2 w'' /\ bz q.1 q.2 w')
include hw0 hS
theorem Oh (h : n < 2 \/ 3 < n) : QC 59 #[.string (ah s)] w (.tuple #[iI ([], []), .bool false]) := by
 refine yE func59 rfl results59 ntmps59 [] [200004, 200017] [.str s] w ?_
 repeat' (first | exact ⟨⟩ | refine yG ?_ ?_ | (refine bT (T := Nat) (fun g => .any (.slice (some ⟨g, 0, none⟩) n n)) (fun g => [(some ⟨g, 0, none⟩, xs)]) hw0 (by kernel_rfl) rfl (fun _ => rfl) (fun β w' hm => hS w' hm.below) (fun g _ => ?_)) | refine yO (aJ underlying121) ?_ | intro _)
 all_goals first | (exfalso; omega) | rfl
variable (a b : List UInt8) (hn : n = 2 \/ n = 3) (hx0 : xs[0]? = some (.string (ah a))) (hx1 : xs[1]? = some (.string (ah b)))
include hn hx0 hx1
theorem QA (k1 k2 : Int) (o1 o2 : Bool)
  (h1 : ∀ w', BW w w' -> QC 118 #[.string (ah a), .int .i64 (a.length : Nat)] w' (.tuple #[.int .i64 k1, .bool o1]))
  (h2 : ∀ w', BW w w' -> QC 118 #[.string (ah b), .int .i64 2] w' (.tuple #[.int .i64 k2, .bool o2]))
  (h : ¬ (o1 = true /\ o2 = true /\ a.length <= 2 /\ k1 <= 23 /\ k2 <= 59)) : QC 59 #[.string (ah s)] w (.tuple #[iI ([], []), .bool false]) := by
 refine yE func59 rfl results59 ntmps59 [] [200004, 200017] [.str s] w ?_
 repeat' (first | exact ⟨⟩ | refine yG ?_ ?_ | (refine bT (T := Nat) (fun g => .any (.slice (some ⟨g, 0, none⟩) n n)) (fun g => [(some ⟨g, 0, none⟩, xs)]) hw0 (by kernel_rfl) rfl (fun _ => rfl) (fun β w' hm => hS w' hm.below) (fun g _ => ?_)) | refine yB (.bg [.int .i64 k1, .bool o1]) (fun _ => h1) ?_ | refine yB (.bg [.int .i64 k2, .bool o2]) (fun _ => h2) ?_ | ((with_reducible show ∃ _ : SV, _); first | refine yO (aJ underlying121) ?_ | refine yN (j := 0) underlying121 sizeOf9 ?_ | refine yN (j := 1) underlying121 sizeOf9 ?_ | refine yO (v := .str a) (aP 1 (.str a) (fun w => isAgg9 w) rfl (fun β => hx0)) ?_ | refine yO (v := .str b) (aP 1 (.str b) (fun w => isAgg9 w) rfl (fun β => hx1)) ?_ | (refine ⟨.bg [.int .i64 k1, .bool o1], by kernel_rfl, ⟨trivial, trivial, trivial⟩, fun β w hm => h1 w hm.below, ?_⟩)) | intro _)
 all_goals first | (exfalso; omega) | rfl | (exfalso; clear hS h1 h2; refine h ⟨?_, ?_, ?_, ?_, ?_⟩ <;> first | omega | (simp_all; done))
variable (k1 k2 : Nat) (hk1 : k1 <= 23) (hk2 : k2 <= 59) (ha : a.length <= 2) (L1 L2 : List UInt8)
 (h1 : ∀ w', BW w w' -> QC 118 #[.string (ah a), .int .i64 (a.length : Nat)] w' (.tuple #[.int .i64 (k1 : Nat), .bool true]))
 (h2 : ∀ w', BW w w' -> QC 118 #[.string (ah b), .int .i64 2] w' (.tuple #[.int .i64 (k2 : Nat), .bool true]))
 (hO : ∀ w', BW w w' -> QC 77 #[.int .i64 (3600 * (k1 : Int) + 60 * (k2 : Int))] w' (iI (L1, [49])))
 (hG : ∀ w', BW w w' -> QC 77 #[.int .i64 86400] w' (iI (L2, [49])))
include hk1 hk2 ha h1 h2 hO hG
theorem Oj (Q1 Q2 : List UInt8) (e : Int) (h : n = 2)
  (hV : ∀ w', BW w w' -> Calls Tryz.prog 112 #[iI (L1, [49]), iI (L2, [49])] w' (fQ (Q1, Q2) e w')) :
  QC 59 #[.string (ah s)] w (.tuple #[iI (Q1, Q2), .bool (decide (e = 0))]) := by
 have _u := hn
 refine yE func59 rfl results59 ntmps59 [] [200004, 200017] [.str s] w ?_
 repeat' (first | exact ⟨⟩ | refine yG ?_ ?_ | (refine bT (T := Nat) (fun g => .any (.slice (some ⟨g, 0, none⟩) n n)) (fun g => [(some ⟨g, 0, none⟩, xs)]) hw0 (by kernel_rfl) rfl (fun _ => rfl) (fun β w' hm => hS w' hm.below) (fun g _ => ?_)) | refine yB (.bg [.int .i64 (k1 : Nat), .lit true]) (fun _ => h1) ?_ | refine yB (.bg [.int .i64 (k2 : Nat), .lit true]) (fun _ => h2) ?_ | refine yB (.agg [.str L1, .str [49]]) (fun _ => hO) ?_ | refine yB (.agg [.str L2, .str [49]]) (fun _ => hG) ?_ | refine yB (.bg [.agg [.str Q1, .str Q2], .int .i64 e]) (fun _ => hV) ?_ | ((with_reducible show ∃ _ : SV, _); first | refine yO (aJ underlying121) ?_ | refine yN (j := 0) underlying121 sizeOf9 ?_ | refine yN (j := 1) underlying121 sizeOf9 ?_ | refine yO (v := .str a) (aP 1 (.str a) (fun w => isAgg9 w) rfl (fun β => hx0)) ?_ | refine yO (v := .str b) (aP 1 (.str b) (fun w => isAgg9 w) rfl (fun β => hx1)) ?_ | (refine ⟨.bg [.int .i64 (k1 : Nat), .lit true], by kernel_rfl, ⟨trivial, trivial, trivial⟩, fun β w hm => h1 w hm.below, ?_⟩) | (refine ⟨.agg [.str L2, .str [49]], by kernel_rfl, ⟨trivial, trivial, trivial⟩, fun β w hm => hG w hm.below, ?_⟩) | (refine ⟨.bg [.agg [.str Q1, .str Q2], .int .i64 e], by kernel_rfl, ⟨⟨trivial, trivial, trivial⟩, trivial, trivial⟩, fun β w hm => hV w hm.below, ?_⟩)) | intro _)
 all_goals first | (exfalso; omega) | rfl
variable (c x p d r : List UInt8) (point : Bool) (hx2 : xs[2]? = some (.string (ah c))) (h3 : n = 3)
 (hC : ∀ w', BW w w' -> QC 113 #[.string (ah c), .string (ah [46])] w' (.tuple #[.string (ah x), .string (ah p), .bool point]))
 (hE : ∀ w' : World, QC 119 #[.string (ah p)] w' (.tuple #[.string (ah d), .string (ah r)]))
include hx2 h3 hC hE
theorem Oi (k3 : Int) (o3 : Bool) (hX : ∀ w', BW w w' -> QC 118 #[.string (ah x), .int .i64 2] w' (.tuple #[.int .i64 k3, .bool o3]))
  (h : ¬ (o3 = true /\ k3 <= 59 /\ (point = true -> d ≠ [] /\ r = [] /\ d.length <= 9))) :
  QC 59 #[.string (ah s)] w (.tuple #[iI ([], []), .bool false]) := by
 have _u := And.intro hn hG
 refine yE func59 rfl results59 ntmps59 [] [200004, 200017] [.str s] w ?_
 repeat' (first | exact ⟨⟩ | refine yG ?_ ?_ | (refine bT (T := Nat) (fun g => .any (.slice (some ⟨g, 0, none⟩) n n)) (fun g => [(some ⟨g, 0, none⟩, xs)]) hw0 (by kernel_rfl) rfl (fun _ => rfl) (fun β w' hm => hS w' hm.below) (fun g _ => ?_)) | refine yB (.bg [.int .i64 (k1 : Nat), .lit true]) (fun _ => h1) ?_ | refine yB (.bg [.int .i64 (k2 : Nat), .lit true]) (fun _ => h2) ?_ | refine yB (.bg [.int .i64 k3, .bool o3]) (fun _ => hX) ?_ | refine yB (.agg [.str L1, .str [49]]) (fun _ => hO) ?_ | refine yB (.bg [.str x, .str p, .bool point]) (fun _ => hC) ?_ | refine yA (.bg [.str d, .str r]) (fun _ => hE) ?_ | ((with_reducible show ∃ _ : SV, _); first | refine yO (aJ underlying121) ?_ | refine yN (j := 0) underlying121 sizeOf9 ?_ | refine yN (j := 1) underlying121 sizeOf9 ?_ | refine yN (j := 2) underlying121 sizeOf9 ?_ | refine yO (v := .str a) (aP 1 (.str a) (fun w => isAgg9 w) rfl (fun β => hx0)) ?_ | refine yO (v := .str b) (aP 1 (.str b) (fun w => isAgg9 w) rfl (fun β => hx1)) ?_ | refine yO (v := .str c) (aP 1 (.str c) (fun w => isAgg9 w) rfl (fun β => hx2)) ?_ | (refine ⟨.bg [.int .i64 (k1 : Nat), .lit true], by kernel_rfl, ⟨trivial, trivial, trivial⟩, fun β w hm => h1 w hm.below, ?_⟩)) | intro _)
 all_goals first | (exfalso; omega) | rfl | (exfalso; clear hS h1 h2 hO hG hC hE hX; refine h ⟨?_, ?_, fun _ => ⟨?_, ?_, ?_⟩⟩ <;> first | omega | (simp_all; done)) | (exfalso; clear hS h1 h2 hO hG hC hE hX; refine h ⟨?_, ?_, fun hp => ?_⟩ <;> first | omega | (simp_all; done))
theorem Ho (k3 : Nat) (hX : ∀ w', BW w w' -> QC 118 #[.string (ah x), .int .i64 2] w' (.tuple #[.int .i64 (k3 : Nat), .bool true]))
  (h : k3 <= 59 /\ (point = true -> d ≠ [] /\ r = [] /\ d.length <= 9)) (P1 P2 S1 S2 Q1 Q2 : List UInt8) (e1 e2 e : Int)
  (hP : ∀ w', BW w w' -> Calls Tryz.prog 111 #[.string (ah c)] w' (fQ (P1, P2) e1 w'))
  (hA : ∀ w', BW w w' -> Calls Tryz.prog 115 #[iI (L1, [49]), iI (P1, P2)] w' (fQ (S1, S2) e2 w'))
  (hV : ∀ w', BW w w' -> Calls Tryz.prog 112 #[iI (S1, S2), iI (L2, [49])] w' (fQ (Q1, Q2) e w')) :
  QC 59 #[.string (ah s)] w (.tuple #[iI (Q1, Q2), .bool (decide (e = 0))]) := by
 have _u := hn
 refine yE func59 rfl results59 ntmps59 [] [200004, 200017] [.str s] w ?_
 repeat' (first | exact ⟨⟩ | refine yG ?_ ?_ | (refine bT (T := Nat) (fun g => .any (.slice (some ⟨g, 0, none⟩) n n)) (fun g => [(some ⟨g, 0, none⟩, xs)]) hw0 (by kernel_rfl) rfl (fun _ => rfl) (fun β w' hm => hS w' hm.below) (fun g _ => ?_)) | refine yB (.bg [.int .i64 (k1 : Nat), .lit true]) (fun _ => h1) ?_ | refine yB (.bg [.int .i64 (k2 : Nat), .lit true]) (fun _ => h2) ?_ | refine yB (.bg [.int .i64 (k3 : Nat), .lit true]) (fun _ => hX) ?_ | refine yB (.agg [.str L1, .str [49]]) (fun _ => hO) ?_ | refine yB (.agg [.str L2, .str [49]]) (fun _ => hG) ?_ | refine yB (.bg [.str x, .str p, .bool point]) (fun _ => hC) ?_ | refine yA (.bg [.str d, .str r]) (fun _ => hE) ?_ | refine yB (.bg [.agg [.str P1, .str P2], .int .i64 e1]) (fun _ => hP) ?_ | refine yB (.bg [.agg [.str S1, .str S2], .int .i64 e2]) (fun _ => hA) ?_ | refine yB (.bg [.agg [.str Q1, .str Q2], .int .i64 e]) (fun _ => hV) ?_ | ((with_reducible show ∃ _ : SV, _); first | refine yO (aJ underlying121) ?_ | refine yN (j := 0) underlying121 sizeOf9 ?_ | refine yN (j := 1) underlying121 sizeOf9 ?_ | refine yN (j := 2) underlying121 sizeOf9 ?_ | refine yO (v := .str a) (aP 1 (.str a) (fun w => isAgg9 w) rfl (fun β => hx0)) ?_ | refine yO (v := .str b) (aP 1 (.str b) (fun w => isAgg9 w) rfl (fun β => hx1)) ?_ | refine yO (v := .str c) (aP 1 (.str c) (fun w => isAgg9 w) rfl (fun β => hx2)) ?_ | (refine ⟨.bg [.int .i64 (k1 : Nat), .lit true], by kernel_rfl, ⟨trivial, trivial, trivial⟩, fun β w hm => h1 w hm.below, ?_⟩) | (refine ⟨.agg [.str L2, .str [49]], by kernel_rfl, ⟨trivial, trivial, trivial⟩, fun β w hm => hG w hm.below, ?_⟩) | (refine ⟨.bg [.agg [.str Q1, .str Q2], .int .i64 e], by kernel_rfl, ⟨⟨trivial, trivial, trivial⟩, trivial, trivial⟩, fun β w hm => hV w hm.below, ?_⟩)) | intro _)
 all_goals first | (exfalso; omega) | rfl | (exfalso; clear hS h1 h2 hO hG hC hE hX hP hA hV; have h' := h.2 (by assumption); first | (have := h'.2.2; omega) | exact h'.1 (by assumption) | exact (by assumption : ¬ _) h'.2.1 | (simp_all; done) | fail)
end
theorem ae.NV {n : Nat} (h : n < 10000000000000000000000000) : ae.nd 10 n <= 300 := Nat.le_trans (ae.dX (n := 25) (by omega) (by simpa using h)) (by omega)
theorem ae.e25 {m : Bool} {n d : Nat} (h : n < 10000000000000000000000000) (h' : d < 10000000000000000000000000) (h0 : 0 < d) : ae.ay ⟨m, n, d⟩ = 0 := ae.jl (x := ⟨m, n, d⟩) (ae.NV h) (ae.NV h') h0
theorem af.Xj {a b : List UInt8} {k1 k2 : Int} {o1 o2 : Bool} (p1 : o1 = true -> a ≠ [] /\ a.all ae.aY = true /\ (a.length : Int) = (a.length : Nat)) (q1 : 1 <= a.length -> a.length <= 18 -> a.all ae.aY = true -> (a.length : Int) = (a.length : Nat) -> o1 = true /\ k1 = (ae.ax a : Nat))
  (p2 : o2 = true -> b ≠ [] /\ b.all ae.aY = true /\ (b.length : Int) = 2) (q2 : 1 <= b.length -> b.length <= 18 -> b.all ae.aY = true -> (b.length : Int) = 2 -> o2 = true /\ k2 = (ae.ax b : Nat)) :
  ((o1 = true /\ o2 = true /\ a.length <= 2 /\ k1 <= 23 /\ k2 <= 59) ↔ af.Qg a b = true) /\ (af.Qg a b = true -> k1 = (ae.ax a : Nat) /\ k2 = (ae.ax b : Nat) /\ ae.ax a <= 23 /\ ae.ax b <= 59 /\ a.length <= 2) := by
 unfold af.Qg af.mV
 simp only [Bool.and_eq_true, decide_eq_true_eq, Bool.not_eq_true', List.isEmpty_eq_false_iff]
 constructor
 ·constructor
  ·rintro ⟨h1, h2, h3, h4, h5⟩
   obtain ⟨a0, a1, -⟩ := p1 h1
   obtain ⟨b0, b1, b2⟩ := p2 h2
   have ha : 1 <= a.length := List.length_pos_iff.2 a0
   obtain ⟨-, rfl⟩ := q1 ha (by omega) a1 rfl
   obtain ⟨-, rfl⟩ := q2 (by omega) (by omega) b1 b2
   exact ⟨⟨⟨⟨⟨a0, a1⟩, h3⟩, b1, by omega⟩, by omega⟩, by omega⟩
  ·rintro ⟨⟨⟨⟨⟨a0, a1⟩, h3⟩, b1, b2⟩, h4⟩, h5⟩
   have ha : 1 <= a.length := List.length_pos_iff.2 a0
   obtain ⟨r1, rfl⟩ := q1 ha (by omega) a1 rfl
   obtain ⟨r2, rfl⟩ := q2 (by omega) (by omega) b1 (by omega)
   exact ⟨r1, r2, h3, by omega, by omega⟩
 ·rintro ⟨⟨⟨⟨⟨a0, a1⟩, h3⟩, b1, b2⟩, h4⟩, h5⟩
  have ha : 1 <= a.length := List.length_pos_iff.2 a0
  obtain ⟨-, e1⟩ := q1 ha (by omega) a1 rfl
  obtain ⟨-, e2⟩ := q2 (by omega) (by omega) b1 (by omega)
  exact ⟨e1, e2, h4, h5, h3⟩
theorem af.MW {c : UInt8} {s : List UInt8} (h : (af.bK c s).2.2 = false) : af.bK c s = (s, [], false) := by
 unfold af.bK at h ⊢
 split at h
 ·cases h
 ·rename_i h'; rw [if_neg h']
theorem af.QI {c : UInt8} {s : List UInt8} (h : (af.bK c s).2.2 = true) : s = (af.bK c s).1 ++ c :: (af.bK c s).2.1 := by
 unfold af.bK at h ⊢
 split at h
 ·rename_i h'; rw [if_pos h']; exact af.qm h'
 ·cases h
theorem ae.V3 {x p : List UInt8} {point : Bool} (hx : x ≠ []) (ha : x.all ae.aY = true) (hl : x.length <= 2) (hp : point = true -> p ≠ [] /\ p.all ae.aY = true /\ p.length <= 9) (hn : point = false -> p = []) {c : List UInt8} (hc : c = if point = true then x ++ 46 :: p else x) :
  ae.jM c = 0 /\ ae.fA c = ⟨false, ae.ax (x ++ p), 10 ^ p.length⟩ := by
 cases point with
 | false =>
   rw [if_neg Bool.false_ne_true] at hc
   obtain rfl := hn rfl
   subst hc
   obtain ⟨h1, h2⟩ := ae.Bc hx ha (by omega)
   rw [h1, h2]
   simp
 | true =>
   rw [if_pos rfl] at hc
   obtain ⟨p0, p1, p2⟩ := hp rfl
   have hM : ae.aO c = (c, false) := by
    unfold ae.aO
    rw [if_neg]
    rw [hc]
    exact af.IA hx ha
   obtain ⟨r1, r2⟩ := af.NT (d := x) (r := 46 :: p) ha (fun c q e => by cases e; rfl)
   rw [<- hc] at r1 r2
   obtain ⟨s1, s2⟩ := ae.jy p1
   have hlen : c.length <= 12 := by rw [hc]; simp; omega
   have hD : ae.iE c = p := by unfold ae.iE; rw [hM, r2]; unfold ae.x8; simp [s1]
   have hT : ae.fD c = [] := by unfold ae.fD; rw [hM, r2]; unfold ae.BQ; simp [s2]
   have hW : ae.gY c = x := by unfold ae.gY; rw [hM]; exact r1
   constructor
   ·unfold ae.jM
    rw [if_neg (by omega), if_neg]
    rw [hM, r2, hW, hT]
    rintro (h | h | h)
    ·simp [ae.nz, s1, p0] at h
    ·exact hx h
    ·cases h
   ·unfold ae.fA
    rw [hM, hD, hT, hW]
    have h0 : 0 < p.length := List.length_pos_iff.2 p0
    unfold ae.aG
    rw [if_pos (by simp [ae.lK]; omega)]
    simp [ae.lK]
theorem af.uj {x p : List UInt8} {point : Bool} : af.JA x p point = true ↔ (x.all ae.aY = true /\ x.length = 2) /\ ae.ax x <= 59 /\ (point = true -> p ≠ [] /\ p.all ae.aY = true /\ p.length <= 9) := by
 unfold af.JA af.mV
 cases point <;> simp [and_assoc]
theorem C9 (s : List UInt8) (w : World) (hw : XV w) (hl : s.length <= 40000) : Reads 59 s (af.jQ s) w := by
 have hS := fun (w' : World) (h : BW w w') => Dh 58 s w' (hw.below h) (by omega)
 have hlen := jJ 58 s
 have G := fun (w' : World) (h : BW w w') => xZ 86400 w' (hw.below h).xw (by omega) (by omega)
 have g1 : (Lib.itoa 86400, ([49] : List UInt8)) = ae.ak ⟨false, 86400, 1⟩ := ae.vJ (n := 86400) (by omega)
 have g2 : ae.ay ⟨false, 86400, 1⟩ = 0 := ae.e25 (by omega) (by omega) (by omega)
 by_cases h23 : (af.aN 58 s).length < 2 \/ 3 < (af.aN 58 s).length
 ·have hv : af.jQ s = none := by
   unfold af.jQ
   split
   ·rename_i h; rw [h] at h23; simp at h23
   ·rename_i h; rw [h] at h23; simp at h23
   ·rfl
  rw [hv]
  refine ⟨([], []), (fun x h => by cases h), ⟨by simp, by simp⟩, fun w' hb => ?_⟩
  exact Oh s _ _ w' (hw.below hb).pos (fun w2 h2 => hS w2 (bZ hb h2)) h23
 ·have main : ∀ (a b : List UInt8) (xs : List (List UInt8)), af.aN 58 s = a :: b :: xs -> (xs = [] \/ ∃ c, xs = [c]) -> Reads 59 s (af.jQ s) w := by
   intro a b xs hsp hxs
   rw [hsp] at hS hlen
   have la := hlen a (by simp)
   have lb := hlen b (by simp)
   have hn : (a :: b :: xs).length = 2 \/ (a :: b :: xs).length = 3 := by
    rcases hxs with rfl | ⟨c, rfl⟩
    ·exact .inl rfl
    ·exact .inr rfl
   have hx0 : (bP (a :: b :: xs))[0]? = some (.string (ah a)) := rfl
   have hx1 : (bP (a :: b :: xs))[1]? = some (.string (ah b)) := rfl
   obtain ⟨k1, o1, p1, q1, H1⟩ := count_any a (a.length : Nat) w hw (by omega)
   obtain ⟨k2, o2, p2, q2, H2⟩ := count_any b 2 w hw (by omega)
   obtain ⟨hI, hK⟩ := af.Xj p1 q1 p2 q2
   by_cases hm : af.Qg a b = true
   ·obtain ⟨rfl, rfl, m1, m2, m3⟩ := hK hm
    obtain ⟨rfl, rfl, -, -, -⟩ := hI.2 hm
    have e3 : (3600 * ((ae.ax a : Nat) : Int) + 60 * ((ae.ax b : Nat) : Int)) = ((af.hmN a b : Nat) : Int) := by unfold af.hmN; omega
    have hN : af.hmN a b <= 86340 := by unfold af.hmN; omega
    have O := fun (w' : World) (h : BW w w') => xZ ((af.hmN a b : Nat) : Int) w' (hw.below h).xw (by omega) (by omega)
    have f1 : (Lib.itoa ((af.hmN a b : Nat) : Int), ([49] : List UInt8)) = ae.ak ⟨false, af.hmN a b, 1⟩ := ae.vJ (by omega)
    have f2 : ae.ay ⟨false, af.hmN a b, 1⟩ = 0 := ae.e25 (by omega) (by omega) (by omega)
    rcases hxs with rfl | ⟨c, rfl⟩
    ·have hv : af.jQ s = some ⟨false, af.hmN a b, 86400⟩ := by
      unfold af.jQ
      rw [hsp]
      exact if_pos hm
     rw [hv]
     obtain ⟨d1, d2⟩ := ae.QY (x := ⟨false, af.hmN a b, 1⟩) (y := ⟨false, 86400, 1⟩) rfl rfl Nat.one_pos Nat.one_pos f2 g2 (by show (86400 : Nat) ≠ 0; omega)
     dsimp only at d1 d2
     rw [Nat.mul_one, Nat.one_mul] at d1 d2
     have lF := ae.dI ⟨false, af.hmN a b, 1⟩
     have lG := ae.dI ⟨false, 86400, 1⟩
     have V := fun (w' : World) (h : BW w w') => Ag (ae.ak ⟨false, af.hmN a b, 1⟩) (ae.ak ⟨false, 86400, 1⟩) w' (hw.below h).xw (hw.below h).pos (by omega) (by omega) (by omega) (by omega)
     rw [d1, d2, ae.e25 (m := false) (n := af.hmN a b) (d := 86400) (by omega) (by omega) (by omega), <- f1, <- g1] at V
     refine ⟨ae.ak ⟨false, af.hmN a b, 86400⟩, (fun x h => by cases h; rfl), ae.dI _, fun w' hb => ?_⟩
     have := Oj s _ _ w' (hw.below hb).pos (fun w2 h2 => hS w2 (bZ hb h2)) a b hn hx0 hx1 (ae.ax a) (ae.ax b) m1 m2 m3 _ _ (fun w2 h2 => H1 w2 (bZ hb h2)) (fun w2 h2 => H2 w2 (bZ hb h2)) (fun w2 h2 => by rw [e3]; exact O w2 (bZ hb h2)) (fun w2 h2 => G w2 (bZ hb h2)) _ _ _ rfl (fun w2 h2 => V w2 (bZ hb h2))
     exact this
    ·have lc := hlen c (by simp)
     have hx2 : (bP (a :: b :: [c]))[2]? = some (.string (ah c)) := rfl
     have C := fun (w' : World) (h : BW w w') => xg 46 c w' (hw.below h) (by omega)
     obtain ⟨Yq, Yr⟩ := af.ru 46 c
     have hcn := @af.MW 46 c
     have hcy := @af.QI 46 c
     have hv : af.jQ s = af.zT a b (af.bK 46 c).1 (af.bK 46 c).2.1 (af.bK 46 c).2.2 := by
      unfold af.jQ
      rw [hsp]
     rw [hv]
     obtain ⟨z, hz⟩ : ∃ z, af.bK 46 c = z := ⟨_, rfl⟩
     rw [hz] at C Yq Yr hcn hcy ⊢
     obtain ⟨x, p, point⟩ := z
     dsimp only at *
     have E := fun (w' : World) => oJ p w' (by omega)
     obtain ⟨k3, o3, p3, q3, H3⟩ := count_any x 2 w hw (by omega)
     have hrun : (ae.aW p ≠ [] /\ ae.bf p = [] /\ (ae.aW p).length <= 9) ↔ (p ≠ [] /\ p.all ae.aY = true /\ p.length <= 9) := by
      constructor
      ·rintro ⟨t1, t2, t3⟩
       have t4 := ae.Am t2
       have t5 := (ae.jy t4).1
       rw [t5] at t1 t3
       exact ⟨t1, t4, t3⟩
      ·rintro ⟨t1, t2, t3⟩
       obtain ⟨t4, t5⟩ := ae.jy t2
       rw [t4, t5]
       exact ⟨t1, rfl, t3⟩
     by_cases hs : af.JA x p point = true
     ·obtain ⟨⟨u1, u2⟩, u3, u4⟩ := af.uj.1 hs
      obtain ⟨rfl, rfl⟩ := q3 (by omega) (by omega) u1 (by omega)
      have hpn : point = false -> p = [] := fun h => by
       have := hcn h
       cases this; rfl
      have hcc : c = if point = true then x ++ 46 :: p else x := by
       cases point with
       | true => rw [if_pos rfl]; exact hcy rfl
       | false => rw [if_neg Bool.false_ne_true]; have := hcn rfl; cases this; rfl
      have hx' : x ≠ [] := fun e => by rw [e] at u2; cases u2
      obtain ⟨y1, y2⟩ := ae.V3 hx' u1 (by omega) u4 hpn hcc
      have hpl : p.length <= 9 := by
       cases point with
       | true => exact (u4 rfl).2.2
       | false => rw [hpn rfl]; simp
      have hpd : p.all ae.aY = true := by
       cases point with
       | true => exact (u4 rfl).2.1
       | false => rw [hpn rfl]; rfl
      have hval : ae.ax (x ++ p) < 100000000000 := by
       have h1 := ae.jW (x ++ p) (by rw [List.all_append, u1, hpd]; rfl)
       have h2 : (10 : Nat) ^ (x ++ p).length <= 10 ^ 11 := Nat.pow_le_pow_right (by omega) (by rw [List.length_append]; omega)
       omega
      have Xl : 10 ^ p.length <= 1000000000 := by
       have h2 : (10 : Nat) ^ p.length <= 10 ^ 9 := Nat.pow_le_pow_right (by omega) hpl
       omega
      have IB : 0 < 10 ^ p.length := Nat.pow_pos (by omega)
      have hv2 : af.zT a b x p point = some ⟨false, af.hmN a b * 10 ^ p.length + ae.ax (x ++ p), 10 ^ p.length * 86400⟩ := if_pos ⟨hm, hs⟩
      rw [hv2]
      have P := fun (w' : World) (h : BW w w') => x9 c w' (hw.below h).xw (hw.below h).pos (by omega)
      have hmul : af.hmN a b * 10 ^ p.length <= 86340 * 1000000000 := Nat.mul_le_mul hN Xl
      simp only [y1, y2, if_true] at P
      generalize ae.ax (x ++ p) = v at *
      generalize 10 ^ p.length = T at *
      have pe : ae.ay ⟨false, v, T⟩ = 0 := ae.e25 (by omega) (by omega) IB
      rw [pe] at P
      obtain ⟨a1, a2⟩ := ae.Qn (x := ⟨false, af.hmN a b, 1⟩) (y := ⟨false, v, T⟩) rfl rfl Nat.one_pos IB f2 pe
      dsimp only at a1 a2
      rw [Nat.mul_one, Nat.one_mul] at a1 a2
      have se : ae.ay ⟨false, af.hmN a b * T + v, T⟩ = 0 := ae.e25 (by omega) (by omega) IB
      obtain ⟨d1, d2⟩ := ae.QY (x := ⟨false, af.hmN a b * T + v, T⟩) (y := ⟨false, 86400, 1⟩) rfl rfl IB Nat.one_pos se g2 (by show (86400 : Nat) ≠ 0; omega)
      dsimp only at d1 d2
      rw [Nat.mul_one] at d1 d2
      have lF := ae.dI ⟨false, af.hmN a b, 1⟩
      have lG := ae.dI ⟨false, 86400, 1⟩
      have lP := ae.dI ⟨false, v, T⟩
      have lS := ae.dI ⟨false, af.hmN a b * T + v, T⟩
      have A := fun (w' : World) (h : BW w w') => add_any (ae.ak ⟨false, af.hmN a b, 1⟩) (ae.ak ⟨false, v, T⟩) w' (hw.below h).xw (hw.below h).pos (by omega) (by omega) (by omega) (by omega)
      rw [a1, a2, se, <- f1] at A
      have V := fun (w' : World) (h : BW w w') => Ag (ae.ak ⟨false, af.hmN a b * T + v, T⟩) (ae.ak ⟨false, 86400, 1⟩) w' (hw.below h).xw (hw.below h).pos (by omega) (by omega) (by omega) (by omega)
      rw [d1, d2, ae.e25 (m := false) (n := af.hmN a b * T + v) (d := T * 86400) (by omega) (by omega) (by omega), <- g1] at V
      refine ⟨ae.ak ⟨false, af.hmN a b * T + v, T * 86400⟩, (fun x h => by cases h; rfl), ae.dI _, fun w' hb => ?_⟩
      have := Ho s _ _ w' (hw.below hb).pos (fun w2 h2 => hS w2 (bZ hb h2)) a b hn hx0 hx1 (ae.ax a) (ae.ax b) m1 m2 m3 _ _ (fun w2 h2 => H1 w2 (bZ hb h2)) (fun w2 h2 => H2 w2 (bZ hb h2)) (fun w2 h2 => by rw [e3]; exact O w2 (bZ hb h2)) (fun w2 h2 => G w2 (bZ hb h2)) c x p (ae.aW p) (ae.bf p) point hx2 rfl (fun w2 h2 => C w2 (bZ hb h2)) E (ae.ax x) (fun w2 h2 => H3 w2 (bZ hb h2)) ⟨u3, fun hp => hrun.2 (u4 hp)⟩ _ _ _ _ _ _ _ _ _ (fun w2 h2 => P w2 (bZ hb h2)) (fun w2 h2 => A w2 (bZ hb h2)) (fun w2 h2 => V w2 (bZ hb h2))
      exact this
     ·have hv2 : af.zT a b x p point = none := if_neg (fun h => hs h.2)
      rw [hv2]
      refine ⟨([], []), (fun x h => by cases h), ⟨by simp, by simp⟩, fun w' hb => ?_⟩
      refine Oi s _ _ w' (hw.below hb).pos (fun w2 h2 => hS w2 (bZ hb h2)) a b hn hx0 hx1 (ae.ax a) (ae.ax b) m1 m2 m3 _ (Lib.itoa 86400) (fun w2 h2 => H1 w2 (bZ hb h2)) (fun w2 h2 => H2 w2 (bZ hb h2)) (fun w2 h2 => by rw [e3]; exact O w2 (bZ hb h2)) (fun w2 h2 => G w2 (bZ hb h2)) c x p (ae.aW p) (ae.bf p) point hx2 rfl (fun w2 h2 => C w2 (bZ hb h2)) E k3 o3 (fun w2 h2 => H3 w2 (bZ hb h2)) ?_
      rintro ⟨t1, t2, t3⟩
      obtain ⟨-, t4, t5⟩ := p3 t1
      obtain ⟨-, rfl⟩ := q3 (by omega) (by omega) t4 t5
      exact hs (af.uj.2 ⟨⟨t4, by omega⟩, by omega, fun hp => hrun.1 (t3 hp)⟩)
   ·have hv : af.jQ s = none := by
     unfold af.jQ
     rw [hsp]
     rcases hxs with rfl | ⟨c, rfl⟩
     ·exact if_neg hm
     ·exact if_neg (fun h => hm h.1)
    rw [hv]
    refine ⟨([], []), (fun x h => by cases h), ⟨by simp, by simp⟩, fun w' hb => ?_⟩
    exact QA s _ _ w' (hw.below hb).pos (fun w2 h2 => hS w2 (bZ hb h2)) a b hn hx0 hx1 k1 k2 o1 o2 (fun w2 h2 => H1 w2 (bZ hb h2)) (fun w2 h2 => H2 w2 (bZ hb h2)) (fun h => hm (hI.1 h))
  match hsp : af.aN 58 s, h23 with
  | [a, b], _ => exact main a b [] hsp (.inl rfl)
  | [a, b, c], _ => exact main a b [c] hsp (.inr ⟨c, rfl⟩)
  | [], h => simp at h
  | [a], h => simp at h
  | a :: b :: c :: d :: e, h => simp at h
theorem instant_raw (s x y D1 D2 T1 T2 S1 S2 : List UInt8) (ok a b : Bool) (e : Int) (w : World)
  (hC : ∀ w', BW w w' -> QC 113 #[.string (ah s), .string (ah [32])] w' (.tuple #[.string (ah x), .string (ah y), .bool ok]))
  (hD : ∀ w', BW w w' -> QC 58 #[.string (ah x)] w' (.tuple #[iI (D1, D2), .bool a]))
  (hT : ∀ w', BW w w' -> QC 59 #[.string (ah y)] w' (.tuple #[iI (T1, T2), .bool b]))
  (hA : ∀ w', BW w w' -> Calls Tryz.prog 115 #[iI (D1, D2), iI (T1, T2)] w' (fQ (S1, S2) e w')) :
  QC 60 #[.string (ah s)] w (.tuple #[iI (S1, S2), .bool (ok && a && b && decide (e = 0))]) := by
 refine yE func60 rfl results60 ntmps60 [] [] [.str s] w ?_
 repeat' (first | exact ⟨⟩ | refine yG ?_ ?_ | refine yB (.bg [.str x, .str y, .bool ok]) (fun _ => hC) ?_ | refine yB (.bg [.agg [.str D1, .str D2], .bool a]) (fun _ => hD) ?_ | refine yB (.bg [.agg [.str T1, .str T2], .bool b]) (fun _ => hT) ?_ | refine yB (.bg [.agg [.str S1, .str S2], .int .i64 e]) (fun _ => hA) ?_ | intro _)
 all_goals (clear hC hD hT hA; first | (exfalso; omega) | (simp_all [SV.den, SV.aF]; done))
theorem af.mF {s : List UInt8} {x : ae.Num} (h : af.jQ s = some x) : x.m = false /\ 0 < x.d /\ x.n < 100000000000000000 /\ x.d < 1000000000000000 := by
 unfold af.jQ at h
 split at h
 ·rename_i a b _
  split at h
  ·rename_i hm
   cases h
   have : af.hmN a b <= 86340 := by
    unfold af.Qg at hm
    simp only [Bool.and_eq_true, decide_eq_true_eq] at hm
    unfold af.hmN
    omega
   exact ⟨rfl, by show 0 < 86400; omega, by show af.hmN a b < _; omega, by show 86400 < _; omega⟩
  ·cases h
 ·rename_i a b c _
  unfold af.zT at h
  split at h
  ·rename_i hm
   cases h
   obtain ⟨hm, hs⟩ := hm
   have hN : af.hmN a b <= 86340 := by
    unfold af.Qg at hm
    simp only [Bool.and_eq_true, decide_eq_true_eq] at hm
    unfold af.hmN
    omega
   obtain ⟨⟨u1, u2⟩, u3, u4⟩ := af.uj.1 hs
   have hcn := @af.MW 46 c
   generalize (af.bK 46 c).2.2 = point at *
   have hp : (af.bK 46 c).2.1.all ae.aY = true /\ (af.bK 46 c).2.1.length <= 9 := by
    cases point with
    | true => exact ⟨(u4 rfl).2.1, (u4 rfl).2.2⟩
    | false => rw [hcn rfl]; exact ⟨rfl, by simp⟩
   clear hcn u4
   generalize (af.bK 46 c).1 = x at *
   generalize (af.bK 46 c).2.1 = p at *
   have hval : ae.ax (x ++ p) < 100000000000 := by
    have h1 := ae.jW (x ++ p) (by rw [List.all_append, u1, hp.1]; rfl)
    have h2 : (10 : Nat) ^ (x ++ p).length <= 10 ^ 11 := Nat.pow_le_pow_right (by omega) (by rw [List.length_append]; omega)
    omega
   have Xl : 10 ^ p.length <= 1000000000 := by
    have h2 : (10 : Nat) ^ p.length <= 10 ^ 9 := Nat.pow_le_pow_right (by omega) hp.2
    omega
   have IB : 0 < 10 ^ p.length := Nat.pow_pos (by omega)
   have hmul : af.hmN a b * 10 ^ p.length <= 86340 * 1000000000 := Nat.mul_le_mul hN Xl
   dsimp only
   exact ⟨rfl, by omega, by omega, by omega⟩
  ·cases h
 ·cases h
theorem ae.V9 (f g : ae.Fr) (N : ae.Num) (e : Int) : (ae.oQ f g N e).1.length <= 301 /\ (ae.oQ f g N e).2.length <= 300 := by
 unfold ae.oQ
 split
 ·split
  ·exact ae.dI _
  ·exact ⟨by simp, by simp⟩
 ·exact ⟨by simp, by simp⟩
theorem af.Ah (s : List UInt8) : af.zX s = match af.jH (af.bK 32 s).1, af.jQ (af.bK 32 s).2.1 with
  | some d, some x => if (af.bK 32 s).2.2 = true then some (ae.fP d x) else none
  | _, _ => none := by
 unfold af.zX af.jH
 by_cases h : 0 < af.gX (af.bK 32 s).1
 ·rw [if_pos h]
  cases af.jQ (af.bK 32 s).2.1 with
  | none => rfl
  | some x =>
    dsimp only
    by_cases h2 : (af.bK 32 s).2.2 = true
    ·rw [if_pos ⟨h2, h⟩, if_pos h2]
    ·rw [if_neg (fun h => h2 h.1), if_neg h2]
 ·rw [if_neg h]
  cases af.jQ (af.bK 32 s).2.1 with
  | none => rfl
  | some x => exact if_neg (fun h' => h h'.2)
theorem GG (s : List UInt8) (w : World) (hw : XV w) (hl : s.length <= 40000) : Reads 60 s (af.zX s) w := by
 obtain ⟨Yq, Yr⟩ := af.ru 32 s
 have C := fun (w' : World) (h : BW w w') => xg 32 s w' (hw.below h) (by omega)
 have D := EO (af.bK 32 s).1 w hw (by omega)
 have T := C9 (af.bK 32 s).2.1 w hw (by omega)
 have hcs := @af.mF (af.bK 32 s).2.1
 have hdb : ∀ d, af.jH (af.bK 32 s).1 = some d -> d.m = false /\ d.d = 1 /\ d.n <= 2958464 := fun d hd => by
  unfold af.jH at hd
  split at hd
  ·cases hd
   refine ⟨rfl, rfl, ?_⟩
   have hle : af.gX (af.bK 32 s).1 <= 2958464 := by
    unfold af.gX
    split
    ·split
     ·exact (af.Af _ _ _).2
     ·omega
    ·omega
   show (af.gX (af.bK 32 s).1).toNat <= 2958464
   omega
  ·cases hd
 rw [af.Ah]
 generalize af.jH (af.bK 32 s).1 = dO at *
 generalize af.jQ (af.bK 32 s).2.1 = cO at *
 generalize (af.bK 32 s).1 = x at *
 generalize (af.bK 32 s).2.1 = y at *
 generalize (af.bK 32 s).2.2 = ok at *
 obtain ⟨F, hF, lF, hD⟩ := D
 obtain ⟨G, hG, lG, hT⟩ := T
 have A := fun (w' : World) (h : BW w w') => add_any F G w' (hw.below h).xw (hw.below h).pos (by omega) (by omega) (by omega) (by omega)
 have lS := ae.V9 F G (ae.fP (ae.az F) (ae.az G)) 0
 have key : ∀ d z, dO = some d -> cO = some z -> ae.oQ F G (ae.fP (ae.az F) (ae.az G)) 0 = ae.ak (ae.fP d z) /\ ae.qR F G (ae.fP (ae.az F) (ae.az G)) 0 = 0 := fun d z hd hz => by
  obtain ⟨rfl⟩ := hF d hd
  obtain ⟨rfl⟩ := hG z hz
  obtain ⟨z1, z2, z3, z4⟩ := hcs hz
  obtain ⟨d1, d2, d3⟩ := hdb d hd
  obtain ⟨zm, zn, zd⟩ := z
  obtain ⟨dm, dn, dd⟩ := d
  dsimp only at *
  subst z1 d1 d2
  have hmul : dn * zd <= 2958464 * 1000000000000000 := Nat.mul_le_mul d3 (by omega)
  have e1 : ae.ay ⟨false, dn, 1⟩ = 0 := ae.e25 (by omega) (by omega) (by omega)
  have e2 : ae.ay ⟨false, zn, zd⟩ = 0 := ae.e25 (by omega) (by omega) z2
  obtain ⟨a1, a2⟩ := ae.Qn (x := ⟨false, dn, 1⟩) (y := ⟨false, zn, zd⟩) rfl rfl Nat.one_pos z2 e1 e2
  dsimp only at a1 a2
  have hs : ae.fP ⟨false, dn, 1⟩ ⟨false, zn, zd⟩ = ⟨false, dn * zd + zn * 1, 1 * zd⟩ := if_pos rfl
  rw [a1, a2, hs]
  exact ⟨rfl, ae.e25 (by omega) (by omega) (by omega)⟩
 generalize ae.oQ F G (ae.fP (ae.az F) (ae.az G)) 0 = S at *
 generalize ae.qR F G (ae.fP (ae.az F) (ae.az G)) 0 = e at *
 refine ⟨S, fun v hv => ?_, lS, fun w' hb => ?_⟩
 ·cases dO with
  | none => cases hv
  | some d =>
    cases cO with
    | none => cases hv
    | some z =>
      dsimp only at hv
      split at hv
      ·cases hv; exact (key d z rfl rfl).1
      ·cases hv
 ·have := instant_raw s x y _ _ _ _ _ _ ok dO.isSome cO.isSome e w' (fun w2 h2 => C w2 (bZ hb h2)) (fun w2 h2 => hD w2 (bZ hb h2)) (fun w2 h2 => hT w2 (bZ hb h2)) (fun w2 h2 => A w2 (bZ hb h2))
  have hv : (match dO, cO with
    | some d, some x => if ok = true then some (ae.fP d x) else none
    | _, _ => none).isSome = (ok && dO.isSome && cO.isSome && decide (e = 0)) := by
   cases dO with
   | none => simp
   | some d =>
     cases cO with
     | none => simp
     | some z =>
       have he := (key d z rfl rfl).2
       cases ok <;> simp [he]
  rw [hv]
  exact this
end
end Go.Proofs.YtdkhkfdenlabaaaGreatDoor
