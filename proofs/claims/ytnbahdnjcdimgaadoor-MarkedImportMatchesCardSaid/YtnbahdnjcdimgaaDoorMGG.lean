/- A walk that reckons: bytes that are known, turned into a string. A walk that reckons: bytes that a conversion has made, written. Marked-down texts, the reference: characters. Marked-down texts, plainly: the marks of a paragraph; lines; what is lost. Marked-down texts, plainly: items, what is lost, marks that toggle. Marked-down texts, the reference: characters, marks, attributes held together. -/
import Derived.Test.YtnbahdnjcdimgaaDoorMGE
import Derived.Test.YtnbahdnjcdimgaaDoorMGD
import Derived.Lib.FrozenHead
import Derived.Test.YtnbahdnjcdimgaaDoorMMkW1
import Derived.Test.YtnbahdnjcdimgaaDoorMGF
import Derived.Lib.Strings
import Derived.Lib.TrimByte
set_option linter.unusedSimpArgs false
set_option linter.unusedVariables false
namespace Go.Proofs.YtnbahdnjcdimgaaDoor
open Go.RowKit
namespace Sym
theorem x_shlE {C : Ctx} {G : Blobs} {x y : Operand} {t u : TypeId} {k k' : IntKind} {a q : Int} (n : Nat) (c : Int) (hq : q = (n : Nat)) (hc : a * 2 ^ n = c) (hn : n ≤ k.bits) (hw : inK k c) : ExtN C G (.binOp .shl t x y u) [.int k a, .int k' q] (.int k c) := by
  subst hc; subst hq; exact x_shl n hn hw
end Sym
end Go.Proofs.YtnbahdnjcdimgaaDoor
namespace Go.Proofs.YtnbahdnjcdimgaaDoor
open Go.RowKit
namespace Sym
/-- a row of one's own whose frozen mark lies behind all that is known -/
def OwnF (e : TypeId) (g n : Nat) (xs : List Value) (b : Nat) (o : Option Obj) : Prop := b = g ∧ ∃ cur fz, o = some (.cells cur e fz) ∧ n ≤ fz.1 ∧ n ≤ cur.size ∧ cur.toList.take n = xs ∧ xs.length = n
theorem OwnF.cell {e : TypeId} {g n : Nat} {xs : List Value} {b : Nat} {w : World} (h : OwnF e g n xs b w.heap[b]?) : ∀ j u, xs[j]? = some u → w.cell? ((⟨g, 0, none⟩ : Addr).add j) = some u := by
  intro j u hu
  obtain ⟨rfl, cur, fz, ho, -, hn, ht, hl⟩ := h
  have hadd : (⟨b, 0, none⟩ : Addr).add j = ⟨b, j, none⟩ := by unfold Addr.add; split <;> simp_all
  rw [hadd]
  rw [← ht, List.getElem?_take] at hu
  split at hu
  · simp [World.cell?, ho]; simpa using hu
  · cases hu
end Sym
end Go.Proofs.YtnbahdnjcdimgaaDoor
namespace Go.Proofs.YtnbahdnjcdimgaaDoor
open Go.RowKit
open Sym
attribute [local irreducible] Calls Sym.AggEq ExP.nd ExP.dig ExP.upd ExP.writeF ExP.writeE
/-- a character's number, so many bytes read -/
def VaP.cvF (s : List UInt8) (c : Nat) : Nat → Nat
  | 0 => c
  | k + 1 => VaP.cvF s c k * 64 + VaP.bt s (k + 1) % 64
theorem VaP.cvF_le (s : List UInt8) (c : Nat) (hc : c ≤ 31) : VaP.cvF s c 0 ≤ 31 ∧ VaP.cvF s c 1 ≤ 2047 ∧ VaP.cvF s c 2 ≤ 131071 ∧ VaP.cvF s c 3 ≤ 8388607 := by
  refine ⟨hc, ?_, ?_, ?_⟩
  · show c * 64 + VaP.bt s 1 % 64 ≤ _; omega
  · show (c * 64 + VaP.bt s 1 % 64) * 64 + VaP.bt s 2 % 64 ≤ _; omega
  · show ((c * 64 + VaP.bt s 1 % 64) * 64 + VaP.bt s 2 % 64) * 64 + VaP.bt s 3 % 64 ≤ _; omega
set_option maxRecDepth 100000 in
set_option maxHeartbeats 4000000 in
theorem rrune_2 (s : List UInt8) (R1 R2 : Nat) (w : World) (hs : s ≠ []) (hl : s.length ≤ 9223372036854775807) (h1 : 194 ≤ VaP.bt s 0) (h2 : VaP.bt s 0 < 224) (C : Nat) (hC : C = VaP.cvF s (VaP.bt s 0 % 32) 1)
    (hG : 2 ≤ s.length → (∀ j, 1 ≤ j → j < 2 → VaP.bt s j / 64 = 2) → 128 ≤ C → (C < 55296 ∨ 57344 ≤ C) → C ≤ 1114111 → R1 = C ∧ R2 = 2)
    (hB : ¬ (2 ≤ s.length ∧ (∀ j, 1 ≤ j → j < 2 → VaP.bt s j / 64 = 2) ∧ 128 ≤ C ∧ (C < 55296 ∨ 57344 ≤ C) ∧ C ≤ 1114111) → R1 = 0 ∧ R2 = 0) :
    Calls Tryd.prog 47 #[.string (bstr s)] w fun e w' => e = .returned (.tuple #[.int .i64 (R1 : Nat), .int .i64 (R2 : Nat)]) ∧ Below w.heap.size w w' := by
  have hl0 := List.length_pos_iff.2 hs
  have hbt := VaP.bt_lt s
  have hcv := VaP.cvF_le s (VaP.bt s 0 % 32) (by omega)
  have hst : ∀ k, VaP.cvF s (VaP.bt s 0 % 32) (k + 1) = VaP.cvF s (VaP.bt s 0 % 32) k * 64 + VaP.bt s (k + 1) % 64 := fun _ => rfl
  have hz : VaP.cvF s (VaP.bt s 0 % 32) 0 = VaP.bt s 0 % 32 := rfl
  have hget : ∀ j, (s.getD j 0).toNat = VaP.bt s j := fun _ => rfl
  generalize VaP.cvF s (VaP.bt s 0 % 32) = CV at *
  generalize VaP.bt s = B at *
  have hg0 := hget 0
  have hb0 := hbt 0
  refine enter env_ok Tryd.func47 rfl Tryd.results47 Tryd.ntmps47 [] [] [.str s] (by simp [SV.oks, SV.ok]) (Nat.le_of_ble_eq_true rfl) w _ 1000 ?_
  repeat' (first | ((with_reducible first | show wpS _ _ _ _ | show putD _ _ _ _ | show putW _ _ _ _ | show splitG _ _ _ | show wpQ _ _ _ _ _ _ | show wpD _ _ _ _ _ _ _ | show wpX _ _ _ _ _ _ _ | show expX _ _ _ _ _ _ | show stepX _ _ _ _ | show keepR _ _ _ | show wpY _ _ _ _); conv => whnf) | ((with_reducible show RetN _ _ _); refine retB fun β => ?_) | ((with_reducible show _ ∧ _); first | (apply And.intro; (· intro h; exfalso; first | omega | (revert h; decide)); intro _) | (apply And.intro; rotate_left; (· intro h; exfalso; first | omega | (revert h; decide)); intro _) | (refine ⟨fun _ => ?_, fun _ => ?_⟩) | (apply And.intro; · kernel_rfl) | (apply And.intro; · (show inK _ _; unfold inK; omega)) | (apply And.intro; · (show (_ : Int) ≤ 9223372036854775807; (try simp only [List.length_append, List.length_drop, List.length_take, List.length_cons, List.length_nil]); omega))) | ((with_reducible show AllBe _); refine allBe fun βe => ?_; conv => whnf) | ((with_reducible show bothX _ _); refine bothI ?_ ?_; conv => whnf) | (with_reducible exact trivial) | ((with_reducible show CallN _ _ _ _ _ _ _ _); refine call_of env_ok rfl 1000 ?_) | ((with_reducible show XopN _ _ _ _ _ _); refine xop_of env_ok rfl 1000 ?_) | ((with_reducible show CallX _ _ _ _ _ _); first | fail) | ((with_reducible show OpX _ _ _ _); first | fail) | ((with_reducible show ∃ _ : SV, _); first | (refine ⟨.int .i64 ((B 0 % 32 : Nat) : Int), ?ok, x_and _ (by rw [hget 0]; exact Bi.i64_and (B 0) 31 _ (by have := hbt 0; omega) (by omega) (Bi.and_31 _)), ?_⟩; (case ok => exact fun _ _ => trivial))) | ((with_reducible show ∃ _, _); first | (refine ⟨0, rfl, hl0, ?_⟩)))
  all_goals first | (exfalso; have := hget 0; omega) | (obtain ⟨rfl, rfl⟩ := hB (fun h => by have := h.1; omega); rfl) | skip
  refine loop env_ok rfl (T := {k : Nat // k + 1 ≤ 2 ∧ ∀ j, 1 ≤ j → j < k + 1 → B j / 64 = 2}) (fun t => ⟨[(0, .str s), (4, .int .i64 (CV t.1 : Nat)), (5, .int .i64 2), (6, .int .i64 128), (7, .int .i64 ((t.1 : Nat) + 1))], [], 0, 81⟩) (fun t => 2 - t.1) ⟨0, by omega, fun j h1 h2 => by omega⟩ 1000 [] [] (fun _ => Nat.zero_le _) (by ((with_reducible show wk _ _); repeat' (first | exact trivial | exact eqSV_refl _ | (refine eqI ?_) | (refine eqS ?_) | (with_reducible exact rfl) | apply And.intro | exact Nat.zero_lt_one | exact Nat.le_of_ble_eq_true rfl | (with_reducible assumption) | ((show (_ : Int) = _); (try dsimp only); omega) | ((show eqSV _ _); simp [eqSV, isB, bval, *]; done) | rfl))) (fun t I hI => ?_)
  obtain ⟨k, hk, hj⟩ := t
  dsimp only
  have hk3 : k ≤ 3 := by omega
  have hcvk : CV k ≤ 8388607 := by
    have : k = 0 ∨ k = 1 ∨ k = 2 ∨ k = 3 := by omega
    rcases this with rfl | rfl | rfl | rfl <;> omega
  have hb1 := hbt (k + 1)
  have hs1 := hst k
  have hg1 := hget (k + 1)
  by_cases hlt : k + 1 < 2
  · repeat' (first | ((with_reducible first | show wpS _ _ _ _ | show putD _ _ _ _ | show putW _ _ _ _ | show splitG _ _ _ | show wpQ _ _ _ _ _ _ | show wpD _ _ _ _ _ _ _ | show wpX _ _ _ _ _ _ _ | show expX _ _ _ _ _ _ | show stepX _ _ _ _ | show keepR _ _ _ | show wpY _ _ _ _); conv => whnf) | ((with_reducible show RetN _ _ _); refine retB fun β => ?_) | ((with_reducible show _ ∧ _); first | (apply And.intro; (· intro h; exfalso; first | omega | (revert h; decide)); intro _) | (apply And.intro; rotate_left; (· intro h; exfalso; first | omega | (revert h; decide)); intro _) | (refine ⟨fun _ => ?_, fun _ => ?_⟩) | (apply And.intro; · kernel_rfl) | (apply And.intro; · (show inK _ _; unfold inK; omega)) | (apply And.intro; · (show (_ : Int) ≤ 9223372036854775807; (try simp only [List.length_append, List.length_drop, List.length_take, List.length_cons, List.length_nil]); omega))) | ((with_reducible show AllBe _); refine allBe fun βe => ?_; conv => whnf) | ((with_reducible show bothX _ _); refine bothI ?_ ?_; conv => whnf) | (with_reducible exact trivial) | ((with_reducible show CallN _ _ _ _ _ _ _ _); refine call_of env_ok rfl 1000 ?_) | ((with_reducible show XopN _ _ _ _ _ _); refine xop_of env_ok rfl 1000 ?_) | ((with_reducible show CallX _ _ _ _ _ _); first | fail) | ((with_reducible show OpX _ _ _ _); first | fail) | ((with_reducible show ∃ _ : SV, _); first | (refine ⟨.int .u8 ((B (k + 1) / 64 * 64 : Nat) : Int), ?ok, x_and _ (by rw [hg1]; exact Bi.u8_and (B (k + 1)) 192 _ (by omega) (by omega) (Bi.and_192 _ (by omega))), ?_⟩; (case ok => exact fun _ _ => trivial)) | (refine ⟨.int .u8 ((B (k + 1) % 64 : Nat) : Int), ?ok, x_and _ (by rw [hg1]; exact Bi.u8_and (B (k + 1)) 63 _ (by omega) (by omega) (Bi.and_63 _)), ?_⟩; (case ok => exact fun _ _ => trivial)) | (refine ⟨.int .i64 ((CV k * 64 : Nat) : Int), ?ok, x_shlE 6 _ rfl (by rw [Int.natCast_mul]; rfl) (by decide) (by simp only [inK]; omega), ?_⟩; (case ok => exact fun _ _ => trivial)) | (refine ⟨.int .i64 ((CV k * 64 + B (k + 1) % 64 : Nat) : Int), ?ok, x_or _ (Bi.i64_or (CV k * 64) (B (k + 1) % 64) _ (by omega) (by omega) (Bi.or_64 _ _ (by omega))), ?_⟩; (case ok => exact fun _ _ => trivial))) | ((with_reducible show ∃ _, _); first | (refine ⟨k + 1, rfl, by omega, ?_⟩)))
    all_goals first | (exfalso; omega) | (obtain ⟨rfl, rfl⟩ := hB (fun h => by have := h.2.1 (k + 1) (by omega) hlt; omega); rfl) | (rw [← hs1]; refine hI _ ⟨k + 1, by omega, fun j h1 h2 => (Nat.lt_or_ge j (k + 1)).elim (fun h => hj j h1 h) (fun h => by { have e : j = k + 1 := by { omega }; rw [e]; omega })⟩ (by dsimp only; omega) (by ((with_reducible show wk _ _); repeat' (first | exact trivial | exact eqSV_refl _ | (refine eqI ?_) | (refine eqS ?_) | (with_reducible exact rfl) | apply And.intro | exact Nat.zero_lt_one | exact Nat.le_of_ble_eq_true rfl | (with_reducible assumption) | ((show (_ : Int) = _); (try dsimp only); omega) | ((show eqSV _ _); simp [eqSV, isB, bval, *]; done) | rfl))); done) | trace_state
  · have e : k = 1 := by omega
    subst e
    rw [← hC] at *
    repeat' (first | ((with_reducible first | show wpS _ _ _ _ | show putD _ _ _ _ | show putW _ _ _ _ | show splitG _ _ _ | show wpQ _ _ _ _ _ _ | show wpD _ _ _ _ _ _ _ | show wpX _ _ _ _ _ _ _ | show expX _ _ _ _ _ _ | show stepX _ _ _ _ | show keepR _ _ _ | show wpY _ _ _ _); conv => whnf) | ((with_reducible show RetN _ _ _); refine retB fun β => ?_) | ((with_reducible show _ ∧ _); first | (apply And.intro; (· intro h; exfalso; first | omega | (revert h; decide)); intro _) | (apply And.intro; rotate_left; (· intro h; exfalso; first | omega | (revert h; decide)); intro _) | (refine ⟨fun _ => ?_, fun _ => ?_⟩) | (apply And.intro; · kernel_rfl) | (apply And.intro; · (show inK _ _; unfold inK; omega)) | (apply And.intro; · (show (_ : Int) ≤ 9223372036854775807; (try simp only [List.length_append, List.length_drop, List.length_take, List.length_cons, List.length_nil]); omega))) | ((with_reducible show AllBe _); refine allBe fun βe => ?_; conv => whnf) | ((with_reducible show bothX _ _); refine bothI ?_ ?_; conv => whnf) | (with_reducible exact trivial) | ((with_reducible show CallN _ _ _ _ _ _ _ _); refine call_of env_ok rfl 1000 ?_) | ((with_reducible show XopN _ _ _ _ _ _); refine xop_of env_ok rfl 1000 ?_) | ((with_reducible show CallX _ _ _ _ _ _); first | fail) | ((with_reducible show OpX _ _ _ _); first | fail) | ((with_reducible show ∃ _ : SV, _); first | fail) | ((with_reducible show ∃ _, _); first | fail))
    all_goals first | (exfalso; omega) | (obtain ⟨rfl, rfl⟩ := hB (fun h => by have := h.2.2; omega); rfl) | (obtain ⟨rfl, rfl⟩ := hG (by omega) hj (by omega) (by omega) (by omega); rfl) | trace_state
set_option maxRecDepth 100000 in
set_option maxHeartbeats 4000000 in
theorem rrune_3 (s : List UInt8) (R1 R2 : Nat) (w : World) (hs : s ≠ []) (hl : s.length ≤ 9223372036854775807) (h1 : 224 ≤ VaP.bt s 0) (h2 : VaP.bt s 0 < 240) (C : Nat) (hC : C = VaP.cvF s (VaP.bt s 0 % 16) 2)
    (hG : 3 ≤ s.length → (∀ j, 1 ≤ j → j < 3 → VaP.bt s j / 64 = 2) → 2048 ≤ C → (C < 55296 ∨ 57344 ≤ C) → C ≤ 1114111 → R1 = C ∧ R2 = 3)
    (hB : ¬ (3 ≤ s.length ∧ (∀ j, 1 ≤ j → j < 3 → VaP.bt s j / 64 = 2) ∧ 2048 ≤ C ∧ (C < 55296 ∨ 57344 ≤ C) ∧ C ≤ 1114111) → R1 = 0 ∧ R2 = 0) :
    Calls Tryd.prog 47 #[.string (bstr s)] w fun e w' => e = .returned (.tuple #[.int .i64 (R1 : Nat), .int .i64 (R2 : Nat)]) ∧ Below w.heap.size w w' := by
  have hl0 := List.length_pos_iff.2 hs
  have hbt := VaP.bt_lt s
  have hcv := VaP.cvF_le s (VaP.bt s 0 % 16) (by omega)
  have hst : ∀ k, VaP.cvF s (VaP.bt s 0 % 16) (k + 1) = VaP.cvF s (VaP.bt s 0 % 16) k * 64 + VaP.bt s (k + 1) % 64 := fun _ => rfl
  have hz : VaP.cvF s (VaP.bt s 0 % 16) 0 = VaP.bt s 0 % 16 := rfl
  have hget : ∀ j, (s.getD j 0).toNat = VaP.bt s j := fun _ => rfl
  generalize VaP.cvF s (VaP.bt s 0 % 16) = CV at *
  generalize VaP.bt s = B at *
  have hg0 := hget 0
  have hb0 := hbt 0
  refine enter env_ok Tryd.func47 rfl Tryd.results47 Tryd.ntmps47 [] [] [.str s] (by simp [SV.oks, SV.ok]) (Nat.le_of_ble_eq_true rfl) w _ 1000 ?_
  repeat' (first | ((with_reducible first | show wpS _ _ _ _ | show putD _ _ _ _ | show putW _ _ _ _ | show splitG _ _ _ | show wpQ _ _ _ _ _ _ | show wpD _ _ _ _ _ _ _ | show wpX _ _ _ _ _ _ _ | show expX _ _ _ _ _ _ | show stepX _ _ _ _ | show keepR _ _ _ | show wpY _ _ _ _); conv => whnf) | ((with_reducible show RetN _ _ _); refine retB fun β => ?_) | ((with_reducible show _ ∧ _); first | (apply And.intro; (· intro h; exfalso; first | omega | (revert h; decide)); intro _) | (apply And.intro; rotate_left; (· intro h; exfalso; first | omega | (revert h; decide)); intro _) | (refine ⟨fun _ => ?_, fun _ => ?_⟩) | (apply And.intro; · kernel_rfl) | (apply And.intro; · (show inK _ _; unfold inK; omega)) | (apply And.intro; · (show (_ : Int) ≤ 9223372036854775807; (try simp only [List.length_append, List.length_drop, List.length_take, List.length_cons, List.length_nil]); omega))) | ((with_reducible show AllBe _); refine allBe fun βe => ?_; conv => whnf) | ((with_reducible show bothX _ _); refine bothI ?_ ?_; conv => whnf) | (with_reducible exact trivial) | ((with_reducible show CallN _ _ _ _ _ _ _ _); refine call_of env_ok rfl 1000 ?_) | ((with_reducible show XopN _ _ _ _ _ _); refine xop_of env_ok rfl 1000 ?_) | ((with_reducible show CallX _ _ _ _ _ _); first | fail) | ((with_reducible show OpX _ _ _ _); first | fail) | ((with_reducible show ∃ _ : SV, _); first | (refine ⟨.int .i64 ((B 0 % 16 : Nat) : Int), ?ok, x_and _ (by rw [hget 0]; exact Bi.i64_and (B 0) 15 _ (by have := hbt 0; omega) (by omega) (Bi.and_15 _)), ?_⟩; (case ok => exact fun _ _ => trivial))) | ((with_reducible show ∃ _, _); first | (refine ⟨0, rfl, hl0, ?_⟩)))
  all_goals first | (exfalso; have := hget 0; omega) | (obtain ⟨rfl, rfl⟩ := hB (fun h => by have := h.1; omega); rfl) | skip
  refine loop env_ok rfl (T := {k : Nat // k + 1 ≤ 3 ∧ ∀ j, 1 ≤ j → j < k + 1 → B j / 64 = 2}) (fun t => ⟨[(0, .str s), (4, .int .i64 (CV t.1 : Nat)), (5, .int .i64 3), (6, .int .i64 2048), (7, .int .i64 ((t.1 : Nat) + 1))], [], 0, 81⟩) (fun t => 3 - t.1) ⟨0, by omega, fun j h1 h2 => by omega⟩ 1000 [] [] (fun _ => Nat.zero_le _) (by ((with_reducible show wk _ _); repeat' (first | exact trivial | exact eqSV_refl _ | (refine eqI ?_) | (refine eqS ?_) | (with_reducible exact rfl) | apply And.intro | exact Nat.zero_lt_one | exact Nat.le_of_ble_eq_true rfl | (with_reducible assumption) | ((show (_ : Int) = _); (try dsimp only); omega) | ((show eqSV _ _); simp [eqSV, isB, bval, *]; done) | rfl))) (fun t I hI => ?_)
  obtain ⟨k, hk, hj⟩ := t
  dsimp only
  have hk3 : k ≤ 3 := by omega
  have hcvk : CV k ≤ 8388607 := by
    have : k = 0 ∨ k = 1 ∨ k = 2 ∨ k = 3 := by omega
    rcases this with rfl | rfl | rfl | rfl <;> omega
  have hb1 := hbt (k + 1)
  have hs1 := hst k
  have hg1 := hget (k + 1)
  by_cases hlt : k + 1 < 3
  · repeat' (first | ((with_reducible first | show wpS _ _ _ _ | show putD _ _ _ _ | show putW _ _ _ _ | show splitG _ _ _ | show wpQ _ _ _ _ _ _ | show wpD _ _ _ _ _ _ _ | show wpX _ _ _ _ _ _ _ | show expX _ _ _ _ _ _ | show stepX _ _ _ _ | show keepR _ _ _ | show wpY _ _ _ _); conv => whnf) | ((with_reducible show RetN _ _ _); refine retB fun β => ?_) | ((with_reducible show _ ∧ _); first | (apply And.intro; (· intro h; exfalso; first | omega | (revert h; decide)); intro _) | (apply And.intro; rotate_left; (· intro h; exfalso; first | omega | (revert h; decide)); intro _) | (refine ⟨fun _ => ?_, fun _ => ?_⟩) | (apply And.intro; · kernel_rfl) | (apply And.intro; · (show inK _ _; unfold inK; omega)) | (apply And.intro; · (show (_ : Int) ≤ 9223372036854775807; (try simp only [List.length_append, List.length_drop, List.length_take, List.length_cons, List.length_nil]); omega))) | ((with_reducible show AllBe _); refine allBe fun βe => ?_; conv => whnf) | ((with_reducible show bothX _ _); refine bothI ?_ ?_; conv => whnf) | (with_reducible exact trivial) | ((with_reducible show CallN _ _ _ _ _ _ _ _); refine call_of env_ok rfl 1000 ?_) | ((with_reducible show XopN _ _ _ _ _ _); refine xop_of env_ok rfl 1000 ?_) | ((with_reducible show CallX _ _ _ _ _ _); first | fail) | ((with_reducible show OpX _ _ _ _); first | fail) | ((with_reducible show ∃ _ : SV, _); first | (refine ⟨.int .u8 ((B (k + 1) / 64 * 64 : Nat) : Int), ?ok, x_and _ (by rw [hg1]; exact Bi.u8_and (B (k + 1)) 192 _ (by omega) (by omega) (Bi.and_192 _ (by omega))), ?_⟩; (case ok => exact fun _ _ => trivial)) | (refine ⟨.int .u8 ((B (k + 1) % 64 : Nat) : Int), ?ok, x_and _ (by rw [hg1]; exact Bi.u8_and (B (k + 1)) 63 _ (by omega) (by omega) (Bi.and_63 _)), ?_⟩; (case ok => exact fun _ _ => trivial)) | (refine ⟨.int .i64 ((CV k * 64 : Nat) : Int), ?ok, x_shlE 6 _ rfl (by rw [Int.natCast_mul]; rfl) (by decide) (by simp only [inK]; omega), ?_⟩; (case ok => exact fun _ _ => trivial)) | (refine ⟨.int .i64 ((CV k * 64 + B (k + 1) % 64 : Nat) : Int), ?ok, x_or _ (Bi.i64_or (CV k * 64) (B (k + 1) % 64) _ (by omega) (by omega) (Bi.or_64 _ _ (by omega))), ?_⟩; (case ok => exact fun _ _ => trivial))) | ((with_reducible show ∃ _, _); first | (refine ⟨k + 1, rfl, by omega, ?_⟩)))
    all_goals first | (exfalso; omega) | (obtain ⟨rfl, rfl⟩ := hB (fun h => by have := h.2.1 (k + 1) (by omega) hlt; omega); rfl) | (rw [← hs1]; refine hI _ ⟨k + 1, by omega, fun j h1 h2 => (Nat.lt_or_ge j (k + 1)).elim (fun h => hj j h1 h) (fun h => by { have e : j = k + 1 := by { omega }; rw [e]; omega })⟩ (by dsimp only; omega) (by ((with_reducible show wk _ _); repeat' (first | exact trivial | exact eqSV_refl _ | (refine eqI ?_) | (refine eqS ?_) | (with_reducible exact rfl) | apply And.intro | exact Nat.zero_lt_one | exact Nat.le_of_ble_eq_true rfl | (with_reducible assumption) | ((show (_ : Int) = _); (try dsimp only); omega) | ((show eqSV _ _); simp [eqSV, isB, bval, *]; done) | rfl))); done) | trace_state
  · have e : k = 2 := by omega
    subst e
    rw [← hC] at *
    repeat' (first | ((with_reducible first | show wpS _ _ _ _ | show putD _ _ _ _ | show putW _ _ _ _ | show splitG _ _ _ | show wpQ _ _ _ _ _ _ | show wpD _ _ _ _ _ _ _ | show wpX _ _ _ _ _ _ _ | show expX _ _ _ _ _ _ | show stepX _ _ _ _ | show keepR _ _ _ | show wpY _ _ _ _); conv => whnf) | ((with_reducible show RetN _ _ _); refine retB fun β => ?_) | ((with_reducible show _ ∧ _); first | (apply And.intro; (· intro h; exfalso; first | omega | (revert h; decide)); intro _) | (apply And.intro; rotate_left; (· intro h; exfalso; first | omega | (revert h; decide)); intro _) | (refine ⟨fun _ => ?_, fun _ => ?_⟩) | (apply And.intro; · kernel_rfl) | (apply And.intro; · (show inK _ _; unfold inK; omega)) | (apply And.intro; · (show (_ : Int) ≤ 9223372036854775807; (try simp only [List.length_append, List.length_drop, List.length_take, List.length_cons, List.length_nil]); omega))) | ((with_reducible show AllBe _); refine allBe fun βe => ?_; conv => whnf) | ((with_reducible show bothX _ _); refine bothI ?_ ?_; conv => whnf) | (with_reducible exact trivial) | ((with_reducible show CallN _ _ _ _ _ _ _ _); refine call_of env_ok rfl 1000 ?_) | ((with_reducible show XopN _ _ _ _ _ _); refine xop_of env_ok rfl 1000 ?_) | ((with_reducible show CallX _ _ _ _ _ _); first | fail) | ((with_reducible show OpX _ _ _ _); first | fail) | ((with_reducible show ∃ _ : SV, _); first | fail) | ((with_reducible show ∃ _, _); first | fail))
    all_goals first | (exfalso; omega) | (obtain ⟨rfl, rfl⟩ := hB (fun h => by have := h.2.2; omega); rfl) | (obtain ⟨rfl, rfl⟩ := hG (by omega) hj (by omega) (by omega) (by omega); rfl) | trace_state
set_option maxRecDepth 100000 in
set_option maxHeartbeats 4000000 in
theorem rrune_4 (s : List UInt8) (R1 R2 : Nat) (w : World) (hs : s ≠ []) (hl : s.length ≤ 9223372036854775807) (h1 : 240 ≤ VaP.bt s 0) (h2 : VaP.bt s 0 < 245) (C : Nat) (hC : C = VaP.cvF s (VaP.bt s 0 % 8) 3)
    (hG : 4 ≤ s.length → (∀ j, 1 ≤ j → j < 4 → VaP.bt s j / 64 = 2) → 65536 ≤ C → (C < 55296 ∨ 57344 ≤ C) → C ≤ 1114111 → R1 = C ∧ R2 = 4)
    (hB : ¬ (4 ≤ s.length ∧ (∀ j, 1 ≤ j → j < 4 → VaP.bt s j / 64 = 2) ∧ 65536 ≤ C ∧ (C < 55296 ∨ 57344 ≤ C) ∧ C ≤ 1114111) → R1 = 0 ∧ R2 = 0) :
    Calls Tryd.prog 47 #[.string (bstr s)] w fun e w' => e = .returned (.tuple #[.int .i64 (R1 : Nat), .int .i64 (R2 : Nat)]) ∧ Below w.heap.size w w' := by
  have hl0 := List.length_pos_iff.2 hs
  have hbt := VaP.bt_lt s
  have hcv := VaP.cvF_le s (VaP.bt s 0 % 8) (by omega)
  have hst : ∀ k, VaP.cvF s (VaP.bt s 0 % 8) (k + 1) = VaP.cvF s (VaP.bt s 0 % 8) k * 64 + VaP.bt s (k + 1) % 64 := fun _ => rfl
  have hz : VaP.cvF s (VaP.bt s 0 % 8) 0 = VaP.bt s 0 % 8 := rfl
  have hget : ∀ j, (s.getD j 0).toNat = VaP.bt s j := fun _ => rfl
  generalize VaP.cvF s (VaP.bt s 0 % 8) = CV at *
  generalize VaP.bt s = B at *
  have hg0 := hget 0
  have hb0 := hbt 0
  refine enter env_ok Tryd.func47 rfl Tryd.results47 Tryd.ntmps47 [] [] [.str s] (by simp [SV.oks, SV.ok]) (Nat.le_of_ble_eq_true rfl) w _ 1000 ?_
  repeat' (first | ((with_reducible first | show wpS _ _ _ _ | show putD _ _ _ _ | show putW _ _ _ _ | show splitG _ _ _ | show wpQ _ _ _ _ _ _ | show wpD _ _ _ _ _ _ _ | show wpX _ _ _ _ _ _ _ | show expX _ _ _ _ _ _ | show stepX _ _ _ _ | show keepR _ _ _ | show wpY _ _ _ _); conv => whnf) | ((with_reducible show RetN _ _ _); refine retB fun β => ?_) | ((with_reducible show _ ∧ _); first | (apply And.intro; (· intro h; exfalso; first | omega | (revert h; decide)); intro _) | (apply And.intro; rotate_left; (· intro h; exfalso; first | omega | (revert h; decide)); intro _) | (refine ⟨fun _ => ?_, fun _ => ?_⟩) | (apply And.intro; · kernel_rfl) | (apply And.intro; · (show inK _ _; unfold inK; omega)) | (apply And.intro; · (show (_ : Int) ≤ 9223372036854775807; (try simp only [List.length_append, List.length_drop, List.length_take, List.length_cons, List.length_nil]); omega))) | ((with_reducible show AllBe _); refine allBe fun βe => ?_; conv => whnf) | ((with_reducible show bothX _ _); refine bothI ?_ ?_; conv => whnf) | (with_reducible exact trivial) | ((with_reducible show CallN _ _ _ _ _ _ _ _); refine call_of env_ok rfl 1000 ?_) | ((with_reducible show XopN _ _ _ _ _ _); refine xop_of env_ok rfl 1000 ?_) | ((with_reducible show CallX _ _ _ _ _ _); first | fail) | ((with_reducible show OpX _ _ _ _); first | fail) | ((with_reducible show ∃ _ : SV, _); first | (refine ⟨.int .i64 ((B 0 % 8 : Nat) : Int), ?ok, x_and _ (by rw [hget 0]; exact Bi.i64_and (B 0) 7 _ (by have := hbt 0; omega) (by omega) (Bi.and_7 _)), ?_⟩; (case ok => exact fun _ _ => trivial))) | ((with_reducible show ∃ _, _); first | (refine ⟨0, rfl, hl0, ?_⟩)))
  all_goals first | (exfalso; have := hget 0; omega) | (obtain ⟨rfl, rfl⟩ := hB (fun h => by have := h.1; omega); rfl) | skip
  refine loop env_ok rfl (T := {k : Nat // k + 1 ≤ 4 ∧ ∀ j, 1 ≤ j → j < k + 1 → B j / 64 = 2}) (fun t => ⟨[(0, .str s), (4, .int .i64 (CV t.1 : Nat)), (5, .int .i64 4), (6, .int .i64 65536), (7, .int .i64 ((t.1 : Nat) + 1))], [], 0, 81⟩) (fun t => 4 - t.1) ⟨0, by omega, fun j h1 h2 => by omega⟩ 1000 [] [] (fun _ => Nat.zero_le _) (by ((with_reducible show wk _ _); repeat' (first | exact trivial | exact eqSV_refl _ | (refine eqI ?_) | (refine eqS ?_) | (with_reducible exact rfl) | apply And.intro | exact Nat.zero_lt_one | exact Nat.le_of_ble_eq_true rfl | (with_reducible assumption) | ((show (_ : Int) = _); (try dsimp only); omega) | ((show eqSV _ _); simp [eqSV, isB, bval, *]; done) | rfl))) (fun t I hI => ?_)
  obtain ⟨k, hk, hj⟩ := t
  dsimp only
  have hk3 : k ≤ 3 := by omega
  have hcvk : CV k ≤ 8388607 := by
    have : k = 0 ∨ k = 1 ∨ k = 2 ∨ k = 3 := by omega
    rcases this with rfl | rfl | rfl | rfl <;> omega
  have hb1 := hbt (k + 1)
  have hs1 := hst k
  have hg1 := hget (k + 1)
  by_cases hlt : k + 1 < 4
  · repeat' (first | ((with_reducible first | show wpS _ _ _ _ | show putD _ _ _ _ | show putW _ _ _ _ | show splitG _ _ _ | show wpQ _ _ _ _ _ _ | show wpD _ _ _ _ _ _ _ | show wpX _ _ _ _ _ _ _ | show expX _ _ _ _ _ _ | show stepX _ _ _ _ | show keepR _ _ _ | show wpY _ _ _ _); conv => whnf) | ((with_reducible show RetN _ _ _); refine retB fun β => ?_) | ((with_reducible show _ ∧ _); first | (apply And.intro; (· intro h; exfalso; first | omega | (revert h; decide)); intro _) | (apply And.intro; rotate_left; (· intro h; exfalso; first | omega | (revert h; decide)); intro _) | (refine ⟨fun _ => ?_, fun _ => ?_⟩) | (apply And.intro; · kernel_rfl) | (apply And.intro; · (show inK _ _; unfold inK; omega)) | (apply And.intro; · (show (_ : Int) ≤ 9223372036854775807; (try simp only [List.length_append, List.length_drop, List.length_take, List.length_cons, List.length_nil]); omega))) | ((with_reducible show AllBe _); refine allBe fun βe => ?_; conv => whnf) | ((with_reducible show bothX _ _); refine bothI ?_ ?_; conv => whnf) | (with_reducible exact trivial) | ((with_reducible show CallN _ _ _ _ _ _ _ _); refine call_of env_ok rfl 1000 ?_) | ((with_reducible show XopN _ _ _ _ _ _); refine xop_of env_ok rfl 1000 ?_) | ((with_reducible show CallX _ _ _ _ _ _); first | fail) | ((with_reducible show OpX _ _ _ _); first | fail) | ((with_reducible show ∃ _ : SV, _); first | (refine ⟨.int .u8 ((B (k + 1) / 64 * 64 : Nat) : Int), ?ok, x_and _ (by rw [hg1]; exact Bi.u8_and (B (k + 1)) 192 _ (by omega) (by omega) (Bi.and_192 _ (by omega))), ?_⟩; (case ok => exact fun _ _ => trivial)) | (refine ⟨.int .u8 ((B (k + 1) % 64 : Nat) : Int), ?ok, x_and _ (by rw [hg1]; exact Bi.u8_and (B (k + 1)) 63 _ (by omega) (by omega) (Bi.and_63 _)), ?_⟩; (case ok => exact fun _ _ => trivial)) | (refine ⟨.int .i64 ((CV k * 64 : Nat) : Int), ?ok, x_shlE 6 _ rfl (by rw [Int.natCast_mul]; rfl) (by decide) (by simp only [inK]; omega), ?_⟩; (case ok => exact fun _ _ => trivial)) | (refine ⟨.int .i64 ((CV k * 64 + B (k + 1) % 64 : Nat) : Int), ?ok, x_or _ (Bi.i64_or (CV k * 64) (B (k + 1) % 64) _ (by omega) (by omega) (Bi.or_64 _ _ (by omega))), ?_⟩; (case ok => exact fun _ _ => trivial))) | ((with_reducible show ∃ _, _); first | (refine ⟨k + 1, rfl, by omega, ?_⟩)))
    all_goals first | (exfalso; omega) | (obtain ⟨rfl, rfl⟩ := hB (fun h => by have := h.2.1 (k + 1) (by omega) hlt; omega); rfl) | (rw [← hs1]; refine hI _ ⟨k + 1, by omega, fun j h1 h2 => (Nat.lt_or_ge j (k + 1)).elim (fun h => hj j h1 h) (fun h => by { have e : j = k + 1 := by { omega }; rw [e]; omega })⟩ (by dsimp only; omega) (by ((with_reducible show wk _ _); repeat' (first | exact trivial | exact eqSV_refl _ | (refine eqI ?_) | (refine eqS ?_) | (with_reducible exact rfl) | apply And.intro | exact Nat.zero_lt_one | exact Nat.le_of_ble_eq_true rfl | (with_reducible assumption) | ((show (_ : Int) = _); (try dsimp only); omega) | ((show eqSV _ _); simp [eqSV, isB, bval, *]; done) | rfl))); done) | trace_state
  · have e : k = 3 := by omega
    subst e
    rw [← hC] at *
    repeat' (first | ((with_reducible first | show wpS _ _ _ _ | show putD _ _ _ _ | show putW _ _ _ _ | show splitG _ _ _ | show wpQ _ _ _ _ _ _ | show wpD _ _ _ _ _ _ _ | show wpX _ _ _ _ _ _ _ | show expX _ _ _ _ _ _ | show stepX _ _ _ _ | show keepR _ _ _ | show wpY _ _ _ _); conv => whnf) | ((with_reducible show RetN _ _ _); refine retB fun β => ?_) | ((with_reducible show _ ∧ _); first | (apply And.intro; (· intro h; exfalso; first | omega | (revert h; decide)); intro _) | (apply And.intro; rotate_left; (· intro h; exfalso; first | omega | (revert h; decide)); intro _) | (refine ⟨fun _ => ?_, fun _ => ?_⟩) | (apply And.intro; · kernel_rfl) | (apply And.intro; · (show inK _ _; unfold inK; omega)) | (apply And.intro; · (show (_ : Int) ≤ 9223372036854775807; (try simp only [List.length_append, List.length_drop, List.length_take, List.length_cons, List.length_nil]); omega))) | ((with_reducible show AllBe _); refine allBe fun βe => ?_; conv => whnf) | ((with_reducible show bothX _ _); refine bothI ?_ ?_; conv => whnf) | (with_reducible exact trivial) | ((with_reducible show CallN _ _ _ _ _ _ _ _); refine call_of env_ok rfl 1000 ?_) | ((with_reducible show XopN _ _ _ _ _ _); refine xop_of env_ok rfl 1000 ?_) | ((with_reducible show CallX _ _ _ _ _ _); first | fail) | ((with_reducible show OpX _ _ _ _); first | fail) | ((with_reducible show ∃ _ : SV, _); first | fail) | ((with_reducible show ∃ _, _); first | fail))
    all_goals first | (exfalso; omega) | (obtain ⟨rfl, rfl⟩ := hB (fun h => by have := h.2.2; omega); rfl) | (obtain ⟨rfl, rfl⟩ := hG (by omega) hj (by omega) (by omega) (by omega); rfl) | trace_state
set_option maxRecDepth 100000 in
theorem rrune_1 (s : List UInt8) (w : World) (hs : s ≠ []) (hl : s.length ≤ 9223372036854775807) (h1 : VaP.bt s 0 < 128) : Calls Tryd.prog 47 #[.string (bstr s)] w fun e w' => e = .returned (.tuple #[.int .i64 (VaP.bt s 0 : Nat), .int .i64 1]) ∧ Below w.heap.size w w' := by
  have hl0 := List.length_pos_iff.2 hs
  have hg0 : (s.getD 0 0).toNat = VaP.bt s 0 := rfl
  have hb0 := VaP.bt_lt s 0
  refine enter env_ok Tryd.func47 rfl Tryd.results47 Tryd.ntmps47 [] [] [.str s] (by simp [SV.oks, SV.ok]) (Nat.le_of_ble_eq_true rfl) w _ 1000 ?_
  repeat' (first | ((with_reducible first | show wpS _ _ _ _ | show putD _ _ _ _ | show putW _ _ _ _ | show splitG _ _ _ | show wpQ _ _ _ _ _ _ | show wpD _ _ _ _ _ _ _ | show wpX _ _ _ _ _ _ _ | show expX _ _ _ _ _ _ | show stepX _ _ _ _ | show keepR _ _ _ | show wpY _ _ _ _); conv => whnf) | ((with_reducible show RetN _ _ _); refine retB fun β => ?_) | ((with_reducible show _ ∧ _); first | (apply And.intro; (· intro h; exfalso; first | omega | (revert h; decide)); intro _) | (apply And.intro; rotate_left; (· intro h; exfalso; first | omega | (revert h; decide)); intro _) | (refine ⟨fun _ => ?_, fun _ => ?_⟩) | (apply And.intro; · kernel_rfl) | (apply And.intro; · (show inK _ _; unfold inK; omega)) | (apply And.intro; · (show (_ : Int) ≤ 9223372036854775807; (try simp only [List.length_append, List.length_drop, List.length_take, List.length_cons, List.length_nil]); omega))) | ((with_reducible show AllBe _); refine allBe fun βe => ?_; conv => whnf) | ((with_reducible show bothX _ _); refine bothI ?_ ?_; conv => whnf) | (with_reducible exact trivial) | ((with_reducible show CallN _ _ _ _ _ _ _ _); refine call_of env_ok rfl 1000 ?_) | ((with_reducible show XopN _ _ _ _ _ _); refine xop_of env_ok rfl 1000 ?_) | ((with_reducible show CallX _ _ _ _ _ _); first | fail) | ((with_reducible show OpX _ _ _ _); first | fail) | ((with_reducible show ∃ _ : SV, _); first | fail) | ((with_reducible show ∃ _, _); first | (refine ⟨0, rfl, hl0, ?_⟩)))
  all_goals first | (exfalso; omega) | rfl
set_option maxRecDepth 100000 in
theorem rrune_0 (s : List UInt8) (w : World) (hs : s ≠ []) (hl : s.length ≤ 9223372036854775807) (h0 : 128 ≤ VaP.bt s 0) (h1 : VaP.bt s 0 < 194 ∨ 245 ≤ VaP.bt s 0) : Calls Tryd.prog 47 #[.string (bstr s)] w fun e w' => e = .returned (.tuple #[.int .i64 0, .int .i64 0]) ∧ Below w.heap.size w w' := by
  have hl0 := List.length_pos_iff.2 hs
  have hg0 : (s.getD 0 0).toNat = VaP.bt s 0 := rfl
  have hb0 := VaP.bt_lt s 0
  refine enter env_ok Tryd.func47 rfl Tryd.results47 Tryd.ntmps47 [] [] [.str s] (by simp [SV.oks, SV.ok]) (Nat.le_of_ble_eq_true rfl) w _ 1000 ?_
  repeat' (first | ((with_reducible first | show wpS _ _ _ _ | show putD _ _ _ _ | show putW _ _ _ _ | show splitG _ _ _ | show wpQ _ _ _ _ _ _ | show wpD _ _ _ _ _ _ _ | show wpX _ _ _ _ _ _ _ | show expX _ _ _ _ _ _ | show stepX _ _ _ _ | show keepR _ _ _ | show wpY _ _ _ _); conv => whnf) | ((with_reducible show RetN _ _ _); refine retB fun β => ?_) | ((with_reducible show _ ∧ _); first | (apply And.intro; (· intro h; exfalso; first | omega | (revert h; decide)); intro _) | (apply And.intro; rotate_left; (· intro h; exfalso; first | omega | (revert h; decide)); intro _) | (refine ⟨fun _ => ?_, fun _ => ?_⟩) | (apply And.intro; · kernel_rfl) | (apply And.intro; · (show inK _ _; unfold inK; omega)) | (apply And.intro; · (show (_ : Int) ≤ 9223372036854775807; (try simp only [List.length_append, List.length_drop, List.length_take, List.length_cons, List.length_nil]); omega))) | ((with_reducible show AllBe _); refine allBe fun βe => ?_; conv => whnf) | ((with_reducible show bothX _ _); refine bothI ?_ ?_; conv => whnf) | (with_reducible exact trivial) | ((with_reducible show CallN _ _ _ _ _ _ _ _); refine call_of env_ok rfl 1000 ?_) | ((with_reducible show XopN _ _ _ _ _ _); refine xop_of env_ok rfl 1000 ?_) | ((with_reducible show CallX _ _ _ _ _ _); first | fail) | ((with_reducible show OpX _ _ _ _); first | fail) | ((with_reducible show ∃ _ : SV, _); first | fail) | ((with_reducible show ∃ _, _); first | (refine ⟨0, rfl, hl0, ?_⟩)))
  all_goals first | (exfalso; omega) | rfl
/-- the first character of a text, and its length -/
theorem rrune_any (s : List UInt8) (w : World) (hs : s ≠ []) (hl : s.length ≤ 9223372036854775807) : Calls Tryd.prog 47 #[.string (bstr s)] w fun e w' => e = .returned (.tuple #[.int .i64 ((VaP.rune s).1 : Nat), .int .i64 ((VaP.rune s).2 : Nat)]) ∧ Below w.heap.size w w' := by
  have b0 := VaP.bt_lt s 0
  have b1 := VaP.bt_lt s 1
  have b2 := VaP.bt_lt s 2
  have b3 := VaP.bt_lt s 3
  by_cases c1 : VaP.bt s 0 < 128
  · rw [VaP.rune_1 hs c1]; exact rrune_1 s w hs hl c1
  by_cases c2 : VaP.bt s 0 < 194 ∨ 245 ≤ VaP.bt s 0
  · rw [VaP.rune_0 hs (by omega) c2]; exact rrune_0 s w hs hl (by omega) c2
  by_cases c3 : VaP.bt s 0 < 224
  · have hr := VaP.rune_2 hs (by omega) c3
    refine rrune_2 s _ _ w hs hl (by omega) c3 _ rfl (fun h1 h2 h3 h4 h5 => ?_) (fun h => ?_)
    · rw [hr, if_pos ⟨by omega, h2 1 (by omega) (by omega)⟩]; exact ⟨rfl, rfl⟩
    · rw [hr, if_neg]
      · exact ⟨rfl, rfl⟩
      · rintro ⟨h1, h2⟩
        refine h ⟨by omega, fun j j1 j2 => by have e : j = 1 := by { omega }; rw [e]; exact h2, ?_⟩
        show 128 ≤ VaP.bt s 0 % 32 * 64 + VaP.bt s 1 % 64 ∧ (VaP.bt s 0 % 32 * 64 + VaP.bt s 1 % 64 < 55296 ∨ 57344 ≤ VaP.bt s 0 % 32 * 64 + VaP.bt s 1 % 64) ∧ VaP.bt s 0 % 32 * 64 + VaP.bt s 1 % 64 ≤ 1114111
        omega
  by_cases c4 : VaP.bt s 0 < 240
  · have hr := VaP.rune_3 hs (by omega) c4
    have e : VaP.cvF s (VaP.bt s 0 % 16) 2 = VaP.bt s 0 % 16 * 4096 + VaP.bt s 1 % 64 * 64 + VaP.bt s 2 % 64 := by
      show (VaP.bt s 0 % 16 * 64 + VaP.bt s 1 % 64) * 64 + VaP.bt s 2 % 64 = _; omega
    rw [← e] at hr
    refine rrune_3 s _ _ w hs hl (by omega) c4 _ rfl (fun h1 h2 h3 h4 h5 => ?_) (fun h => ?_)
    · rw [hr, if_pos ⟨⟨by omega, h2 1 (by omega) (by omega)⟩, ⟨by omega, h2 2 (by omega) (by omega)⟩, h3, h4⟩]; exact ⟨rfl, rfl⟩
    · rw [hr, if_neg]
      · exact ⟨rfl, rfl⟩
      · rintro ⟨⟨h1, h2⟩, ⟨h3, h4⟩, h5, h6⟩
        refine h ⟨by omega, fun j j1 j2 => ?_, h5, h6, by rw [e]; omega⟩
        have : j = 1 ∨ j = 2 := by omega
        rcases this with rfl | rfl
        · exact h2
        · exact h4
  · have hr := VaP.rune_4 hs (by omega) (by omega)
    have e : VaP.cvF s (VaP.bt s 0 % 8) 3 = VaP.bt s 0 % 8 * 262144 + VaP.bt s 1 % 64 * 4096 + VaP.bt s 2 % 64 * 64 + VaP.bt s 3 % 64 := by
      show ((VaP.bt s 0 % 8 * 64 + VaP.bt s 1 % 64) * 64 + VaP.bt s 2 % 64) * 64 + VaP.bt s 3 % 64 = _; omega
    rw [← e] at hr
    refine rrune_4 s _ _ w hs hl (by omega) (by omega) _ rfl (fun h1 h2 h3 h4 h5 => ?_) (fun h => ?_)
    · rw [hr, if_pos ⟨⟨by omega, h2 1 (by omega) (by omega)⟩, ⟨by omega, h2 2 (by omega) (by omega)⟩, ⟨by omega, h2 3 (by omega) (by omega)⟩, h3, h5⟩]; exact ⟨rfl, rfl⟩
    · rw [hr, if_neg]
      · exact ⟨rfl, rfl⟩
      · rintro ⟨⟨h1, h2⟩, ⟨h3, h4⟩, ⟨h5, h6⟩, h7, h8⟩
        refine h ⟨by omega, fun j j1 j2 => ?_, h7, .inr (by omega), h8⟩
        have : j = 1 ∨ j = 2 ∨ j = 3 := by omega
        rcases this with rfl | rfl | rfl
        · exact h2
        · exact h4
        · exact h6
end Go.Proofs.YtnbahdnjcdimgaaDoor
namespace Go.Proofs.YtnbahdnjcdimgaaDoor.MkP
open Go.Proofs.YtnbahdnjcdimgaaDoor VaP
def nHead : Str := [104, 101, 97, 100]
def nList : Str := [108, 105, 115, 116]
def nLevel : Str := [108, 101, 118, 101, 108]
def vBullet : Str := [98, 117, 108, 108, 101, 116]
def vNumber : Str := [110, 117, 109, 98, 101, 114]
/-- how often a byte stands at the beginning -/
def leadN (c : UInt8) (s : Str) : Nat := (s.takeWhile (· == c)).length
theorem lead_drop (c : UInt8) (s : Str) : (Lib.trimLeftB s c).length + leadN c s = s.length := by
  unfold Lib.trimLeftB leadN
  have h := congrArg List.length (List.takeWhile_append_dropWhile (p := (· == c)) (l := s))
  rw [List.length_append] at h
  omega
theorem lead_le (c : UInt8) (s : Str) : leadN c s ≤ s.length := by have := lead_drop c s; omega
def lev (m : Nat) : List (Str × Str) := if 0 < m then [(nLevel, [UInt8.ofNat (48 + m / 2)])] else []
/-- a line's marks: what is left of it, and the paragraph's attributes; with the numbers of marks and blanks at its beginning -/
def mkG (s : Str) (n m : Nat) : Str × List (Str × Str) :=
  if 1 ≤ n ∧ n ≤ 6 ∧ Lib.hasPrefix (s.drop n) [32] = true then (s.drop (n + 1), [(nHead, [UInt8.ofNat (48 + n)])])
  else if m % 2 = 1 ∨ 16 < m then (s, [])
  else if Lib.hasPrefix (s.drop m) [45, 32] = true then ((s.drop m).drop 2, lev m ++ [(nList, vBullet)])
  else if Lib.hasPrefix (s.drop m) [49, 46, 32] = true then ((s.drop m).drop 3, lev m ++ [(nList, vNumber)])
  else (s, [])
def mk (s : Str) : Str × List (Str × Str) := mkG s (leadN 35 s) (leadN 32 s)
theorem pre_len {s p : Str} (h : Lib.hasPrefix s p = true) : p.length ≤ s.length := (List.isPrefixOf_iff_prefix.1 h).length_le
theorem mk_len (s : Str) : (mk s).1.length ≤ s.length := by
  unfold mk mkG
  repeat' split
  all_goals simp only [List.length_drop]
  all_goals omega
end Go.Proofs.YtnbahdnjcdimgaaDoor.MkP
namespace Go.Proofs.YtnbahdnjcdimgaaDoor.MkP
open Go.Proofs.YtnbahdnjcdimgaaDoor VaP
def lossI : Nat → List Itm → List Nat
  | _, [] => []
  | k, x :: r => if x.1 then k :: lossI (k + 1) r else lossI (k + 1) r
theorem lossI_app : ∀ (a b : List Itm) (k : Nat), lossI k (a ++ b) = lossI k a ++ lossI (k + a.length) b
  | [], b, k => rfl
  | x :: r, b, k => by
    simp only [List.cons_append, lossI, lossI_app r b (k + 1), List.length_cons]
    rw [show k + 1 + r.length = k + (r.length + 1) by omega]
    split <;> rfl
/-- a mark that toggles: its length, and what is on then -/
def tgl (s : Str) (o0 o1 o2 o3 : Bool) : Nat × Bool × Bool × Bool × Bool :=
  if Lib.hasPrefix s [42, 42] = true then (2, !o0, o1, o2, o3)
  else if Lib.hasPrefix s [42] = true then (1, o0, !o1, o2, o3)
  else if Lib.hasPrefix s [126, 126] = true then (2, o0, o1, !o2, o3)
  else if Lib.hasPrefix s [96] = true then (1, o0, o1, o2, !o3)
  else (0, o0, o1, o2, o3)
theorem pl_more : ∀ (n m : Nat) (p : PS), (∀ k, p.stop = some k → p.aft.length < k) → p.s.length < n → n ≤ m → pl m p = pl n p
  | 0, m, p, _, h, _ => by omega
  | n + 1, 0, p, _, _, h => by omega
  | n + 1, m + 1, p, hs, h, hm => by
    unfold pl
    by_cases h0 : p.s = []
    · rw [if_pos h0, if_pos h0]
    · have hp := List.length_pos_iff.2 h0
      have go := fun (q : PS) (h1 : ∀ k, q.stop = some k → q.aft.length < k) (h2 : q.s.length < p.s.length) => pl_more n m q h1 (by omega) (by omega)
      have ld : ∀ k, 1 ≤ k → (p.s.drop k).length < p.s.length := fun k q => by rw [List.length_drop]; omega
      rw [if_neg h0, if_neg h0]
      by_cases h1 : p.stop = some p.s.length
      · rw [if_pos h1, if_pos h1]; exact go _ (fun k hk => by cases hk) (hs _ h1)
      rw [if_neg h1, if_neg h1]
      by_cases h2 : bt p.s 0 = 92 ∧ 1 < p.s.length
      · rw [if_pos h2, if_pos h2]; congr 1; exact go _ hs (ld _ (by omega))
      rw [if_neg h2, if_neg h2]
      by_cases h3 : bt p.s 0 = 42 ∧ bt p.s 1 = 42
      · rw [if_pos h3, if_pos h3]; exact go _ hs (ld _ (by omega))
      rw [if_neg h3, if_neg h3]
      by_cases h4 : bt p.s 0 = 42
      · rw [if_pos h4, if_pos h4]; exact go _ hs (ld _ (by omega))
      rw [if_neg h4, if_neg h4]
      by_cases h5 : bt p.s 0 = 126 ∧ bt p.s 1 = 126
      · rw [if_pos h5, if_pos h5]; exact go _ hs (ld _ (by omega))
      rw [if_neg h5, if_neg h5]
      by_cases h6 : bt p.s 0 = 96
      · rw [if_pos h6, if_pos h6]; exact go _ hs (ld _ (by omega))
      rw [if_neg h6, if_neg h6]
      have hc := dec_len h0
      rw [← chr_n] at hc
      rcases target_lk (p.s.drop 1) with ⟨t1, -⟩ | ⟨t, u, r, t1, -, -, -, -, -, t7⟩
      · rw [t1]
        have e : (if bt p.s 0 = 91 ∧ p.link = [] then (none : Option (Str × Str × Str)) else none) = none := by split <;> rfl
        rw [e]
        dsimp only
        congr 1
        exact go _ hs (ld _ hc.1)
      · rw [t1]
        by_cases h7 : bt p.s 0 = 91 ∧ p.link = []
        · rw [if_pos h7]
          dsimp only
          exact go _ (fun k hk => by cases hk; exact t7) (ld _ (by omega))
        · rw [if_neg h7]
          dsimp only
          congr 1
          exact go _ hs (ld _ hc.1)
end Go.Proofs.YtnbahdnjcdimgaaDoor.MkP
namespace Go.Proofs.YtnbahdnjcdimgaaDoor
open Go.RowKit
open Sym
attribute [local irreducible] Calls Sym.AggEq
theorem rchar_any (c : Nat) (w : World) : Calls Tryd.prog 48 #[.int .i64 (c : Int)] w fun e w' => e = .returned (.bool (VaP.charP c)) ∧ Below w.heap.size w w' := by
  refine enter env_ok Tryd.func48 rfl Tryd.results48 Tryd.ntmps48 [] [] [.int .i64 (c : Int)] (by simp [SV.oks, SV.ok]) (Nat.le_of_ble_eq_true rfl) w _ 1000 ?_
  repeat' (first | ((with_reducible first | show wpS _ _ _ _ | show putD _ _ _ _ | show putW _ _ _ _ | show splitG _ _ _ | show wpQ _ _ _ _ _ _ | show wpD _ _ _ _ _ _ _ | show wpX _ _ _ _ _ _ _ | show expX _ _ _ _ _ _ | show stepX _ _ _ _ | show keepR _ _ _ | show wpY _ _ _ _); conv => whnf) | ((with_reducible show RetN _ _ _); refine retB fun β => ?_) | ((with_reducible show _ ∧ _); first | (apply And.intro; (· intro h; exfalso; first | omega | (revert h; decide)); intro _) | (apply And.intro; rotate_left; (· intro h; exfalso; first | omega | (revert h; decide)); intro _) | (refine ⟨fun _ => ?_, fun _ => ?_⟩) | (apply And.intro; · kernel_rfl) | (apply And.intro; · (show inK _ _; unfold inK; omega)) | (apply And.intro; · (show (_ : Int) ≤ 9223372036854775807; (try simp only [List.length_append, List.length_drop, List.length_take, List.length_cons, List.length_nil]); omega))) | ((with_reducible show AllBe _); refine allBe fun βe => ?_; conv => whnf) | ((with_reducible show bothX _ _); refine bothI ?_ ?_; conv => whnf) | (with_reducible exact trivial) | ((with_reducible show CallN _ _ _ _ _ _ _ _); refine call_of env_ok rfl 1000 ?_) | ((with_reducible show XopN _ _ _ _ _ _); refine xop_of env_ok rfl 1000 ?_) | ((with_reducible show CallX _ _ _ _ _ _); first | fail) | ((with_reducible show OpX _ _ _ _); first | fail) | ((with_reducible show ∃ _ : SV, _); first | fail) | ((with_reducible show ∃ _, _); first | fail))
  all_goals (simp only [SV.den, VaP.charP]; congr 1; rw [Bool.eq_iff_iff]; simp; omega)
theorem MkP.pre_take (s p : List UInt8) : Lib.hasPrefix s p = decide (p.length ≤ s.length ∧ s.take p.length = p) := by
  unfold Lib.hasPrefix
  rw [Bool.eq_iff_iff, List.isPrefixOf_iff_prefix, decide_eq_true_eq]
  constructor
  · intro h
    exact ⟨h.length_le, (List.prefix_iff_eq_take.1 h).symm⟩
  · rintro ⟨-, h⟩
    rw [List.prefix_iff_eq_take]; exact h.symm
set_option maxRecDepth 100000 in
theorem rhas_any (s p : List UInt8) (w : World) (hs : s.length ≤ 100000) (hp : p.length ≤ 100000) : QC 17 #[.string (bstr s), .string (bstr p)] w (.bool (Lib.hasPrefix s p)) := by
  have e := MkP.pre_take s p
  refine yE Tryd.func17 rfl Tryd.results17 Tryd.ntmps17 [] [] [.str s, .str p] w ?_
  repeat' (first | refine yX ?_ | (apply And.intro <;> intro _) | apply bothI | refine retB fun β => ?_ | intro βe | (refine ⟨p.length, rfl, by omega, ?_⟩) | exact trivial)
  all_goals (simp only [SV.den]; rw [e]; congr 1)
  all_goals first | (rw [Bool.eq_iff_iff]; simp; omega) | (symm; rw [decide_eq_false_iff_not]; rintro ⟨h, -⟩; omega) | trace_state
/-- a token as it lies in memory -/
def MkP.tov (t : MkP.Tok) : List Value := [.int .i64 (t.c : Nat), .int .i64 (t.n : Nat), .bool t.text, .bool t.bad]
set_option maxRecDepth 100000 in
theorem ris_any (t : MkP.Tok) (c : Nat) (w : World) (hc : c < 256) : QC 29 #[.agg (MkP.tov t).toArray, .int .u8 (c : Nat)] w (.bool (t.is c)) := by
  obtain ⟨tc, tn, tt, tb⟩ := t
  refine yE Tryd.func29 rfl Tryd.results29 Tryd.ntmps29 [] [] [.agg [.int .i64 (tc : Nat), .int .i64 (tn : Nat), .bool tt, .bool tb], .int .u8 (c : Nat)] w ?_
  cases tt <;> cases tb
  all_goals repeat' (first | refine yX ?_ | (apply And.intro <;> intro _) | apply bothI | refine retB fun β => ?_ | intro βe | fail | exact trivial)
  all_goals (simp only [SV.den, MkP.Tok.is]; try simp; try omega)
end Go.Proofs.YtnbahdnjcdimgaaDoor
