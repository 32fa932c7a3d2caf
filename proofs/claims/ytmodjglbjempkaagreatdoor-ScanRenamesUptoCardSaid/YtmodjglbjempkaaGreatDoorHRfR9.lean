/- References: the walk of the reference's ReadRef. -/
import Derived.Test.YtmodjglbjempkaaGreatDoorHRfR8
set_option linter.unusedSimpArgs false
set_option linter.unusedVariables false
namespace Go.Proofs.YtmodjglbjempkaaGreatDoor
open Go.RowKit
namespace RfP
/-- what the reference does where the first apostrophe opens a name: k bytes are read, b stands in the name -/
theorem parse_read (s : Str) (h500 : s.length ≤ 500) (hr : s ≠ refTxt) : parseP s = if (titleP s).2.2 = false then (zeroR, 10) else readR (titleP s).1 (cutR 58 (titleP s).2.1).2.2 (sideP (cutR 58 (titleP s).2.1).1) (bif (cutR 58 (titleP s).2.1).2.2 then sideP (cutR 58 (titleP s).2.1).2.1 else ((sideP (cutR 58 (titleP s).2.1).1).1, 1)) := by
  rw [← read_same (titleP s).1 (titleP s).2.2 (cutR 58 (titleP s).2.1).2.2 (cutR 58 (titleP s).2.1).1 (cutR 58 (titleP s).2.1).2.1]
  unfold parseP
  rw [if_neg (by omega), if_neg hr]
theorem cutAt_take (c : UInt8) : ∀ (s : Str) (k : Nat), (∀ d ∈ s.take k, d ≠ c) → k < s.length → s.getD k 0 = c → cutAt c s = some (s.take k, s.drop (k + 1))
  | [], k, _, h, _ => by simp at h
  | d :: r, 0, _, _, h => by
    have e : d = c := h
    subst e
    simp [cutAt]
  | d :: r, k + 1, h1, h2, h3 => by
    have hd : d ≠ c := h1 d (by simp)
    have ih := cutAt_take c r k (fun e he => h1 e (by simp [he])) (by simpa using h2) h3
    simp [cutAt, hd, ih]
theorem cutAt_none (c : UInt8) : ∀ (s : Str), (∀ d ∈ s, d ≠ c) → cutAt c s = none
  | [], _ => rfl
  | d :: r, h => by
    have hd : d ≠ c := h d (by simp)
    simp [cutAt, hd, cutAt_none c r (fun e he => h e (by simp [he]))]
end RfP
set_option maxRecDepth 100000 in
theorem ReadRef_long (s : List UInt8) (w : World) (h : 500 < s.length) : Calls Tryz.prog 12 #[.string (bstr s)] w (RefPost w (RfP.parseP s)) := by
  have H := Bx.mk (show RfP.parseP s = (RfP.zeroR, 3) by unfold RfP.parseP; rw [if_pos h])
  have hsz := bstr_size s
  go_enter Tryz.func12, Tryz.ntmps12
  go_wp2
  exact bodyPost_ret (v := .tuple #[.agg #[.string { data := #[] }, .int .i64 0, .int .i64 0, .int .i64 0, .int .i64 0, .int .i64 0, .bool false, .bool false, .bool false, .bool false], .int .i64 3]) (by simp [results, Tryz.results12, go_sem]) rfl ⟨by rw [H.out]; rfl, (Below.refl _ _).alloc (Nat.le_refl _) _⟩
set_option maxRecDepth 100000 in
theorem ReadRef_bad (s : List UInt8) (w : World) (h : s = RfP.refTxt) : Calls Tryz.prog 12 #[.string (bstr s)] w (RefPost w (RfP.parseP s)) := by
  have H := Bx.mk (show RfP.parseP s = (RfP.badR, 0) by subst h; unfold RfP.parseP; rw [if_neg (by decide), if_pos rfl])
  have hsz := bstr_size s
  have hl : s.length = 5 := by subst h; rfl
  have hb : ((bstr s).toList == [35, 82, 69, 70, 33]) = true := by subst h; rw [bstr_list]; rfl
  clear h
  go_enter Tryz.func12, Tryz.ntmps12
  go_wp2
  exact bodyPost_ret (v := .tuple #[.agg #[.string { data := #[] }, .int .i64 4, .int .i64 0, .int .i64 0, .int .i64 0, .int .i64 0, .bool false, .bool false, .bool false, .bool false], .int .i64 0]) (by simp [results, Tryz.results12, go_sem]) rfl ⟨by rw [H.out]; rfl, (Below.refl _ _).alloc (Nat.le_refl _) _⟩
end Go.Proofs.YtmodjglbjempkaaGreatDoor
