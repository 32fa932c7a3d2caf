/- Marked-down texts, the program: a character read, walked in place, a byte that is no rune. -/
import Derived.Test.YtnbahdnjcdimgaaDoorMGI
set_option linter.unusedSimpArgs false
set_option linter.unusedVariables false
namespace Go.Proofs.YtnbahdnjcdimgaaDoor
open Go.RowKit
open Sym
attribute [local irreducible] Calls Sym.AggEq
set_option maxRecDepth 100000 in
set_option maxHeartbeats 4000000 in
theorem charNA {W0 : World} {w0 : Base} {fn : Func} {res : List ResultVar} {R : Ending → World → Prop} {sc sb : List Nat} {all l : List Oper} {k : List It} {d m : Nat} {fr : List (Nat × SV)} (s : List UInt8) (t : MkP.RT) (Φ : Nat → Option Obj → Prop) (hres : fn.results = res.toArray) (hs : s ≠ []) (hA : VaP.dec s = (65533, 1)) (hl : s.length ≤ 100000) (hn : t.n ≤ 100000) (hk : t.k ≤ 100000) (hW : XM W0) (hB : Below W0.heap.size W0 w0.w) (hn0 : w0.n0 ≤ 1) (hfr : okF 1 fr = true) (hd : Nat.blt d m = true)
    (h : ∀ (g cap gl lcap : Nat) (xa : Option Addr) (xc : Nat) (w1 : Base), Ext W0.heap.size w0 w1 → Kept W0.heap.size w1 xa (MkP.atv (MkP.ats t.o0 t.o1 t.o2 t.o3 t.link)) → wpS ⟨Tryd.prog, env, W0.heap.size, w1, fn, res, R, sc, sb⟩ 1000 (.ops all l :: k) ⟨(d, .int .i64 ((MkP.chr s).2.2 : Nat)) :: fr, rdR (MkP.chR t (MkP.chr s).2.1 (MkP.chr s).1 g cap gl lcap xa xc) Φ, 4, m⟩) :
    CallN ⟨Tryd.prog, env, W0.heap.size, w0, fn, res, R, sc, sb⟩ all l k (some d) 25 [.ptr 0 0, .str s] ⟨fr, rdR t Φ, 4, m⟩ := by
  obtain ⟨i0, hi, hz0, hz1, hz2⟩ := info_parts elInfo
  obtain ⟨i1, hi1, hy0, hy1, hy2⟩ := info_parts loInfo
  have hu := Tryd.underlying22
  have hsz := fun w => Tryd.sizeOf30 w
  have hzv := fun w => Tryd.zeroValue30 w
  have hu1 := Tryd.underlying23
  have hsz1 := fun w => Tryd.sizeOf38 w
  have hzv1 := fun w => Tryd.zeroValue38 w
  have hpos : 0 < W0.heap.size := Nat.lt_of_le_of_lt (Nat.zero_le _) (World.block_lt_of_cell? _ _ (hW.tog 0 _ rfl))
  have D := fun (w : World) (hb : Below W0.heap.size w0.w w) => decode_any s w (hW.below (hB.trans hb))
  have XW := fun (w : World) (hb : Below W0.heap.size w0.w w) => hW.below (hB.trans hb)
  have hc0 := VaP.dec_lt hs
  have hc1 := VaP.dec_len hs
  have CH := fun (w : World) => char_any (VaP.dec s).1 w
  have hchr : MkP.chr s = if VaP.dec s = (65533, 1) ∨ VaP.charP (VaP.dec s).1 = false then (true, 63, (VaP.dec s).2) else (false, (VaP.dec s).1, (VaP.dec s).2) := rfl
  generalize MkP.chr s = X at *
  obtain ⟨c, n1, hcn⟩ : ∃ c n, VaP.dec s = (c, n) := ⟨_, _, rfl⟩
  rw [hcn] at hchr D hc0 hc1 CH
  dsimp only at hchr D hc0 hc1 CH
  obtain ⟨ob, a, n, cap, els, lb, b, kk, lcap, ls, o0, o1, o2, o3, link⟩ := t
  dsimp only [rdR] at *
  refine inlineP 1 env_ok hres Tryd.func25 rfl Tryd.results25 Tryd.ntmps25 (by kernel_rfl) ⟨(by show 0 < 4; decide), trivial, trivial⟩ (Nat.le_of_ble_eq_true rfl) hn0 rfl hfr (T := Nat × Nat × Nat × Nat × Option Addr × Nat) (fun _ => .int .i64 (X.2.2 : Nat)) (fun q => rdR (MkP.chR ⟨ob, a, n, cap, els, lb, b, kk, lcap, ls, o0, o1, o2, o3, link⟩ X.2.1 X.1 q.1 q.2.1 q.2.2.1 q.2.2.2.1 q.2.2.2.2.1 q.2.2.2.2.2) Φ) (fun q W p => Kept W0.heap.size ⟨W, fun _ => 0, 0, p⟩ q.2.2.2.2.1 (MkP.atv (MkP.ats o0 o1 o2 o3 link))) [] [] 1000 1000 (fun R' β0 hR => ?_) (fun q w1 hx hi => .inl ?_)
  · obtain ⟨rfl, rfl⟩ : c = 65533 ∧ n1 = 1 := by rw [hcn] at hA; cases hA; exact ⟨rfl, rfl⟩
    rw [if_pos (.inl rfl)] at hchr
    subst hchr
    clear CH
    have CH : True := trivial
    (repeat' (first | refine yX ?_ | (apply And.intro <;> intro _) | apply bothI | refine retB fun β => ?_ | intro βe | refine yK (.tup [.int .i32 (65533 : Nat), .int .i64 (1 : Nat)]) (fun β w hm => D w hm.below) ?_ | refine yK (.lit true) (fun β w hm => CH w) ?_ | refine yO x_nilP ?_ | refine yO (x_len hu) ?_ | ((with_reducible show OpX _ ⟨_, .buildSlice 23 _ _, _, _, _, _⟩ _ _); refine opx_build1 (sz := 5) rfl rfl rfl (xs := MkP.lov n) (fun β => rfl) rfl (by omega) (by omega) hu1 hsz1 hzv1 (fun g1 => ?_)) | ((with_reducible show OpX _ ⟨_, .call ⟨_, _, ⟨[23, _]⟩⟩, _, _, _, _⟩ _ _); refine opx_appendZ 2 4 rfl hu1 hi1 hy0 hy1 rfl (by omega) rfl rfl rfl rfl (by unfold maxLen; omega) (by rw [hy2]; omega) (by simp [Value.oneCell', MkP.lov]) (by omega) rfl (Nat.le_of_ble_eq_true rfl) rfl rfl rfl hpos (fun gl lcap2 => ?_)) | (refine callSlF (T := Option Addr × Nat) (fun q => .any (.slice q.1 (MkP.ats o0 o1 o2 o3 link).length q.2)) (fun q => q.1) (fun _ => MkP.atv (MkP.ats o0 o1 o2 o3 link)) hpos (by kernel_rfl) rfl (fun _ => rfl) (fun β w hm => attrs_row hm (XW w hm.below) rfl) (fun q hq => ?_)) | ((with_reducible show OpX _ ⟨_, .buildSlice 22 _ _, _, _, _, _⟩ _ _); refine opx_build1 (sz := 3) rfl rfl rfl (xs := MkP.elv ⟨63, q.1, q.2, MkP.ats o0 o1 o2 o3 link⟩) (fun β => rfl) rfl (by omega) (by omega) hu hsz hzv (fun g1 => ?_)) | ((with_reducible show OpX _ ⟨_, .call ⟨_, _, ⟨[22, _]⟩⟩, _, _, _, _⟩ _ _); refine opx_appendZ 1 7 rfl hu hi hz0 hz1 rfl (by omega) rfl rfl rfl rfl (by unfold maxLen; omega) (by rw [hz2]; omega) (by simp [Value.oneCell', MkP.elv]) (by omega) rfl (Nat.le_of_ble_eq_true rfl) rfl rfl rfl hpos (fun ge cap2 => ?_)) | exact trivial)); (all_goals first | (exfalso; omega) | skip); (all_goals refine ret_prot [6] (fun w1 hL => hR (ge, cap2, gl, lcap2, q.1, q.2) _ _ w1 hL.1 (kept_of (hL.row 6 rfl (by simp))) (by (unfold wkV; refine ⟨rfl, eqSV_refl _, trivial, ?_⟩; dsimp only [rdR, MkP.chR]; (repeat' (first | exact trivial | exact eqSV_refl _ | refine eqI ?_ | refine eqS ?_ | apply And.intro | exact yV | fail)); (all_goals first | (intro b x h; exact h) | (refine wkz ⟨rfl, ?_⟩; intro b x h; exact h) | (intro b x h; rw [MkP.elvs_add]; exact h) | (intro b x h; show OwnZ true _ _ _ _ _ (MkP.lovs (_ ++ _)) b x; rw [MkP.lovs_add]; exact h) | fail)))))
  · unfold putD
    dsimp only
    simp only [hd, cond_true]
    exact h _ _ _ _ _ _ w1 hx (kept_to hi)
end Go.Proofs.YtnbahdnjcdimgaaDoor
