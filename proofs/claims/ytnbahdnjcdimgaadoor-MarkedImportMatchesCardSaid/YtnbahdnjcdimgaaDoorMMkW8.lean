/- Marked-down texts, the program: Import. -/
import Derived.Test.YtnbahdnjcdimgaaDoorMMkW7
import Derived.Test.YtnbahdnjcdimgaaDoorMGI
set_option linter.unusedSimpArgs false
set_option linter.unusedVariables false
namespace Go.Proofs.YtnbahdnjcdimgaaDoor
open Go.RowKit
open Sym
attribute [local irreducible] Calls Sym.AggEq
namespace Sym
theorem callX_z {C : Ctx} {dd : Option Nat} {f : FuncId} {args : List SV} {fr : List (Nat × SV)} {rows : List (Nat × Bool × SRow)} {nx n : Nat} {K : St → Prop} (e : TypeId) (sz : Nat) (h0 : 0 < C.base) (hv : SV.oks nx args) (h : CallX C dd f args ⟨fr, (nx, false, .blob (OwnZ false e sz none 0 0 [])) :: rows, nx + 1, n⟩ K) : CallX C dd f args ⟨fr, rows, nx, n⟩ K := by
  unfold CallX at h ⊢
  refine ⟨h.1, fun β a w hs => ?_⟩
  have hm := hs.mem
  have := hm.base_le
  have hs2 := hs.learn (o := false) (b := 0) (Φ := OwnZ false e sz none 0 0 []) (by omega) ⟨rfl, rfl, rfl, rfl⟩ (fun e => by cases e) (fun i r hi => by
    have := (hm.row i true r hi).2.2.2 rfl
    omega)
  have q := h.2 _ a w hs2
  rw [SV.dens_ext (n := nx) (fun i hi => if_neg (by omega)) args hv] at q
  exact q
/-- a call that answers with a slice of its own making, and what it may hold -/
theorem callOwnC {C : Ctx} {d : Nat} {f : FuncId} {args : List SV} {fr : List (Nat × SV)} {rows : List (Nat × Bool × SRow)} {nx n : Nat} {K : St → Prop} (e : TypeId) (m : Nat) (xs : List Value)
    (he : entersB C.P f = true) (hd : Nat.blt d n = true) (hc : ∀ β w, Mem C.base C.w0 rows nx β w → Calls C.P f (SV.dens β args).toArray w (OwnOut e m xs w))
    (h : ∀ g cap, m ≤ cap → K ⟨(d, .any (.slice (some ⟨g, 0, none⟩) m cap)) :: fr, (nx, true, .blob (OwnS e 1 g m cap xs)) :: rows, nx + 1, n⟩) : CallX C (some d) f args ⟨fr, rows, nx, n⟩ K := by
  unfold CallX
  refine ⟨he, fun β a w hs => (hc β w hs.mem).mono ?_⟩
  rintro ev w' ⟨g, cap, rfl, h1, h2, h3, hb⟩
  have hm := hs.mem
  have hcap : m ≤ cap := by obtain ⟨-, cur, -, q, -⟩ := h3; exact q
  have hs' : Sat C.base C.w0 ⟨fr, rows, nx, n⟩ β a w' := ⟨hs.defers, hs.size, hs.slot, hm.belowNext hb⟩
  have hs2 := hs'.learn (o := true) (b := g) (Φ := OwnS e 1 g m cap xs) h2 h3 (fun _ => ⟨Nat.le_trans hm.base_le h1, fun i o' r hi => by have := hm.lt i (hm.row i o' r hi).2.2.1; omega⟩) (fun i r hi => by have := hm.lt i (hm.row i true r hi).2.2.1; omega) (fun _ q hq => by have := (hm.pr q hq).1; omega)
  have hs3 := hs2.put (d := d) (by simpa [Nat.blt_eq] using hd) (v := .any (.slice (some ⟨g, 0, none⟩) m cap)) rfl
  exact ⟨_, _, _, rfl, h g cap hcap, hs3⟩
theorem retOwnZ {base : Nat} {w0 : Base} {rows : List (Nat × Bool × SRow)} {nx : Nat} {β : Nat → Nat} {w : World} (hm : Mem base w0 rows nx β w) (j : Nat) {ob : Bool} {e : TypeId} {sz n cap : Nat} {a : Option Addr} {xs : List Value} (hj : get rows j = some (ob, .blob (OwnZ ob e sz a n cap xs))) : SlAt a xs w ∧ (xs ≠ [] → ∀ ad, a = some ad → base ≤ ad.block) ∧ (a = none → cap = 0) := by
  obtain ⟨h1, -, -, h4⟩ := hm.row j _ _ hj
  cases ob with
  | false =>
    obtain ⟨-, -, hc, rfl⟩ := h1.2
    exact ⟨sl_nil _ _, fun h => absurd rfl h, fun _ => hc⟩
  | true =>
    obtain ⟨g, rfl, h2⟩ := h1.2
    exact ⟨h2.slAt h1.1, fun _ ad e => by cases e; rw [← h2.1]; exact h4 rfl, fun e => by cases e⟩
end Sym
theorem trimS_any (s : List UInt8) (w : World) (hs : s.length ≤ 100000) : QC 10 #[.string (bstr s), .string (bstr [13])] w (.string (bstr (MkP.cr s))) := by
  refine quiet ((Tryd.strings_TrimSuffix (bstr s) (bstr [13]) w (by rw [bstr_size]; omega)).mono fun e w' h => ⟨?_, h.2.symm⟩)
  rw [h.1]; rfl
theorem splitO_any (s : List UInt8) (w : World) (hw : XM w) (hs : s.length ≤ 100000) : Calls Tryd.prog 9 #[.string (bstr s), .string (bstr [10])] w (OwnOut 9 (VaP.splitC 10 s).length (strV (VaP.splitC 10 s)) w) := by
  obtain ⟨m, hm⟩ := hw.len
  refine (Tryd.strings_Split (bstr s) (bstr [10]) m w (by rw [bstr_size]; omega) hm (by rw [bstr_size]; exact Nat.le_refl 1)).mono ?_
  rintro e w' ⟨h, rfl⟩
  have h1 : (bstr [10]).data.toList = [10] := rfl
  have h2 : (bstr s).data.toList = s := rfl
  have hd := Lib.splitB_data (bstr [10]) 0 (Lib.countB (bstr s) (bstr [10])) (bstr s)
  have hL : (Lib.splitB (bstr [10]) 0 (Lib.countB (bstr s) (bstr [10])) (bstr s)).map (·.data.toList) = VaP.splitC 10 s := by
    rw [hd, h1, h2, show Lib.countB (bstr s) (bstr [10]) = Lib.count s [10] from rfl]
    exact VaP.lib_split 10 _ s (Nat.le_refl _)
  have hV : (Lib.splitB (bstr [10]) 0 (Lib.countB (bstr s) (bstr [10])) (bstr s)).map Value.string = strV (VaP.splitC 10 s) := by
    unfold strV
    rw [← hL, List.map_map]
    apply List.map_congr_left
    intro b _
    rfl
  have hn := Lib.splitB_all (bstr [10]) (by rw [bstr_size]; exact Nat.le_refl 1) 0 (Lib.countB (bstr s) (bstr [10])) (bstr s) rfl
  have hn' : (VaP.splitC 10 s).length = Lib.countB (bstr s) (bstr [10]) + 1 := by
    rw [← hL, List.length_map]; exact hn
  rw [hV]
  have hle : (VaP.splitC 10 s).length ≤ s.length + 1 := by
    have := MkP.len_tot (VaP.splitC 10 s)
    rw [MkP.tot_split] at this
    exact this
  have e1 : (strV (VaP.splitC 10 s)).length = (VaP.splitC 10 s).length := by simp [strV]
  refine ⟨w.heap.size, _, by rw [h, ← hn'], Nat.le_refl _, by simp, ⟨rfl, (strV (VaP.splitC 10 s)).toArray, ?_, Nat.le_refl _, by unfold maxLen; omega, by simp [e1], by rw [Nat.mul_one, List.toList_toArray, List.take_of_length_le (by rw [e1]; exact Nat.le_refl _)], by rw [e1, Nat.mul_one]⟩, (Below.refl _ _).alloc (Nat.le_refl _) _⟩
  have := Row.new w 9 (strV (VaP.splitC 10 s)).toArray
  unfold Row at this
  exact this
namespace MkP
/-- a flow and what is lost, as they lie in memory, all new since a world -/
structure FlowAt (w w' : World) (t : RT) : Prop where
  a : SlAt t.a (elvs t.els) w'
  fa : FreshX t.a (elvs t.els) w
  b : SlAt t.b (lovs t.ls) w'
  fb : FreshX t.b (lovs t.ls) w
  x : ∀ x ∈ t.els, SlAt x.a (atv x.at_) w' ∧ FreshX x.a (atv x.at_) w
  n : t.n = t.els.length
  k : t.k = t.ls.length
  ca : t.a = none → t.cap = 0
  cb : t.b = none → t.lcap = 0
def ImpQ (tail : List Value) (s : List UInt8) (w : World) (e : Ending) (w' : World) : Prop := Below w.heap.size w w' ∧ ∃ t : RT, e = .returned (.tuple (.slice t.a t.n t.cap :: .slice t.b t.k t.lcap :: tail).toArray) ∧ FlowAt w w' t ∧ t.els.map ec = doc (lines s) ∧ t.ls = lossL 0 (lines s)
end MkP
theorem marksP (s : List UInt8) (w : World) (hs : s.length ≤ 100000) (β : Nat → Nat) : Calls Tryd.prog 11 #[.string (bstr s)] w fun e w' => ∃ t : Option Addr × Nat, e = .returned ((SV.tup [.str (MkP.mk s).1, .any (.slice t.1 (MkP.mk s).2.length t.2)]).den β) ∧ Below w.heap.size w w' ∧ (SlAt t.1 (MkP.atv (MkP.mk s).2) w' ∧ FreshX t.1 (MkP.atv (MkP.mk s).2) w) := by
  refine (marks_any s w hs).mono ?_
  rintro e w' ⟨hb, t, rfl, h1, h2⟩
  exact ⟨t, rfl, hb, h1, h2⟩
set_option maxRecDepth 100000 in
set_option maxHeartbeats 4000000 in
theorem import_any (s : List UInt8) (w : World) (hW : XM w) (hs : s.length ≤ 400) : Calls Tryd.prog 4 #[.string (bstr s)] w (MkP.ImpQ [.int .i64 0] s w) := by
  have hw0 : 0 < w.heap.size := Nat.lt_of_le_of_lt (Nat.zero_le _) (World.block_lt_of_cell? _ _ (hW.tog 0 _ rfl))
  have SP := fun (w' : World) (hb : Below w.heap.size w w') => splitO_any s w' (hW.below hb) (by omega)
  have hT := MkP.tot_split 10 s
  have hlt := MkP.len_tot (VaP.splitC 10 s)
  have hm1 : 1 ≤ (VaP.splitC 10 s).length := List.length_pos_iff.2 (VaP.split_ne 10 s)
  refine yE Tryd.func4 rfl Tryd.results4 Tryd.ntmps4 [] [] [.str s] w ?_
  obtain ⟨M, hM⟩ : ∃ M, (VaP.splitC 10 s).length = M := ⟨_, rfl⟩
  rw [hM] at SP hlt hm1
  repeat' (first | ((with_reducible first | show wpS _ _ _ _ | show putD _ _ _ _ | show putW _ _ _ _ | show splitG _ _ _ | show wpQ _ _ _ _ _ _ | show wpD _ _ _ _ _ _ _ | show wpX _ _ _ _ _ _ _ | show expX _ _ _ _ _ _ | show stepX _ _ _ _ | show keepR _ _ _ | show wpY _ _ _ _); conv => whnf) | ((with_reducible show RetN _ _ _); refine retB fun β => ?_) | ((with_reducible show _ ∧ _); first | (apply And.intro; (· intro h; exfalso; first | omega | (revert h; decide)); intro _) | (apply And.intro; rotate_left; (· intro h; exfalso; first | omega | (revert h; decide)); intro _) | (refine ⟨fun _ => ?_, fun _ => ?_⟩) | (apply And.intro; · kernel_rfl) | (apply And.intro; · (show inK _ _; unfold inK; omega)) | (apply And.intro; · (show (_ : Int) ≤ 9223372036854775807; (try simp only [List.length_append, List.length_drop, List.length_take, List.length_cons, List.length_nil]); omega))) | ((with_reducible show AllBe _); refine allBe fun βe => ?_; conv => whnf) | ((with_reducible show bothX _ _); refine bothI ?_ ?_; conv => whnf) | (with_reducible exact trivial) | ((with_reducible show CallN _ _ _ _ _ _ _ _); first | fail | refine call_of env_ok rfl 1000 ?_) | ((with_reducible show XopN _ _ _ _ _ _); refine xop_of env_ok rfl 1000 ?_) | ((with_reducible show CallX _ _ _ _ _ _); first | (refine callX_z 30 3 hw0 ⟨trivial, trivial, trivial⟩ (callX_z 38 5 hw0 ⟨trivial, trivial, trivial⟩ (callOwnC 9 M (strV (VaP.splitC 10 s)) (by kernel_rfl) rfl (fun β w' hm => SP w' hm.below) (fun g cap hcap => ?_))))) | ((with_reducible show OpX _ _ _ _); first | fail) | ((with_reducible show ∃ _ : SV, _); first | fail) | ((with_reducible show ∃ _, _); first | (refine ⟨_, ?ok, x_len Tryd.underlying44, ?_⟩; (case ok => exact fun _ _ => trivial))))
  all_goals first | (exfalso; omega) | skip
  refine yZ (T := {i : Nat // i ≤ M - 1}) (fun i => ⟨[(0, .str s), (5, .ptr 0 0), (6, .any (.slice (some ⟨g, 0, none⟩) M cap)), (22, .int .i64 ((M : Nat) - 1)), (23, .int .i64 (i.1 : Nat))], [(0, true, .cells 43 [.any (.slice none 0 0), .any (.slice none 0 0), .bool false, .bool false, .bool false, .bool false, .str []]), (1, false, .blob (OwnZ false 30 3 none 0 0 [])), (2, false, .blob (OwnZ false 38 5 none 0 0 [])), (3, true, .blob (OwnS 9 1 g M cap (strV (MkP.trimTo i.1 (VaP.splitC 10 s)))))], 4, 85⟩) (fun i => M - 1 - i.1) ⟨0, Nat.zero_le _⟩ [] [] (fun i I hI => ?_) (by ((with_reducible show wk _ _); repeat' (first | exact trivial | exact eqSV_refl _ | refine eqI ?_ | refine eqS ?_ | apply And.intro | exact yV | fail)); all_goals first | exact fun b x h => h | trace_state)
  obtain ⟨i, hi⟩ := i
  dsimp only
  by_cases hi1 : i < M - 1
  · have hi2 : i < (VaP.splitC 10 s).length := by omega
    have hg := MkP.trimTo_get hi2
    have hse := MkP.trimTo_set hi2
    have hml := MkP.mem_tot (VaP.splitC 10 s) ((VaP.splitC 10 s).getD i []) (by rw [List.getD_eq_getElem?_getD, List.getElem?_eq_getElem hi2]; exact List.getElem_mem _)
    have TS := fun (w : World) => trimS_any ((VaP.splitC 10 s).getD i []) w (by omega)
    repeat' (first | ((with_reducible first | show wpS _ _ _ _ | show putD _ _ _ _ | show putW _ _ _ _ | show splitG _ _ _ | show wpQ _ _ _ _ _ _ | show wpD _ _ _ _ _ _ _ | show wpX _ _ _ _ _ _ _ | show expX _ _ _ _ _ _ | show stepX _ _ _ _ | show keepR _ _ _ | show wpY _ _ _ _); conv => whnf) | ((with_reducible show RetN _ _ _); refine retB fun β => ?_) | ((with_reducible show _ ∧ _); first | (apply And.intro; (· intro h; exfalso; first | omega | (revert h; decide)); intro _) | (apply And.intro; rotate_left; (· intro h; exfalso; first | omega | (revert h; decide)); intro _) | (refine ⟨fun _ => ?_, fun _ => ?_⟩) | (apply And.intro; · kernel_rfl) | (apply And.intro; · (show inK _ _; unfold inK; omega)) | (apply And.intro; · (show (_ : Int) ≤ 9223372036854775807; (try simp only [List.length_append, List.length_drop, List.length_take, List.length_cons, List.length_nil]); omega))) | ((with_reducible show AllBe _); refine allBe fun βe => ?_; conv => whnf) | ((with_reducible show bothX _ _); refine bothI ?_ ?_; conv => whnf) | (with_reducible exact trivial) | ((with_reducible show CallN _ _ _ _ _ _ _ _); first | fail | refine call_of env_ok rfl 1000 ?_) | ((with_reducible show XopN _ _ _ _ _ _); refine xop_of env_ok rfl 1000 ?_) | ((with_reducible show CallX _ _ _ _ _ _); first | (refine callX (.str (MkP.cr ((VaP.splitC 10 s).getD i []))) (by kernel_rfl) rfl (trivial) (fun β w hm => TS w) ?_)) | ((with_reducible show OpX _ _ _ _); first | (refine opx_store env_ok 3 (p := i * 1) (v := .str (MkP.cr ((VaP.splitC 10 s).getD i []))) (u := .string (bstr (MkP.cr ((VaP.splitC 10 s).getD i [])))) rfl rfl rfl rfl (fun β => rfl) rfl rfl (by omega) ?_)) | ((with_reducible show ∃ _ : SV, _); first | fail) | ((with_reducible show ∃ _, _); first | (refine ⟨_, ?ok, x_len Tryd.underlying44, ?_⟩; (case ok => exact fun _ _ => trivial)) | (refine ⟨_, ?ok, x_index (j := i) (by omega) Tryd.underlying44 (fun w => Tryd.sizeOf9 w) (by omega), ?_⟩; (case ok => exact fun _ _ => rfl)) | (refine ⟨.str ((VaP.splitC 10 s).getD i []), fun _ _ => trivial, x_loadO 3 (.str ((VaP.splitC 10 s).getD i [])) (fun w => Tryd.isAgg9 w) rfl (fun β => by rw [Nat.mul_one]; exact hg), ?_⟩)))
    all_goals first | (exfalso; omega) | skip
    rw [Nat.mul_one, hse]
    exact hI _ ⟨i + 1, by omega⟩ (by dsimp only; omega) (by ((with_reducible show wk _ _); repeat' (first | exact trivial | exact eqSV_refl _ | refine eqI ?_ | refine eqS ?_ | apply And.intro | exact yV | fail)); all_goals first | exact fun b x h => h | trace_state)
  obtain rfl : i = M - 1 := by omega
  have hA : MkP.trimTo (M - 1) (VaP.splitC 10 s) = MkP.allL s := by unfold MkP.allL; rw [hM]
  have hAl : (MkP.allL s).length = M := by rw [← hA, MkP.trimTo_len _ _ (by omega), hM]
  rw [hA]
  obtain ⟨ls, hls⟩ : ∃ x, (MkP.allL s).getD (M - 1) [] = x := ⟨_, rfl⟩
  have hg : (strV (MkP.allL s))[M - 1]? = some (.string (bstr ls)) := by
    unfold strV
    rw [List.getElem?_map, List.getElem?_eq_getElem (show M - 1 < (MkP.allL s).length by omega), ← hls, List.getD_eq_getElem?_getD, List.getElem?_eq_getElem (show M - 1 < (MkP.allL s).length by omega)]
    rfl
  have hLL : MkP.lines s = if 1 < M ∧ ls = [] then (MkP.allL s).take (M - 1) else MkP.allL s := by
    unfold MkP.lines; rw [hAl, hls]
  have hsub : ∀ (j : Nat) (v : Value), (strV (MkP.lines s))[j]? = some v → (strV (MkP.allL s))[j]? = some v := by
    intro j v hj
    rw [hLL] at hj
    split at hj
    · unfold strV at hj ⊢
      rw [List.map_take] at hj
      rw [List.getElem?_take] at hj
      split at hj
      · exact hj
      · cases hj
    · exact hj
  have htl := MkP.tot_lines s
  have hll := MkP.len_tot (MkP.lines s)
  obtain ⟨N, hN⟩ : ∃ N, (MkP.lines s).length = N := ⟨_, rfl⟩
  rw [hN] at hll
  have hNM : N ≤ M ∧ ((1 < M ∧ ls = []) → N = M - 1) ∧ (¬ (1 < M ∧ ls = []) → N = M) := by
    rw [← hN, hLL]
    split
    · rename_i h; rw [List.length_take, hAl]; exact ⟨by omega, fun _ => by omega, fun q => absurd h q⟩
    · rename_i h; rw [hAl]; exact ⟨by omega, fun q => absurd q h, fun _ => rfl⟩
  obtain ⟨i0, hi0, hz0, hz1, hz2⟩ := info_parts elInfo
  have hu := Tryd.underlying22
  have hsz := fun w => Tryd.sizeOf30 w
  have hzv := fun w => Tryd.zeroValue30 w
  by_cases hc : 1 < M ∧ ls = []
  · obtain ⟨hM1, rfl⟩ := hc
    have hN2 : M - 1 = N := (hNM.2.1 ⟨hM1, rfl⟩).symm
    repeat' (first | ((with_reducible first | show wpS _ _ _ _ | show putD _ _ _ _ | show putW _ _ _ _ | show splitG _ _ _ | show wpQ _ _ _ _ _ _ | show wpD _ _ _ _ _ _ _ | show wpX _ _ _ _ _ _ _ | show expX _ _ _ _ _ _ | show stepX _ _ _ _ | show keepR _ _ _ | show wpY _ _ _ _); conv => whnf) | ((with_reducible show RetN _ _ _); refine retB fun β => ?_) | ((with_reducible show _ ∧ _); first | (apply And.intro; (· intro h; exfalso; first | omega | (revert h; decide)); intro _) | (apply And.intro; rotate_left; (· intro h; exfalso; first | omega | (revert h; decide)); intro _) | (refine ⟨fun _ => ?_, fun _ => ?_⟩) | (apply And.intro; · kernel_rfl) | (apply And.intro; · (show inK _ _; unfold inK; omega)) | (apply And.intro; · (show (_ : Int) ≤ 9223372036854775807; (try simp only [List.length_append, List.length_drop, List.length_take, List.length_cons, List.length_nil]); omega))) | ((with_reducible show AllBe _); refine allBe fun βe => ?_; conv => whnf) | ((with_reducible show bothX _ _); refine bothI ?_ ?_; conv => whnf) | (with_reducible exact trivial) | ((with_reducible show CallN _ _ _ _ _ _ _ _); first | fail | refine call_of env_ok rfl 1000 ?_) | ((with_reducible show XopN _ _ _ _ _ _); refine xop_of env_ok rfl 1000 ?_) | ((with_reducible show CallX _ _ _ _ _ _); first | fail) | ((with_reducible show OpX _ _ _ _); first | fail) | ((with_reducible show ∃ _ : SV, _); first | fail) | ((with_reducible show ∃ _, _); first | (refine ⟨_, ?ok, x_len Tryd.underlying44, ?_⟩; (case ok => exact fun _ _ => trivial)) | (refine ⟨_, ?ok, x_index (j := M - 1) (by omega) Tryd.underlying44 (fun w => Tryd.sizeOf9 w) (by omega), ?_⟩; (case ok => exact fun _ _ => rfl)) | (refine ⟨.str [], fun _ _ => trivial, x_loadO 3 (.str []) (fun w => Tryd.isAgg9 w) rfl (fun β => by rw [Nat.mul_one]; exact hg), ?_⟩) | (refine ⟨_, ?ok, x_sub (j := M - 1) (by omega) Tryd.underlying44 (fun w => Tryd.sizeOf9 w) (by omega), ?_⟩; (case ok => exact fun _ _ => rfl))))
    all_goals first | (exfalso; omega) | skip
    all_goals rw [hN2]
    all_goals
     refine loop_share 3 (strV (MkP.lines s)) rfl hsub (fun _ => ?_)
     refine loopP env_ok Tryd.results4 (fun t' : Nat × MkP.RT => ⟨[(5, .ptr 0 0), (51, .any (.slice (some ⟨g, 0, none⟩) N cap)), (52, .int .i64 (N : Nat)), (53, .int .i64 (t'.1 : Nat))], rdR t'.2 (SlF w.heap.size (some ⟨g, 0, none⟩) (strV (MkP.lines s))), 4, 85⟩) (fun t' w1 => t'.1 ≤ N ∧ t'.2.els.map MkP.ec = MkP.doc ((MkP.lines s).take t'.1) ∧ t'.2.n = (MkP.doc ((MkP.lines s).take t'.1)).length ∧ t'.2.ls = MkP.lossL 0 ((MkP.lines s).take t'.1) ∧ t'.2.k = t'.2.ls.length ∧ ∀ x ∈ t'.2.els, Kept w.heap.size w1 x.a (MkP.atv x.at_)) (fun t' => N - t'.1) (0, ⟨false, none, 0, 0, [], false, none, 0, 0, [], false, false, false, false, []⟩) [] [] ⟨Nat.zero_le _, rfl, rfl, rfl, rfl, fun x hx => by cases hx⟩ (fun w1 t1 I hx hi hI => ?_) (by dsimp only [rdR]; ((with_reducible show wk _ _); repeat' (first | exact trivial | exact eqSV_refl _ | refine eqI ?_ | refine eqS ?_ | apply And.intro | exact yV | fail)); all_goals exact fun b x h => h) (fun _ => Nat.zero_le _)
     obtain ⟨i, ⟨ob, a, n, cp, els, lb, b, kk, lcap, lss, o0, o1, o2, o3, link⟩⟩ := t1
     obtain ⟨hiN, he, hn, hl, hk, hK⟩ := hi
     dsimp only [rdR] at *
     have hdl := MkP.doc_len ((MkP.lines s).take i)
     have hdt := MkP.tot_take (MkP.lines s) i
     have hlt2 := MkP.lossL_len ((MkP.lines s).take i) 0
     rw [← hl, ← hk] at hlt2
     have hB1 := hx.below
     by_cases hiL : i < N
     · have hiL' : i < (MkP.lines s).length := by omega
       have hdn := MkP.doc_next hiL'
       have hln := MkP.loss_next hiL'
       have hgl : (strV (MkP.lines s))[i]? = some (.string (bstr ((MkP.lines s).getD i []))) := by
         unfold strV
         rw [List.getElem?_map, List.getElem?_eq_getElem hiL', List.getD_eq_getElem?_getD, List.getElem?_eq_getElem hiL']
         rfl
       have hml := MkP.mem_tot (MkP.lines s) ((MkP.lines s).getD i []) (by rw [List.getD_eq_getElem?_getD, List.getElem?_eq_getElem hiL']; exact List.getElem_mem _)
       obtain ⟨l, hl0⟩ : ∃ l, (MkP.lines s).getD i [] = l := ⟨_, rfl⟩
       rw [hl0] at hdn hln hgl hml
       have hkl := MkP.mk_len l
       have hkl2 := MkP.lineP_len (MkP.mk l).1
       have hpl := MkP.para_len l
       repeat' (first | ((with_reducible first | show wpS _ _ _ _ | show putD _ _ _ _ | show putW _ _ _ _ | show splitG _ _ _ | show wpQ _ _ _ _ _ _ | show wpD _ _ _ _ _ _ _ | show wpX _ _ _ _ _ _ _ | show expX _ _ _ _ _ _ | show stepX _ _ _ _ | show keepR _ _ _ | show wpY _ _ _ _); conv => whnf) | ((with_reducible show RetN _ _ _); refine retB fun β => ?_) | ((with_reducible show _ ∧ _); first | (apply And.intro; (· intro h; exfalso; first | omega | (revert h; decide)); intro _) | (apply And.intro; rotate_left; (· intro h; exfalso; first | omega | (revert h; decide)); intro _) | (refine ⟨fun _ => ?_, fun _ => ?_⟩) | (apply And.intro; · kernel_rfl) | (apply And.intro; · (show inK _ _; unfold inK; omega)) | (apply And.intro; · (show (_ : Int) ≤ 9223372036854775807; (try simp only [List.length_append, List.length_drop, List.length_take, List.length_cons, List.length_nil]); omega))) | ((with_reducible show AllBe _); refine allBe fun βe => ?_; conv => whnf) | ((with_reducible show bothX _ _); refine bothI ?_ ?_; conv => whnf) | (with_reducible exact trivial) | ((with_reducible show CallN _ _ _ _ _ _ _ _); first | (refine callP env_ok Tryd.results4 (T := Option Addr × Nat) (fun q => .tup [.str (MkP.mk l).1, .any (.slice q.1 (MkP.mk l).2.length q.2)]) (fun q w w' => SlAt q.1 (MkP.atv (MkP.mk l).2) w' ∧ FreshX q.1 (MkP.atv (MkP.mk l).2) w) 1000 (by kernel_rfl) rfl (fun _ => ⟨trivial, rfl, trivial⟩) (fun β w hm => marksP l w (by omega) β) (fun q w2 hx2 hq2 => ?_)) | (refine lineN (MkP.mk l).1 ⟨ob, a, n, cp, els, lb, b, kk, lcap, lss, o0, o1, o2, o3, link⟩ (SlF w.heap.size (some ⟨g, 0, none⟩) (strV (MkP.lines s))) Tryd.results4 (by omega) (by dsimp only; omega) (by dsimp only; omega) hk hW (hB1.trans hx2.below) (Nat.le_trans (Nat.le_of_eq (hx.trans hx2).n0) (Nat.zero_le _)) rfl (by kernel_rfl) (fun x hx' => (hK x hx').ext hx2) (fun t2 w3 hx3 hK3 e1 e2 e3 e4 => ?_); obtain ⟨ob, a, n3, cp, els, lb, b, kk3, lcap, lss, o0, o1, o2, o3, link⟩ := t2; dsimp only [rdR] at *) | refine call_of env_ok rfl 1000 ?_) | ((with_reducible show XopN _ _ _ _ _ _); refine xop_of env_ok rfl 1000 ?_) | ((with_reducible show CallX _ _ _ _ _ _); first | fail) | ((with_reducible show OpX _ _ _ _); first | ((with_reducible show OpX _ ⟨_, .buildSlice 22 _ _, _, _, _, _⟩ _ _); refine opx_build1 (sz := 3) rfl rfl rfl (xs := MkP.elv ⟨10, q.1, q.2, (MkP.mk l).2⟩) (fun β => rfl) rfl (by omega) (by omega) hu hsz hzv (fun g1 => ?_)) | ((with_reducible show OpX _ ⟨_, .call ⟨_, _, ⟨[22, _]⟩⟩, _, _, _, _⟩ _ _); refine opx_appendZ 1 4 rfl hu hi0 hz0 hz1 rfl (by omega) rfl rfl rfl rfl (by unfold maxLen; omega) (by rw [hz2]; omega) (by simp [Value.oneCell', MkP.elv]) (by omega) rfl (Nat.le_trans (Nat.le_of_eq ((hx.trans hx2).trans hx3).n0) (Nat.zero_le _)) rfl rfl rfl hw0 (fun ge cap2 => ?_))) | ((with_reducible show ∃ _ : SV, _); first | fail) | ((with_reducible show ∃ _, _); first | (refine ⟨_, ?ok, x_index (j := i) (by omega) Tryd.underlying44 (fun w => Tryd.sizeOf9 w) (by omega), ?_⟩; (case ok => exact fun _ _ => rfl)) | (refine ⟨.str l, fun _ _ => trivial, x_loadF 3 (.str l) (fun w => Tryd.isAgg9 w) rfl (fun β => by rw [Nat.mul_one]; exact hgl), ?_⟩) | (refine ⟨_, ?ok, x_nilP, ?_⟩; (case ok => exact fun _ h => h.1))))
       all_goals first | (exfalso; omega) | skip
       all_goals
        obtain ⟨w4, b1, b2, ⟨b3, b4⟩, b5⟩ := hq2
        have hk2 := Kept.new b1 b3 b4 b5
        exact hI w3 _ (i + 1, ⟨true, some ⟨ge, 0, none⟩, n3 + 1, cap2, els ++ [⟨10, q.1, q.2, (MkP.mk l).2⟩], lb, b, kk3, lcap, lss, o0, o1, o2, o3, link⟩) (hx2.trans hx3) ⟨hiL, by dsimp only; rw [List.map_append, e1, he, hdn]; simp [MkP.para, MkP.ec, List.append_assoc], by dsimp only; rw [hdn, List.length_append]; omega, by dsimp only; rw [e3, hl, hn, hln], e4.2, fun x hx' => by rcases List.mem_append.1 hx' with q' | q'; exact hK3 x q'; (rw [List.mem_singleton.1 q']; exact hk2.ext hx3)⟩ (by dsimp only; omega) (by dsimp only [rdR]; ((with_reducible show wk _ _); repeat' (first | exact trivial | exact eqSV_refl _ | refine eqI ?_ | refine eqS ?_ | apply And.intro | exact yV | fail)); all_goals first | exact fun b x h => h | exact wkz ⟨rfl, fun b x h => h⟩ | (intro b x h; rw [MkP.elvs_add]; exact h))
     · have hiN2 : i = N := by omega
       repeat' (first | ((with_reducible first | show wpS _ _ _ _ | show putD _ _ _ _ | show putW _ _ _ _ | show splitG _ _ _ | show wpQ _ _ _ _ _ _ | show wpD _ _ _ _ _ _ _ | show wpX _ _ _ _ _ _ _ | show expX _ _ _ _ _ _ | show stepX _ _ _ _ | show keepR _ _ _ | show wpY _ _ _ _); conv => whnf) | ((with_reducible show RetN _ _ _); refine retB fun β => ?_) | ((with_reducible show _ ∧ _); first | (apply And.intro; (· intro h; exfalso; first | omega | (revert h; decide)); intro _) | (apply And.intro; rotate_left; (· intro h; exfalso; first | omega | (revert h; decide)); intro _) | (refine ⟨fun _ => ?_, fun _ => ?_⟩) | (apply And.intro; · kernel_rfl) | (apply And.intro; · (show inK _ _; unfold inK; omega)) | (apply And.intro; · (show (_ : Int) ≤ 9223372036854775807; (try simp only [List.length_append, List.length_drop, List.length_take, List.length_cons, List.length_nil]); omega))) | ((with_reducible show AllBe _); refine allBe fun βe => ?_; conv => whnf) | ((with_reducible show bothX _ _); refine bothI ?_ ?_; conv => whnf) | (with_reducible exact trivial) | ((with_reducible show CallN _ _ _ _ _ _ _ _); first | fail | refine call_of env_ok rfl 1000 ?_) | ((with_reducible show XopN _ _ _ _ _ _); refine xop_of env_ok rfl 1000 ?_) | ((with_reducible show CallX _ _ _ _ _ _); first | fail) | ((with_reducible show OpX _ _ _ _); first | fail) | ((with_reducible show ∃ _ : SV, _); first | fail) | ((with_reducible show ∃ _, _); first | (refine ⟨_, ?ok, x_nilP, ?_⟩; (case ok => exact fun _ h => h.1))))
       all_goals first | (exfalso; omega) | skip
       all_goals exact ret fun β w' hm => ⟨hB1.trans hm.below, ⟨ob, a, n, cp, els, lb, b, kk, lcap, lss, o0, o1, o2, o3, link⟩, rfl, ⟨(retOwnZ hm 1 rfl).1, (retOwnZ hm 1 rfl).2.1, (retOwnZ hm 2 rfl).1, (retOwnZ hm 2 rfl).2.1, fun x hx' => ⟨(hK x hx').mem hm, (hK x hx').fresh rfl⟩, by have q := congrArg List.length he; rw [List.length_map] at q; exact hn.trans q.symm, hk, (retOwnZ hm 1 rfl).2.2, (retOwnZ hm 2 rfl).2.2⟩, by dsimp only; rw [he, hiN2, ← hN, List.take_length], by dsimp only; rw [hl, hiN2, ← hN, List.take_length]⟩
  · have hN2 : N = M := hNM.2.2 hc
    repeat' (first | ((with_reducible first | show wpS _ _ _ _ | show putD _ _ _ _ | show putW _ _ _ _ | show splitG _ _ _ | show wpQ _ _ _ _ _ _ | show wpD _ _ _ _ _ _ _ | show wpX _ _ _ _ _ _ _ | show expX _ _ _ _ _ _ | show stepX _ _ _ _ | show keepR _ _ _ | show wpY _ _ _ _); conv => whnf) | ((with_reducible show RetN _ _ _); refine retB fun β => ?_) | ((with_reducible show _ ∧ _); first | (apply And.intro; (· intro h; exfalso; first | omega | (revert h; decide)); intro _) | (apply And.intro; rotate_left; (· intro h; exfalso; first | omega | (revert h; decide)); intro _) | (refine ⟨fun _ => ?_, fun _ => ?_⟩) | (apply And.intro; · kernel_rfl) | (apply And.intro; · (show inK _ _; unfold inK; omega)) | (apply And.intro; · (show (_ : Int) ≤ 9223372036854775807; (try simp only [List.length_append, List.length_drop, List.length_take, List.length_cons, List.length_nil]); omega))) | ((with_reducible show AllBe _); refine allBe fun βe => ?_; conv => whnf) | ((with_reducible show bothX _ _); refine bothI ?_ ?_; conv => whnf) | (with_reducible exact trivial) | ((with_reducible show CallN _ _ _ _ _ _ _ _); first | fail | refine call_of env_ok rfl 1000 ?_) | ((with_reducible show XopN _ _ _ _ _ _); refine xop_of env_ok rfl 1000 ?_) | ((with_reducible show CallX _ _ _ _ _ _); first | fail) | ((with_reducible show OpX _ _ _ _); first | fail) | ((with_reducible show ∃ _ : SV, _); first | fail) | ((with_reducible show ∃ _, _); first | (refine ⟨_, ?ok, x_len Tryd.underlying44, ?_⟩; (case ok => exact fun _ _ => trivial)) | (refine ⟨_, ?ok, x_index (j := M - 1) (by omega) Tryd.underlying44 (fun w => Tryd.sizeOf9 w) (by omega), ?_⟩; (case ok => exact fun _ _ => rfl)) | (refine ⟨.str ls, fun _ _ => trivial, x_loadO 3 (.str ls) (fun w => Tryd.isAgg9 w) rfl (fun β => by rw [Nat.mul_one]; exact hg), ?_⟩) | (refine ⟨_, ?ok, x_sub (j := M - 1) (by omega) Tryd.underlying44 (fun w => Tryd.sizeOf9 w) (by omega), ?_⟩; (case ok => exact fun _ _ => rfl))))
    all_goals first | (exfalso; omega) | (exfalso; exact hc ⟨by omega, by assumption⟩) | skip
    all_goals subst hN2
    all_goals
     refine loop_share 3 (strV (MkP.lines s)) rfl hsub (fun _ => ?_)
     refine loopP env_ok Tryd.results4 (fun t' : Nat × MkP.RT => ⟨[(5, .ptr 0 0), (51, .any (.slice (some ⟨g, 0, none⟩) N cap)), (52, .int .i64 (N : Nat)), (53, .int .i64 (t'.1 : Nat))], rdR t'.2 (SlF w.heap.size (some ⟨g, 0, none⟩) (strV (MkP.lines s))), 4, 85⟩) (fun t' w1 => t'.1 ≤ N ∧ t'.2.els.map MkP.ec = MkP.doc ((MkP.lines s).take t'.1) ∧ t'.2.n = (MkP.doc ((MkP.lines s).take t'.1)).length ∧ t'.2.ls = MkP.lossL 0 ((MkP.lines s).take t'.1) ∧ t'.2.k = t'.2.ls.length ∧ ∀ x ∈ t'.2.els, Kept w.heap.size w1 x.a (MkP.atv x.at_)) (fun t' => N - t'.1) (0, ⟨false, none, 0, 0, [], false, none, 0, 0, [], false, false, false, false, []⟩) [] [] ⟨Nat.zero_le _, rfl, rfl, rfl, rfl, fun x hx => by cases hx⟩ (fun w1 t1 I hx hi hI => ?_) (by dsimp only [rdR]; ((with_reducible show wk _ _); repeat' (first | exact trivial | exact eqSV_refl _ | refine eqI ?_ | refine eqS ?_ | apply And.intro | exact yV | fail)); all_goals exact fun b x h => h) (fun _ => Nat.zero_le _)
     obtain ⟨i, ⟨ob, a, n, cp, els, lb, b, kk, lcap, lss, o0, o1, o2, o3, link⟩⟩ := t1
     obtain ⟨hiN, he, hn, hl, hk, hK⟩ := hi
     dsimp only [rdR] at *
     have hdl := MkP.doc_len ((MkP.lines s).take i)
     have hdt := MkP.tot_take (MkP.lines s) i
     have hlt2 := MkP.lossL_len ((MkP.lines s).take i) 0
     rw [← hl, ← hk] at hlt2
     have hB1 := hx.below
     by_cases hiL : i < N
     · have hiL' : i < (MkP.lines s).length := by omega
       have hdn := MkP.doc_next hiL'
       have hln := MkP.loss_next hiL'
       have hgl : (strV (MkP.lines s))[i]? = some (.string (bstr ((MkP.lines s).getD i []))) := by
         unfold strV
         rw [List.getElem?_map, List.getElem?_eq_getElem hiL', List.getD_eq_getElem?_getD, List.getElem?_eq_getElem hiL']
         rfl
       have hml := MkP.mem_tot (MkP.lines s) ((MkP.lines s).getD i []) (by rw [List.getD_eq_getElem?_getD, List.getElem?_eq_getElem hiL']; exact List.getElem_mem _)
       obtain ⟨l, hl0⟩ : ∃ l, (MkP.lines s).getD i [] = l := ⟨_, rfl⟩
       rw [hl0] at hdn hln hgl hml
       have hkl := MkP.mk_len l
       have hkl2 := MkP.lineP_len (MkP.mk l).1
       have hpl := MkP.para_len l
       repeat' (first | ((with_reducible first | show wpS _ _ _ _ | show putD _ _ _ _ | show putW _ _ _ _ | show splitG _ _ _ | show wpQ _ _ _ _ _ _ | show wpD _ _ _ _ _ _ _ | show wpX _ _ _ _ _ _ _ | show expX _ _ _ _ _ _ | show stepX _ _ _ _ | show keepR _ _ _ | show wpY _ _ _ _); conv => whnf) | ((with_reducible show RetN _ _ _); refine retB fun β => ?_) | ((with_reducible show _ ∧ _); first | (apply And.intro; (· intro h; exfalso; first | omega | (revert h; decide)); intro _) | (apply And.intro; rotate_left; (· intro h; exfalso; first | omega | (revert h; decide)); intro _) | (refine ⟨fun _ => ?_, fun _ => ?_⟩) | (apply And.intro; · kernel_rfl) | (apply And.intro; · (show inK _ _; unfold inK; omega)) | (apply And.intro; · (show (_ : Int) ≤ 9223372036854775807; (try simp only [List.length_append, List.length_drop, List.length_take, List.length_cons, List.length_nil]); omega))) | ((with_reducible show AllBe _); refine allBe fun βe => ?_; conv => whnf) | ((with_reducible show bothX _ _); refine bothI ?_ ?_; conv => whnf) | (with_reducible exact trivial) | ((with_reducible show CallN _ _ _ _ _ _ _ _); first | (refine callP env_ok Tryd.results4 (T := Option Addr × Nat) (fun q => .tup [.str (MkP.mk l).1, .any (.slice q.1 (MkP.mk l).2.length q.2)]) (fun q w w' => SlAt q.1 (MkP.atv (MkP.mk l).2) w' ∧ FreshX q.1 (MkP.atv (MkP.mk l).2) w) 1000 (by kernel_rfl) rfl (fun _ => ⟨trivial, rfl, trivial⟩) (fun β w hm => marksP l w (by omega) β) (fun q w2 hx2 hq2 => ?_)) | (refine lineN (MkP.mk l).1 ⟨ob, a, n, cp, els, lb, b, kk, lcap, lss, o0, o1, o2, o3, link⟩ (SlF w.heap.size (some ⟨g, 0, none⟩) (strV (MkP.lines s))) Tryd.results4 (by omega) (by dsimp only; omega) (by dsimp only; omega) hk hW (hB1.trans hx2.below) (Nat.le_trans (Nat.le_of_eq (hx.trans hx2).n0) (Nat.zero_le _)) rfl (by kernel_rfl) (fun x hx' => (hK x hx').ext hx2) (fun t2 w3 hx3 hK3 e1 e2 e3 e4 => ?_); obtain ⟨ob, a, n3, cp, els, lb, b, kk3, lcap, lss, o0, o1, o2, o3, link⟩ := t2; dsimp only [rdR] at *) | refine call_of env_ok rfl 1000 ?_) | ((with_reducible show XopN _ _ _ _ _ _); refine xop_of env_ok rfl 1000 ?_) | ((with_reducible show CallX _ _ _ _ _ _); first | fail) | ((with_reducible show OpX _ _ _ _); first | ((with_reducible show OpX _ ⟨_, .buildSlice 22 _ _, _, _, _, _⟩ _ _); refine opx_build1 (sz := 3) rfl rfl rfl (xs := MkP.elv ⟨10, q.1, q.2, (MkP.mk l).2⟩) (fun β => rfl) rfl (by omega) (by omega) hu hsz hzv (fun g1 => ?_)) | ((with_reducible show OpX _ ⟨_, .call ⟨_, _, ⟨[22, _]⟩⟩, _, _, _, _⟩ _ _); refine opx_appendZ 1 4 rfl hu hi0 hz0 hz1 rfl (by omega) rfl rfl rfl rfl (by unfold maxLen; omega) (by rw [hz2]; omega) (by simp [Value.oneCell', MkP.elv]) (by omega) rfl (Nat.le_trans (Nat.le_of_eq ((hx.trans hx2).trans hx3).n0) (Nat.zero_le _)) rfl rfl rfl hw0 (fun ge cap2 => ?_))) | ((with_reducible show ∃ _ : SV, _); first | fail) | ((with_reducible show ∃ _, _); first | (refine ⟨_, ?ok, x_index (j := i) (by omega) Tryd.underlying44 (fun w => Tryd.sizeOf9 w) (by omega), ?_⟩; (case ok => exact fun _ _ => rfl)) | (refine ⟨.str l, fun _ _ => trivial, x_loadF 3 (.str l) (fun w => Tryd.isAgg9 w) rfl (fun β => by rw [Nat.mul_one]; exact hgl), ?_⟩) | (refine ⟨_, ?ok, x_nilP, ?_⟩; (case ok => exact fun _ h => h.1))))
       all_goals first | (exfalso; omega) | skip
       all_goals
        obtain ⟨w4, b1, b2, ⟨b3, b4⟩, b5⟩ := hq2
        have hk2 := Kept.new b1 b3 b4 b5
        exact hI w3 _ (i + 1, ⟨true, some ⟨ge, 0, none⟩, n3 + 1, cap2, els ++ [⟨10, q.1, q.2, (MkP.mk l).2⟩], lb, b, kk3, lcap, lss, o0, o1, o2, o3, link⟩) (hx2.trans hx3) ⟨hiL, by dsimp only; rw [List.map_append, e1, he, hdn]; simp [MkP.para, MkP.ec, List.append_assoc], by dsimp only; rw [hdn, List.length_append]; omega, by dsimp only; rw [e3, hl, hn, hln], e4.2, fun x hx' => by rcases List.mem_append.1 hx' with q' | q'; exact hK3 x q'; (rw [List.mem_singleton.1 q']; exact hk2.ext hx3)⟩ (by dsimp only; omega) (by dsimp only [rdR]; ((with_reducible show wk _ _); repeat' (first | exact trivial | exact eqSV_refl _ | refine eqI ?_ | refine eqS ?_ | apply And.intro | exact yV | fail)); all_goals first | exact fun b x h => h | exact wkz ⟨rfl, fun b x h => h⟩ | (intro b x h; rw [MkP.elvs_add]; exact h))
     · have hiN2 : i = N := by omega
       repeat' (first | ((with_reducible first | show wpS _ _ _ _ | show putD _ _ _ _ | show putW _ _ _ _ | show splitG _ _ _ | show wpQ _ _ _ _ _ _ | show wpD _ _ _ _ _ _ _ | show wpX _ _ _ _ _ _ _ | show expX _ _ _ _ _ _ | show stepX _ _ _ _ | show keepR _ _ _ | show wpY _ _ _ _); conv => whnf) | ((with_reducible show RetN _ _ _); refine retB fun β => ?_) | ((with_reducible show _ ∧ _); first | (apply And.intro; (· intro h; exfalso; first | omega | (revert h; decide)); intro _) | (apply And.intro; rotate_left; (· intro h; exfalso; first | omega | (revert h; decide)); intro _) | (refine ⟨fun _ => ?_, fun _ => ?_⟩) | (apply And.intro; · kernel_rfl) | (apply And.intro; · (show inK _ _; unfold inK; omega)) | (apply And.intro; · (show (_ : Int) ≤ 9223372036854775807; (try simp only [List.length_append, List.length_drop, List.length_take, List.length_cons, List.length_nil]); omega))) | ((with_reducible show AllBe _); refine allBe fun βe => ?_; conv => whnf) | ((with_reducible show bothX _ _); refine bothI ?_ ?_; conv => whnf) | (with_reducible exact trivial) | ((with_reducible show CallN _ _ _ _ _ _ _ _); first | fail | refine call_of env_ok rfl 1000 ?_) | ((with_reducible show XopN _ _ _ _ _ _); refine xop_of env_ok rfl 1000 ?_) | ((with_reducible show CallX _ _ _ _ _ _); first | fail) | ((with_reducible show OpX _ _ _ _); first | fail) | ((with_reducible show ∃ _ : SV, _); first | fail) | ((with_reducible show ∃ _, _); first | (refine ⟨_, ?ok, x_nilP, ?_⟩; (case ok => exact fun _ h => h.1))))
       all_goals first | (exfalso; omega) | skip
       all_goals exact ret fun β w' hm => ⟨hB1.trans hm.below, ⟨ob, a, n, cp, els, lb, b, kk, lcap, lss, o0, o1, o2, o3, link⟩, rfl, ⟨(retOwnZ hm 1 rfl).1, (retOwnZ hm 1 rfl).2.1, (retOwnZ hm 2 rfl).1, (retOwnZ hm 2 rfl).2.1, fun x hx' => ⟨(hK x hx').mem hm, (hK x hx').fresh rfl⟩, by have q := congrArg List.length he; rw [List.length_map] at q; exact hn.trans q.symm, hk, (retOwnZ hm 1 rfl).2.2, (retOwnZ hm 2 rfl).2.2⟩, by dsimp only; rw [he, hiN2, ← hN, List.take_length], by dsimp only; rw [hl, hiN2, ← hN, List.take_length]⟩
end Go.Proofs.YtnbahdnjcdimgaaDoor
