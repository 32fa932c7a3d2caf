/- Formulas whose references a function changes, the program's and the reference's. Formulas whose references a function changes: the reference's. Formulas whose references a function changes: the functions written in place. References, plainly: what a change makes of a valid reference is valid. Formulas copied and moved: the program's. -/
import Derived.Test.YtmodjglbjempkaaGreatDoorHScC
import Derived.Test.YtmodjglbjempkaaGreatDoorHSz9
import Derived.Test.YtmodjglbjempkaaGreatDoorHKa
import Derived.Test.YtmodjglbjempkaaGreatDoorHCa
import Derived.Test.YtmodjglbjempkaaGreatDoorHTa
set_option linter.unusedSimpArgs false
set_option linter.unusedVariables false
namespace Go.Proofs.YtmodjglbjempkaaGreatDoor
open Go.RowKit
open Sym
attribute [local irreducible] Calls Sym.AggEq
namespace RfP
theorem zero_valid : checkP zeroR = 0 := by decide
theorem bad_valid : checkP badR = 0 := by decide
theorem done_valid (x : Ref) : checkP (doneP x).1 = 0 := by
  unfold doneP
  split
  · assumption
  · exact zero_valid
theorem parse_valid (s : Str) : checkP (parseP s).1 = 0 := by
  unfold parseP
  split
  · exact zero_valid
  split
  · exact bad_valid
  dsimp only
  split
  · unfold readP
    split
    · exact zero_valid
    split
    · split
      · exact zero_valid
      · exact done_valid _
    · exact done_valid _
  · exact zero_valid
theorem sheetT_len (s : Str) : (sheetT s).length ≤ 2 * s.length + 3 := by
  unfold sheetT
  have := dbl_len s
  split
  · simp
  · split <;> simp <;> omega
end RfP
theorem text_len {x : RfP.Ref} (h : RfP.checkP x = 0) : (RfP.textP x).length ≤ 500 := by
  obtain ⟨hk, hr, hc, hr2, hc2⟩ := ref_bounds h
  have hn := ref_name h
  have h1 := RfP.sheetT_len x.sh
  have l1 := colT_len x.c x.ac
  have l2 := colT_len x.c2 x.ac2
  have l3 := rowT_len x.r x.ar hr
  have l4 := rowT_len x.r2 x.ar2 hr2
  unfold RfP.textP
  (repeat' split) <;> simp [RfP.refTxt] <;> omega
namespace ScP
/-- the new text of a token -/
def tokT (g : RfP.Ref → RfP.Ref) (t : Tok) : Str :=
  if t.1 = 4 then (if RfP.eqR (g (RfP.parseP t.2).1) (RfP.parseP t.2).1 = true then t.2 else RfP.textP (g (RfP.parseP t.2).1)) else t.2
def toksT (g : RfP.Ref → RfP.Ref) (L : List Tok) : Str := L.flatMap (tokT g)
def rewP (g : RfP.Ref → RfP.Ref) (s : Str) : Str := if (scanP s).2 = none then [61] ++ toksT g (scanP s).1 else s
theorem scanG_text : ∀ (f : Nat) (s : Str) (p : Nat) (acc : List Tok), (∀ t ∈ acc, t.2.length ≤ s.length) → ∀ t ∈ (scanG f s p acc).1, t.2.length ≤ s.length
  | 0, s, p, acc, h, t, ht => by unfold scanG at ht; exact h t ht
  | f + 1, s, p, acc, h, t, ht => by
    unfold scanG at ht
    split at ht
    · split at ht
      · simp at ht
      · refine scanG_text f s _ _ (fun u hu => ?_) t ht
        rcases List.mem_append.1 hu with hu | hu
        · exact h u hu
        · obtain rfl := List.mem_singleton.1 hu
          simp; omega
    · exact h t ht
theorem scan_text (s : Str) : ∀ t ∈ (scanP s).1, t.2.length ≤ s.length := by
  unfold scanP
  split
  · exact scanG_text _ s 1 [] (fun t h => by simp at h)
  · intro t h; simp at h
theorem toksT_next {g : RfP.Ref → RfP.Ref} {L : List Tok} {k : Nat} {t : Tok} (h : L[k]? = some t) : toksT g (L.take (k + 1)) = toksT g (L.take k) ++ tokT g t := by
  rw [take_add L k t h]; unfold toksT; rw [List.flatMap_append]; simp
theorem toksT_len {g : RfP.Ref → RfP.Ref} {L : List Tok} {M : Nat} (h : ∀ t ∈ L, (tokT g t).length ≤ M) : (toksT g L).length ≤ L.length * M := by
  induction L with
  | nil => simp [toksT]
  | cons t L ih =>
    have := ih (fun u hu => h u (by simp [hu]))
    have h1 := h t (by simp)
    unfold toksT at this ⊢
    rw [List.flatMap_cons, List.length_append, List.length_cons, Nat.succ_mul]; omega
end ScP
theorem tokT_len {g : RfP.Ref → RfP.Ref} (hg : ∀ x, RfP.checkP x = 0 → RfP.checkP (g x) = 0) {t : ScP.Tok} {M : Nat} (h : t.2.length ≤ M) (hM : 500 ≤ M) : (ScP.tokT g t).length ≤ M := by
  unfold ScP.tokT
  have := text_len (hg _ (RfP.parse_valid t.2))
  split
  · split <;> omega
  · exact h
structure RwT where
  k : Nat
  bs : List Value
  g : Nat
  n : Nat
  cap : Nat
structure RwA (g : RfP.Ref → RfP.Ref) (L : List ScP.Tok) (k : Nat) (bs : List Value) : Prop where
  hk : k ≤ L.length
  eq : bs = Lib.byteCells ([61] ++ ScP.toksT g (L.take k))
  len : bs.length ≤ 1 + k * 1000
theorem strC (l : List UInt8) : Lib.strCells (bstr l) = Lib.byteCells l := by simp [Lib.strCells, Lib.byteCells, bstr]
theorem rw_next {g : RfP.Ref → RfP.Ref} {L : List ScP.Tok} {k : Nat} {bs : List Value} {t : ScP.Tok} {tx : List UInt8} (h : RwA g L k bs) (ht : L[k]? = some t) (he : ScP.tokT g t = tx) (hl : tx.length ≤ 1000) : RwA g L (k + 1) (bs ++ Lib.strCells (bstr tx)) :=
  ⟨by have := (List.getElem?_eq_some_iff.1 ht).1; omega, by rw [h.eq, strC, ScP.toksT_next ht, he]; simp [Lib.byteCells], by have := h.len; rw [strC, List.length_append]; simp [Lib.byteCells]; omega⟩
theorem RwA.ne {g : RfP.Ref → RfP.Ref} {L : List ScP.Tok} {k : Nat} {bs : List Value} (h : RwA g L k bs) (xs : List Value) : bs ++ xs ≠ [] := by rw [h.eq]; simp [Lib.byteCells]
set_option maxRecDepth 100000 in
set_option maxHeartbeats 8000000 in
theorem replaced_any (s : List UInt8) (f : FuncId) (caps : List Value) (g : RfP.Ref → RfP.Ref) (w : World) (hs : s.length ≤ 1000) (hw0 : 0 < w.heap.size) (hw : LW w) (he : entersB Tryz.prog f = true) (hcap : ∀ v ∈ caps, v.oneCell' = true)
    (hg : ∀ x, RfP.checkP x = 0 → RfP.checkP (g x) = 0)
    (HG : ∀ (x : RfP.Ref) (w1 : World), RfP.checkP x = 0 → Below w.heap.size w w1 → Calls Tryz.prog f (Value.agg (refC x) :: caps).toArray w1 fun e w' => e = .returned (.agg (refC (g x))) ∧ Below w1.heap.size w1 w') :
    Calls Tryz.prog 45 #[.string (bstr s), .func (.func f) #[] caps.toArray] w fun e w' => e = .returned (.string (bstr (ScP.rewP g s))) ∧ Below w.heap.size w w' := by
  have HS := fun w => fScan_any s w (by omega)
  have hlen := ScP.scan_len s
  have htx := ScP.scan_text s
  unfold ScP.rewP
  generalize ScP.scanP s = R at *
  obtain ⟨L, er⟩ := R
  dsimp only at hlen htx ⊢
  have harg : (#[.string (bstr s), .func (.func f) #[] caps.toArray] : Array Value) = (SV.dens (fun _ => 0) [.str s, .fn f (caps.map SV.any)]).toArray := by simp [SV.dens, SV.den, dens_any]
  rw [harg]
  have hok : SV.oks 0 [.str s, .fn f (caps.map SV.any)] := ⟨trivial, oks_any caps hcap, trivial⟩
  cases er with
  | some p =>
    rw [if_neg (by simp)]
    refine enter env_ok Tryz.func45 rfl Tryz.results45 Tryz.ntmps45 [] [] [.str s, .fn f (caps.map SV.any)] hok (Nat.le_of_ble_eq_true rfl) w _ 1000 ?_
    repeat' (first | ((with_reducible first | show wpS _ _ _ _ | show putD _ _ _ _ | show putW _ _ _ _ | show splitG _ _ _ | show wpQ _ _ _ _ _ _ | show wpD _ _ _ _ _ _ _ | show wpX _ _ _ _ _ _ | show expX _ _ _ _ _ _ | show stepX _ _ _ _); conv => whnf) | ((with_reducible show RetN _ _ _); refine retB fun β => ?_) | ((with_reducible show _ ∧ _); first | (apply And.intro; (· intro h; exfalso; first | omega | (revert h; decide)); intro _) | (apply And.intro; rotate_left; (· intro h; exfalso; first | omega | (revert h; decide)); intro _) | (refine ⟨fun _ => ?_, fun _ => ?_⟩) | (apply And.intro; · kernel_rfl) | (apply And.intro; · (show inK _ _; unfold inK; omega)) | (apply And.intro; · (show (_ : Int) ≤ 9223372036854775807; (try simp only [List.length_append, List.length_drop, List.length_take, List.length_cons, List.length_nil]); omega))) | ((with_reducible show bothX _ _); refine bothI ?_ ?_; conv => whnf) | (with_reducible exact trivial) | ((with_reducible show CallN _ _ _ _ _ _ _ _); refine call_of env_ok rfl 1000 ?_) | ((with_reducible show XopN _ _ _ _ _ _); refine xop_of env_ok rfl 1000 ?_) | ((with_reducible show CallX _ _ _ _ _ _); first | (refine callSlX (T := Option Addr × Nat) (fun t => .tup [.any (.slice t.1 L.length t.2), .int .i64 (p : Nat), .int .i64 10]) (fun t => t.1) (fun _ => toksV L) hw0 (by kernel_rfl) rfl (fun t => ⟨rfl, trivial, trivial, trivial⟩) (fun β w hm => (HS w).mono (fun e w' ⟨a, cap, he, h1, h2, h3⟩ => ⟨h3, (a, cap), he, h1, h2⟩)) (fun t hA => ?_))) | ((with_reducible show OpX _ _ _ _); first | fail) | ((with_reducible show ∃ _ : SV, _); first | fail) | ((with_reducible show ∃ _, _); first | fail))
    rfl
  | none =>
    rw [if_pos rfl]
    refine enter env_ok Tryz.func45 rfl Tryz.results45 Tryz.ntmps45 [21] [] [.str s, .fn f (caps.map SV.any)] hok (Nat.le_of_ble_eq_true rfl) w _ 1000 ?_
    repeat' (first | ((with_reducible first | show wpS _ _ _ _ | show putD _ _ _ _ | show putW _ _ _ _ | show splitG _ _ _ | show wpQ _ _ _ _ _ _ | show wpD _ _ _ _ _ _ _ | show wpX _ _ _ _ _ _ | show expX _ _ _ _ _ _ | show stepX _ _ _ _); conv => whnf) | ((with_reducible show RetN _ _ _); refine retB fun β => ?_) | ((with_reducible show _ ∧ _); first | (apply And.intro; (· intro h; exfalso; first | omega | (revert h; decide)); intro _) | (apply And.intro; rotate_left; (· intro h; exfalso; first | omega | (revert h; decide)); intro _) | (refine ⟨fun _ => ?_, fun _ => ?_⟩) | (apply And.intro; · kernel_rfl) | (apply And.intro; · (show inK _ _; unfold inK; omega)) | (apply And.intro; · (show (_ : Int) ≤ 9223372036854775807; (try simp only [List.length_append, List.length_drop, List.length_take, List.length_cons, List.length_nil]); omega))) | ((with_reducible show bothX _ _); refine bothI ?_ ?_; conv => whnf) | (with_reducible exact trivial) | ((with_reducible show CallN _ _ _ _ _ _ _ _); refine call_of env_ok rfl 1000 ?_) | ((with_reducible show XopN _ _ _ _ _ _); refine xop_of env_ok rfl 1000 ?_) | ((with_reducible show CallX _ _ _ _ _ _); first | (refine callSlX (T := Option Addr × Nat) (fun t => .tup [.any (.slice t.1 L.length t.2), .int .i64 0, .int .i64 0]) (fun t => t.1) (fun _ => toksV L) hw0 (by kernel_rfl) rfl (fun t => ⟨rfl, trivial, trivial, trivial⟩) (fun β w hm => (HS w).mono (fun e w' ⟨a, cap, he, h1, h2, h3⟩ => ⟨h3, (a, cap), he, h1, h2⟩)) (fun t hA => ?_))) | ((with_reducible show OpX _ _ _ _); first | fail) | ((with_reducible show ∃ _ : SV, _); first | fail) | ((with_reducible show ∃ _, _); first | fail))
    obtain ⟨a, ca⟩ := t
    dsimp only at hA ⊢
    refine rebase env_ok rfl [(0, .str s), (1, .fn f (caps.map SV.any)), (5, .any (.slice a L.length ca)), (21, .lit false)] 1000 [] [] (by refine ⟨⟨eqSV_refl _, trivial⟩, ⟨eqSV_refl _, oks_any caps hcap⟩, ⟨eqSV_refl _, rfl⟩, ⟨by simp [eqSV, isB, bval], trivial⟩, trivial⟩) (fun β w1 hm0 => ?_)
    have hsl := (hm0.row 0 _ _ rfl).1.2.at (hm0.row 0 _ _ rfl).1.1
    have hb1 : Below w.heap.size w w1 := hm0.below
    have hbs : w.heap.size ≤ w1.heap.size := hm0.base_le
    clear hm0
    repeat' (first | ((with_reducible first | show wpS _ _ _ _ | show putD _ _ _ _ | show putW _ _ _ _ | show splitG _ _ _ | show wpQ _ _ _ _ _ _ | show wpD _ _ _ _ _ _ _ | show wpX _ _ _ _ _ _ | show expX _ _ _ _ _ _ | show stepX _ _ _ _); conv => whnf) | ((with_reducible show RetN _ _ _); refine retB fun β => ?_) | ((with_reducible show _ ∧ _); first | (apply And.intro; (· intro h; exfalso; first | omega | (revert h; decide)); intro _) | (apply And.intro; rotate_left; (· intro h; exfalso; first | omega | (revert h; decide)); intro _) | (refine ⟨fun _ => ?_, fun _ => ?_⟩) | (apply And.intro; · kernel_rfl) | (apply And.intro; · (show inK _ _; unfold inK; omega)) | (apply And.intro; · (show (_ : Int) ≤ 9223372036854775807; (try simp only [List.length_append, List.length_drop, List.length_take, List.length_cons, List.length_nil]); omega))) | ((with_reducible show bothX _ _); refine bothI ?_ ?_; conv => whnf) | (with_reducible exact trivial) | ((with_reducible show CallN _ _ _ _ _ _ _ _); refine call_of env_ok rfl 1000 ?_) | ((with_reducible show XopN _ _ _ _ _ _); refine xop_of env_ok rfl 1000 ?_) | ((with_reducible show CallX _ _ _ _ _ _); first | (refine callX_bld0 (.any .nilIface) 0 (T := 85) (e := 5) (bs' := [.int .u8 61]) (by kernel_rfl) rfl rfl rfl (by simp) (fun β w hm hb => (Tryz.Builder_WriteByte_k w1.heap.size (β 0) [] 61 w hb (by simp) hm.base_le).mono (fun e w' h => ⟨h.1, h.2.1, h.2.2.1⟩)) (fun g0 n0 cap0 => ?_))) | ((with_reducible show OpX _ _ _ _); first | fail) | ((with_reducible show ∃ _ : SV, _); first | (refine ⟨_, ?ok, x_len Tryz.underlying24, ?_⟩; (case ok => exact fun _ _ => trivial))) | ((with_reducible show ∃ _, _); first | fail))
    refine loop env_ok rfl (T := {t : RwT // RwA g L t.k t.bs}) (fun t => ⟨[(1, .fn f (caps.map .any)), (8, .ptr 0 0), (25, .any (.slice a L.length ca)), (26, .int .i64 (L.length : Nat)), (27, .int .i64 (t.1.k : Nat))], [(0, true, .blob (BldH 85 t.1.g t.1.n t.1.cap)), (1, true, .blob (BldB 5 t.1.g t.1.n t.1.cap t.1.bs))], 2, 57⟩) (fun t => L.length - t.1.k) ⟨⟨0, [.int .u8 61], g0, n0, cap0⟩, ⟨Nat.zero_le _, by simp [ScP.toksT, Lib.byteCells], by simp⟩⟩ 1000 [] [] (fun t => by exact Nat.zero_le _) (by ((with_reducible show wk _ _); repeat' (first | exact trivial | exact eqSV_refl _ | (refine eqI ?_) | (refine eqS ?_) | (with_reducible exact rfl) | apply And.intro | exact Nat.zero_lt_one | exact Nat.le_of_ble_eq_true rfl | (with_reducible assumption) | ((show (_ : Int) = _); (try dsimp only); omega) | ((show eqSV _ _); simp [eqSV, isB, bval, *]; done) | rfl)); all_goals first | exact fun b x h => h | exact oks_any caps hcap) (fun t I hI => ?_)
    obtain ⟨⟨k, bs, g1, n1, cap1⟩, hA1⟩ := t
    dsimp only at hA1 ⊢
    have hk := hA1.hk
    have hbl := hA1.len
    have hw1 : LW w1 := hw.below hb1
    by_cases hlt : k < L.length
    · obtain ⟨tk, htk⟩ : ∃ tk, L[k]? = some tk := ⟨L[k], List.getElem?_eq_getElem hlt⟩
      have hat := tok_at htk
      obtain ⟨a1, rfl, -⟩ := hsl (k * 2 + 0) _ (hat (fun _ => 0) 0 _ rfl)
      have r1 : ∀ w', Below w1.heap.size w1 w' → ∀ m v, (tokV tk)[m]? = some v → w'.cell? ((a1.add (k * 2)).add m) = some v := fun w' hw m v hv => by
        obtain ⟨ad, e, _, hc⟩ := (hsl.below hw) _ _ (hat (fun _ => 0) m v hv)
        cases e; rw [Go.Deep.add_add]; exact hc
      have hn1 := fun tx h => rw_next (tx := tx) hA1 htk h
      have htl : tk.2.length ≤ 1000 := Nat.le_trans (htx tk (List.mem_of_getElem? htk)) hs
      have HP := fun w => Parse_any tk.2 w
      have hxv := RfP.parse_valid tk.2
      have hgl := text_len (hg _ hxv)
      obtain ⟨kd, tx⟩ := tk
      dsimp only [ScP.tokT] at hn1 htl HP hxv hgl
      generalize RfP.parseP tx = y at *
      obtain ⟨x, ee⟩ := y
      dsimp only at hn1 hxv hgl
      have HGx : ∀ w', Below w1.heap.size w1 w' → Calls Tryz.prog f (Value.agg (refC x) :: caps).toArray w' fun e w'' => e = .returned (.agg (refC (g x))) ∧ Below w'.heap.size w' w'' := fun w' h => HG x w' hxv (hb1.trans (h.mono hbs))
      have hgv := hg x hxv
      clear HG hg
      generalize g x = gx at *
      repeat' (first | ((with_reducible first | show wpS _ _ _ _ | show putD _ _ _ _ | show putW _ _ _ _ | show splitG _ _ _ | show wpQ _ _ _ _ _ _ | show wpD _ _ _ _ _ _ _ | show wpX _ _ _ _ _ _ | show expX _ _ _ _ _ _ | show stepX _ _ _ _); conv => whnf) | ((with_reducible show RetN _ _ _); refine retB fun β => ?_) | ((with_reducible show _ ∧ _); first | (apply And.intro; (· intro h; exfalso; first | omega | (revert h; decide)); intro _) | (apply And.intro; rotate_left; (· intro h; exfalso; first | omega | (revert h; decide)); intro _) | (refine ⟨fun _ => ?_, fun _ => ?_⟩) | (apply And.intro; · kernel_rfl) | (apply And.intro; · (show inK _ _; unfold inK; omega)) | (apply And.intro; · (show (_ : Int) ≤ 9223372036854775807; (try simp only [List.length_append, List.length_drop, List.length_take, List.length_cons, List.length_nil]); omega))) | ((with_reducible show bothX _ _); refine bothI ?_ ?_; conv => whnf) | (with_reducible exact trivial) | ((with_reducible show CallN _ _ _ _ _ _ _ _); refine call_of env_ok rfl 1000 ?_) | ((with_reducible show XopN _ _ _ _ _ _); refine xop_of env_ok rfl 1000 ?_) | ((with_reducible show CallX _ _ _ _ _ _); first | (refine callX (.tup [.agg (rF x), .int .i64 ee]) (by kernel_rfl) rfl (⟨rS_ok x _, trivial, trivial⟩) (fun β w hm => HP w) ?_) | (refine callX (rS gx) he rfl (rS_ok gx _) (fun β w hm => (by have := HGx w hm.below; simpa [SV.dens, SV.den, dens_any, refC] using this)) ?_) | (refine callX (.tup [.str (RfP.textP gx), .int .i64 0]) (by kernel_rfl) rfl (⟨trivial, trivial, trivial⟩) (fun β w hm => print_ok gx w (hw1.below hm.below) hgv) ?_) | (refine callX_bld (.tup [.int .i64 ((tx).length : Nat), .any .nilIface]) 0 1 (bs' := bs ++ Lib.strCells (bstr (tx))) (by kernel_rfl) rfl ⟨⟨trivial, rfl, trivial⟩, rfl⟩ rfl rfl (by decide) (Nat.zero_le _) (by simp [mentF, ment, ments, ments_any]; try decide) (hA1.ne _) (fun β w hm hb => (Tryz.Builder_WriteString_k w1.heap.size (β 0) bs (bstr (tx)) w (.inr hb) (by show bs.length + (tx).length ≤ _; omega) hm.base_le).mono (fun e w' h => ⟨h.1, h.2.1, h.2.2.1⟩)) (fun g2 n2 cap2 => ?_)) | (refine callX_bld (.tup [.int .i64 ((RfP.textP gx).length : Nat), .any .nilIface]) 0 1 (bs' := bs ++ Lib.strCells (bstr (RfP.textP gx))) (by kernel_rfl) rfl ⟨⟨trivial, rfl, trivial⟩, rfl⟩ rfl rfl (by decide) (Nat.zero_le _) (by simp [mentF, ment, ments, ments_any]; try decide) (hA1.ne _) (fun β w hm hb => (Tryz.Builder_WriteString_k w1.heap.size (β 0) bs (bstr (RfP.textP gx)) w (.inr hb) (by show bs.length + (RfP.textP gx).length ≤ _; omega) hm.base_le).mono (fun e w' h => ⟨h.1, h.2.1, h.2.2.1⟩)) (fun g2 n2 cap2 => ?_))) | ((with_reducible show OpX _ _ _ _); first | fail) | ((with_reducible show ∃ _ : SV, _); first | (refine ⟨_, ?ok, x_index (j := k) rfl Tryz.underlying24 (fun w => Tryz.sizeOf33 w) hlt, ?_⟩; (case ok => exact fun _ _ => rfl)) | (refine ⟨.agg (tokF (kd, tx)), fun _ _ => ⟨trivial, trivial, trivial⟩, x_loadAgg (vs := tokF (kd, tx)) (fun w => Tryz.isAgg33 w) (fun w => Tryz.sizeOf33 w) (fun w' hw β m v hv => r1 w' hw m v hv), ?_⟩)) | ((with_reducible show ∃ _, _); first | (refine ⟨_, aggRef gx x, ?_⟩)))
      · refine hI _ ⟨⟨k + 1, _, g2, n2, cap2⟩, hn1 (RfP.textP gx) (by rw [if_pos (by have h4 : ((kd : Nat) : Int) = 4 := ‹_›; omega), if_neg (by simpa using ‹(!RfP.eqR gx x) = true›)]) (by omega)⟩ (by dsimp only; omega) (by ((with_reducible show wk _ _); repeat' (first | exact trivial | exact eqSV_refl _ | (refine eqI ?_) | (refine eqS ?_) | (with_reducible exact rfl) | apply And.intro | exact Nat.zero_lt_one | exact Nat.le_of_ble_eq_true rfl | (with_reducible assumption) | ((show (_ : Int) = _); (try dsimp only); omega) | ((show eqSV _ _); simp [eqSV, isB, bval, *]; done) | rfl)); all_goals first | exact fun b x h => h | exact oks_any caps hcap)
      · refine hI _ ⟨⟨k + 1, _, g2, n2, cap2⟩, hn1 tx (by rw [if_pos (by have h4 : ((kd : Nat) : Int) = 4 := ‹_›; omega), if_pos (by simpa using ‹(!RfP.eqR gx x) = false›)]) (by omega)⟩ (by dsimp only; omega) (by ((with_reducible show wk _ _); repeat' (first | exact trivial | exact eqSV_refl _ | (refine eqI ?_) | (refine eqS ?_) | (with_reducible exact rfl) | apply And.intro | exact Nat.zero_lt_one | exact Nat.le_of_ble_eq_true rfl | (with_reducible assumption) | ((show (_ : Int) = _); (try dsimp only); omega) | ((show eqSV _ _); simp [eqSV, isB, bval, *]; done) | rfl)); all_goals first | exact fun b x h => h | exact oks_any caps hcap)
      · refine hI _ ⟨⟨k + 1, _, g2, n2, cap2⟩, hn1 tx (by rw [if_neg (by have h4 : ¬ ((kd : Nat) : Int) = 4 := ‹_›; omega)]) (by omega)⟩ (by dsimp only; omega) (by ((with_reducible show wk _ _); repeat' (first | exact trivial | exact eqSV_refl _ | (refine eqI ?_) | (refine eqS ?_) | (with_reducible exact rfl) | apply And.intro | exact Nat.zero_lt_one | exact Nat.le_of_ble_eq_true rfl | (with_reducible assumption) | ((show (_ : Int) = _); (try dsimp only); omega) | ((show eqSV _ _); simp [eqSV, isB, bval, *]; done) | rfl)); all_goals first | exact fun b x h => h | exact oks_any caps hcap)
    · have hE := hA1.eq
      rw [List.take_of_length_le (by omega)] at hE
      repeat' (first | ((with_reducible first | show wpS _ _ _ _ | show putD _ _ _ _ | show putW _ _ _ _ | show splitG _ _ _ | show wpQ _ _ _ _ _ _ | show wpD _ _ _ _ _ _ _ | show wpX _ _ _ _ _ _ | show expX _ _ _ _ _ _ | show stepX _ _ _ _); conv => whnf) | ((with_reducible show RetN _ _ _); refine retB fun β => ?_) | ((with_reducible show _ ∧ _); first | (apply And.intro; (· intro h; exfalso; first | omega | (revert h; decide)); intro _) | (apply And.intro; rotate_left; (· intro h; exfalso; first | omega | (revert h; decide)); intro _) | (refine ⟨fun _ => ?_, fun _ => ?_⟩) | (apply And.intro; · kernel_rfl) | (apply And.intro; · (show inK _ _; unfold inK; omega)) | (apply And.intro; · (show (_ : Int) ≤ 9223372036854775807; (try simp only [List.length_append, List.length_drop, List.length_take, List.length_cons, List.length_nil]); omega))) | ((with_reducible show bothX _ _); refine bothI ?_ ?_; conv => whnf) | (with_reducible exact trivial) | ((with_reducible show CallN _ _ _ _ _ _ _ _); refine call_of env_ok rfl 1000 ?_) | ((with_reducible show XopN _ _ _ _ _ _); refine xop_of env_ok rfl 1000 ?_) | ((with_reducible show CallX _ _ _ _ _ _); first | (refine callX_drop (.str ([61] ++ ScP.toksT g L)) (by kernel_rfl) rfl trivial (fun β w hm => ?_) ?_)) | ((with_reducible show OpX _ _ _ _); first | fail) | ((with_reducible show ∃ _ : SV, _); first | fail) | ((with_reducible show ∃ _, _); first | fail))
      · obtain ⟨q1, -, -, q4⟩ := hm.row 0 _ _ rfl
        obtain ⟨p1, -, -, p4⟩ := hm.row 1 _ _ rfl
        have hb := bld_at q1.2 p1.2 (q4 rfl) (p4 rfl)
        rw [hE] at hb
        exact (Tryz.Builder_String_any_k w1.heap.size (β 0) _ w (.inr hb) hm.base_le).mono (fun e w' h => ⟨h.1, h.2.2.1⟩)
      · exact ret fun β w' hm => ⟨rfl, hb1.trans (hm.below.mono hbs)⟩
end Go.Proofs.YtmodjglbjempkaaGreatDoor
namespace Go.Proofs.YtmodjglbjempkaaGreatDoor
open Go.RowKit
open Sym
attribute [local irreducible] Calls Sym.AggEq
structure RxA (g : RfP.Ref → RfP.Ref) (L : List ScP.Tok) (k : Nat) (out : List UInt8) : Prop where
  hk : k ≤ L.length
  eq : out = [61] ++ ScP.toksT g (L.take k)
  len : out.length ≤ 1 + k * 1000
theorem rx_next {g : RfP.Ref → RfP.Ref} {L : List ScP.Tok} {k : Nat} {out : List UInt8} {t : ScP.Tok} {tx : List UInt8} (h : RxA g L k out) (ht : L[k]? = some t) (he : ScP.tokT g t = tx) (hl : tx.length ≤ 1000) : RxA g L (k + 1) (out ++ tx) :=
  ⟨by have := (List.getElem?_eq_some_iff.1 ht).1; omega, by rw [h.eq, ScP.toksT_next ht, he]; simp, by have := h.len; rw [List.length_append]; omega⟩
set_option maxRecDepth 100000 in
set_option maxHeartbeats 8000000 in
theorem rewritten_any (s : List UInt8) (f : FuncId) (caps : List Value) (g : RfP.Ref → RfP.Ref) (w : World) (hs : s.length ≤ 1000) (hw0 : 0 < w.heap.size) (hw : FT w) (he : entersB Tryz.prog f = true) (hcap : ∀ v ∈ caps, v.oneCell' = true)
    (hg : ∀ x, RfP.checkP x = 0 → RfP.checkP (g x) = 0)
    (HG : ∀ (x : RfP.Ref) (w1 : World), RfP.checkP x = 0 → Below w.heap.size w w1 → Calls Tryz.prog f (Value.agg (refC x) :: caps).toArray w1 fun e w' => e = .returned (.agg (refC (g x))) ∧ Below w1.heap.size w1 w') :
    Calls Tryz.prog 18 #[.string (bstr s), .func (.func f) #[] caps.toArray] w fun e w' => e = .returned (.string (bstr (ScP.rewP g s))) ∧ Below w.heap.size w w' := by
  have HS : ∀ w', Below w.heap.size w w' → w'.heap.size ≥ w.heap.size → Calls Tryz.prog 10 #[.string (bstr s)] w' (RScan w' (ScP.scanP s)) := fun w' hb _ => rScan_any s w' (by omega) (hw.below hb)
  have hlen := ScP.scan_len s
  have htx := ScP.scan_text s
  unfold ScP.rewP
  generalize ScP.scanP s = R at *
  obtain ⟨L, er⟩ := R
  dsimp only at hlen htx ⊢
  have harg : (#[.string (bstr s), .func (.func f) #[] caps.toArray] : Array Value) = (SV.dens (fun _ => 0) [.str s, .fn f (caps.map SV.any)]).toArray := by simp [SV.dens, SV.den, dens_any]
  rw [harg]
  have hok : SV.oks 0 [.str s, .fn f (caps.map SV.any)] := ⟨trivial, oks_any caps hcap, trivial⟩
  cases er with
  | some p =>
    rw [if_neg (by simp)]
    refine enter env_ok Tryz.func18 rfl Tryz.results18 Tryz.ntmps18 [] [] [.str s, .fn f (caps.map SV.any)] hok (Nat.le_of_ble_eq_true rfl) w _ 1000 ?_
    repeat' (first | ((with_reducible first | show wpS _ _ _ _ | show putD _ _ _ _ | show putW _ _ _ _ | show splitG _ _ _ | show wpQ _ _ _ _ _ _ | show wpD _ _ _ _ _ _ _ | show wpX _ _ _ _ _ _ | show expX _ _ _ _ _ _ | show stepX _ _ _ _); conv => whnf) | ((with_reducible show RetN _ _ _); refine retB fun β => ?_) | ((with_reducible show _ ∧ _); first | (apply And.intro; (· intro h; exfalso; first | omega | (revert h; decide)); intro _) | (apply And.intro; rotate_left; (· intro h; exfalso; first | omega | (revert h; decide)); intro _) | (refine ⟨fun _ => ?_, fun _ => ?_⟩) | (apply And.intro; · kernel_rfl) | (apply And.intro; · (show inK _ _; unfold inK; omega)) | (apply And.intro; · (show (_ : Int) ≤ 9223372036854775807; (try simp only [List.length_append, List.length_drop, List.length_take, List.length_cons, List.length_nil]); omega))) | ((with_reducible show bothX _ _); refine bothI ?_ ?_; conv => whnf) | (with_reducible exact trivial) | ((with_reducible show CallN _ _ _ _ _ _ _ _); refine call_of env_ok rfl 1000 ?_) | ((with_reducible show XopN _ _ _ _ _ _); refine xop_of env_ok rfl 1000 ?_) | ((with_reducible show CallX _ _ _ _ _ _); first | (refine callSlX (T := Option Addr × Nat) (fun t => .tup [.any (.slice t.1 L.length t.2), .int .i64 (p : Nat)]) (fun t => t.1) (fun _ => toksV L) hw0 (by kernel_rfl) rfl (fun t => ⟨rfl, trivial, trivial⟩) (fun β w hm => (HS w hm.below hm.base_le).mono (fun e w' ⟨a, cap, he, h1, h2, h3⟩ => ⟨h3, (a, cap), he, h1, h2⟩)) (fun t hA => ?_))) | ((with_reducible show OpX _ _ _ _); first | fail) | ((with_reducible show ∃ _ : SV, _); first | fail) | ((with_reducible show ∃ _, _); first | fail))
    rfl
  | none =>
    rw [if_pos rfl]
    refine enter env_ok Tryz.func18 rfl Tryz.results18 Tryz.ntmps18 [] [] [.str s, .fn f (caps.map SV.any)] hok (Nat.le_of_ble_eq_true rfl) w _ 1000 ?_
    repeat' (first | ((with_reducible first | show wpS _ _ _ _ | show putD _ _ _ _ | show putW _ _ _ _ | show splitG _ _ _ | show wpQ _ _ _ _ _ _ | show wpD _ _ _ _ _ _ _ | show wpX _ _ _ _ _ _ | show expX _ _ _ _ _ _ | show stepX _ _ _ _); conv => whnf) | ((with_reducible show RetN _ _ _); refine retB fun β => ?_) | ((with_reducible show _ ∧ _); first | (apply And.intro; (· intro h; exfalso; first | omega | (revert h; decide)); intro _) | (apply And.intro; rotate_left; (· intro h; exfalso; first | omega | (revert h; decide)); intro _) | (refine ⟨fun _ => ?_, fun _ => ?_⟩) | (apply And.intro; · kernel_rfl) | (apply And.intro; · (show inK _ _; unfold inK; omega)) | (apply And.intro; · (show (_ : Int) ≤ 9223372036854775807; (try simp only [List.length_append, List.length_drop, List.length_take, List.length_cons, List.length_nil]); omega))) | ((with_reducible show bothX _ _); refine bothI ?_ ?_; conv => whnf) | (with_reducible exact trivial) | ((with_reducible show CallN _ _ _ _ _ _ _ _); refine call_of env_ok rfl 1000 ?_) | ((with_reducible show XopN _ _ _ _ _ _); refine xop_of env_ok rfl 1000 ?_) | ((with_reducible show CallX _ _ _ _ _ _); first | (refine callSlX (T := Option Addr × Nat) (fun t => .tup [.any (.slice t.1 L.length t.2), .int .i64 (-1)]) (fun t => t.1) (fun _ => toksV L) hw0 (by kernel_rfl) rfl (fun t => ⟨rfl, trivial, trivial⟩) (fun β w hm => (HS w hm.below hm.base_le).mono (fun e w' ⟨a, cap, he, h1, h2, h3⟩ => ⟨h3, (a, cap), he, h1, h2⟩)) (fun t hA => ?_))) | ((with_reducible show OpX _ _ _ _); first | fail) | ((with_reducible show ∃ _ : SV, _); first | (refine ⟨_, ?ok, x_len Tryz.underlying24, ?_⟩; (case ok => exact fun _ _ => trivial))) | ((with_reducible show ∃ _, _); first | fail))
    obtain ⟨a, ca⟩ := t
    dsimp only at hA ⊢
    refine loop env_ok rfl (T := {t : Nat × List UInt8 // RxA g L t.1 t.2}) (fun t => ⟨[(1, .fn f (caps.map .any)), (21, .any (.slice a L.length ca)), (22, .int .i64 (L.length : Nat)), (23, .int .i64 (t.1.1 : Nat)), (7, .str t.1.2)], [(0, false, .blob (SlB a (toksV L)))], 1, 51⟩) (fun t => L.length - t.1.1) ⟨(0, [61]), ⟨Nat.zero_le _, by simp [ScP.toksT], by simp⟩⟩ 1000 [] [] (fun t => by exact Nat.zero_le _) (by ((with_reducible show wk _ _); repeat' (first | exact trivial | exact eqSV_refl _ | (refine eqI ?_) | (refine eqS ?_) | (with_reducible exact rfl) | apply And.intro | exact Nat.zero_lt_one | exact Nat.le_of_ble_eq_true rfl | (with_reducible assumption) | ((show (_ : Int) = _); (try dsimp only); omega) | ((show eqSV _ _); simp [eqSV, isB, bval, *]; done) | rfl)); all_goals first | exact fun b x h => h | exact oks_any caps hcap) (fun t I hI => ?_)
    obtain ⟨⟨k, out⟩, hA1⟩ := t
    dsimp only at hA1 ⊢
    have hk := hA1.hk
    have hbl := hA1.len
    by_cases hlt : k < L.length
    · obtain ⟨tk, htk⟩ : ∃ tk, L[k]? = some tk := ⟨L[k], List.getElem?_eq_getElem hlt⟩
      have hat := tok_at htk
      obtain ⟨ad, rfl⟩ := hA (by intro e; have := hat (fun _ => 0) 0 _ rfl; rw [e] at this; simp at this)
      have hn1 := fun tx h => rx_next (tx := tx) hA1 htk h
      have htl : tk.2.length ≤ 1000 := Nat.le_trans (htx tk (List.mem_of_getElem? htk)) hs
      have HP := fun w => ReadRef_any tk.2 w
      have hxv := RfP.parse_valid tk.2
      have hgl := text_len (hg _ hxv)
      obtain ⟨kd, tx⟩ := tk
      dsimp only [ScP.tokT] at hn1 htl HP hxv hgl
      generalize RfP.parseP tx = y at *
      obtain ⟨x, ee⟩ := y
      dsimp only at hn1 hxv hgl
      have HGx : ∀ w', Below w.heap.size w w' → Calls Tryz.prog f (Value.agg (refC x) :: caps).toArray w' fun e w'' => e = .returned (.agg (refC (g x))) ∧ Below w'.heap.size w' w'' := fun w' h => HG x w' hxv h
      have hgv := hg x hxv
      clear HG hg
      generalize g x = gx at *
      repeat' (first | ((with_reducible first | show wpS _ _ _ _ | show putD _ _ _ _ | show putW _ _ _ _ | show splitG _ _ _ | show wpQ _ _ _ _ _ _ | show wpD _ _ _ _ _ _ _ | show wpX _ _ _ _ _ _ | show expX _ _ _ _ _ _ | show stepX _ _ _ _); conv => whnf) | ((with_reducible show RetN _ _ _); refine retB fun β => ?_) | ((with_reducible show _ ∧ _); first | (apply And.intro; (· intro h; exfalso; first | omega | (revert h; decide)); intro _) | (apply And.intro; rotate_left; (· intro h; exfalso; first | omega | (revert h; decide)); intro _) | (refine ⟨fun _ => ?_, fun _ => ?_⟩) | (apply And.intro; · kernel_rfl) | (apply And.intro; · (show inK _ _; unfold inK; omega)) | (apply And.intro; · (show (_ : Int) ≤ 9223372036854775807; (try simp only [List.length_append, List.length_drop, List.length_take, List.length_cons, List.length_nil]); omega))) | ((with_reducible show bothX _ _); refine bothI ?_ ?_; conv => whnf) | (with_reducible exact trivial) | ((with_reducible show CallN _ _ _ _ _ _ _ _); refine call_of env_ok rfl 1000 ?_) | ((with_reducible show XopN _ _ _ _ _ _); refine xop_of env_ok rfl 1000 ?_) | ((with_reducible show CallX _ _ _ _ _ _); first | (refine callX (.tup [.agg (rF x), .int .i64 ee]) (by kernel_rfl) rfl (⟨rS_ok x _, trivial, trivial⟩) (fun β w hm => HP w) ?_) | (refine callX (rS gx) he rfl (rS_ok gx _) (fun β w hm => (by have := HGx w hm.below; simpa [SV.dens, SV.den, dens_any, refC] using this)) ?_) | (refine callX (.str (RfP.textP gx)) (by kernel_rfl) rfl (trivial) (fun β w hm => RefText_any gx w hgv) ?_)) | ((with_reducible show OpX _ _ _ _); first | fail) | ((with_reducible show ∃ _ : SV, _); first | (refine ⟨_, ?ok, x_index (j := k) rfl Tryz.underlying24 (fun w => Tryz.sizeOf33 w) hlt, ?_⟩; (case ok => exact fun _ _ => rfl)) | (refine ⟨.agg (tokF (kd, tx)), fun _ _ => ⟨trivial, trivial, trivial⟩, x_loadBs 0 (tokF (kd, tx)) (fun w => Tryz.isAgg33 w) (fun w => Tryz.sizeOf33 w) rfl hat, ?_⟩)) | ((with_reducible show ∃ _, _); first | (refine ⟨_, aggRef gx x, ?_⟩)))
      · refine hI _ ⟨(k + 1, out ++ RfP.textP gx), hn1 (RfP.textP gx) (by rw [if_pos (by have h4 : ((kd : Nat) : Int) = 4 := ‹_›; omega), if_neg (by simpa using ‹(!RfP.eqR gx x) = true›)]) (by omega)⟩ (by dsimp only; omega) (by ((with_reducible show wk _ _); repeat' (first | exact trivial | exact eqSV_refl _ | (refine eqI ?_) | (refine eqS ?_) | (with_reducible exact rfl) | apply And.intro | exact Nat.zero_lt_one | exact Nat.le_of_ble_eq_true rfl | (with_reducible assumption) | ((show (_ : Int) = _); (try dsimp only); omega) | ((show eqSV _ _); simp [eqSV, isB, bval, *]; done) | rfl)); all_goals first | exact fun b x h => h | exact oks_any caps hcap)
      · refine hI _ ⟨(k + 1, out ++ tx), hn1 tx (by rw [if_pos (by have h4 : ((kd : Nat) : Int) = 4 := ‹_›; omega), if_pos (by simpa using ‹(!RfP.eqR gx x) = false›)]) (by omega)⟩ (by dsimp only; omega) (by ((with_reducible show wk _ _); repeat' (first | exact trivial | exact eqSV_refl _ | (refine eqI ?_) | (refine eqS ?_) | (with_reducible exact rfl) | apply And.intro | exact Nat.zero_lt_one | exact Nat.le_of_ble_eq_true rfl | (with_reducible assumption) | ((show (_ : Int) = _); (try dsimp only); omega) | ((show eqSV _ _); simp [eqSV, isB, bval, *]; done) | rfl)); all_goals first | exact fun b x h => h | exact oks_any caps hcap)
      · refine hI _ ⟨(k + 1, out ++ tx), hn1 tx (by rw [if_neg (by have h4 : ¬ ((kd : Nat) : Int) = 4 := ‹_›; omega)]) (by omega)⟩ (by dsimp only; omega) (by ((with_reducible show wk _ _); repeat' (first | exact trivial | exact eqSV_refl _ | (refine eqI ?_) | (refine eqS ?_) | (with_reducible exact rfl) | apply And.intro | exact Nat.zero_lt_one | exact Nat.le_of_ble_eq_true rfl | (with_reducible assumption) | ((show (_ : Int) = _); (try dsimp only); omega) | ((show eqSV _ _); simp [eqSV, isB, bval, *]; done) | rfl)); all_goals first | exact fun b x h => h | exact oks_any caps hcap)
    · have hE := hA1.eq
      rw [List.take_of_length_le (by omega)] at hE
      rw [← hE]
      repeat' (first | ((with_reducible first | show wpS _ _ _ _ | show putD _ _ _ _ | show putW _ _ _ _ | show splitG _ _ _ | show wpQ _ _ _ _ _ _ | show wpD _ _ _ _ _ _ _ | show wpX _ _ _ _ _ _ | show expX _ _ _ _ _ _ | show stepX _ _ _ _); conv => whnf) | ((with_reducible show RetN _ _ _); refine retB fun β => ?_) | ((with_reducible show _ ∧ _); first | (apply And.intro; (· intro h; exfalso; first | omega | (revert h; decide)); intro _) | (apply And.intro; rotate_left; (· intro h; exfalso; first | omega | (revert h; decide)); intro _) | (refine ⟨fun _ => ?_, fun _ => ?_⟩) | (apply And.intro; · kernel_rfl) | (apply And.intro; · (show inK _ _; unfold inK; omega)) | (apply And.intro; · (show (_ : Int) ≤ 9223372036854775807; (try simp only [List.length_append, List.length_drop, List.length_take, List.length_cons, List.length_nil]); omega))) | ((with_reducible show bothX _ _); refine bothI ?_ ?_; conv => whnf) | (with_reducible exact trivial) | ((with_reducible show CallN _ _ _ _ _ _ _ _); refine call_of env_ok rfl 1000 ?_) | ((with_reducible show XopN _ _ _ _ _ _); refine xop_of env_ok rfl 1000 ?_) | ((with_reducible show CallX _ _ _ _ _ _); first | fail) | ((with_reducible show OpX _ _ _ _); first | fail) | ((with_reducible show ∃ _ : SV, _); first | fail) | ((with_reducible show ∃ _, _); first | fail))
      rfl
end Go.Proofs.YtmodjglbjempkaaGreatDoor
namespace Go.Proofs.YtmodjglbjempkaaGreatDoor
open Go.RowKit
open Sym
attribute [local irreducible] Calls Sym.AggEq
theorem cell_keep {w w' : World} {a : Addr} {v : Value} (h : w.cell? a = some v) (hb : Below w.heap.size w w') : w'.cell? a = some v := by
  have := World.block_lt_of_cell? w _ h
  rw [World.cell?_of_block (w := w) (hb.block _ this)]; exact h
namespace RfP
/-- does a reference mean the sheet? -/
def belP (x : Ref) (sh : Str) (ours : Bool) : Bool := if x.sh = [] then ours else decide (x.sh = sh)
end RfP
theorem meant_any (x : RfP.Ref) (sh : List UInt8) (ours : Bool) (w : World) : Calls Tryz.prog 49 #[.agg (refC x), .string (bstr sh), .bool ours] w fun e w' => e = .returned (.bool (RfP.belP x sh ours)) ∧ Below w.heap.size w w' := by
  refine enter env_ok Tryz.func49 rfl Tryz.results49 Tryz.ntmps49 [] [] [rS x, .str sh, .bool ours] ⟨rS_ok x 0, trivial, trivial, trivial⟩ (Nat.le_of_ble_eq_true rfl) w _ 1000 ?_
  repeat' (first | ((with_reducible first | show wpS _ _ _ _ | show putD _ _ _ _ | show putW _ _ _ _ | show splitG _ _ _ | show wpQ _ _ _ _ _ _ | show wpD _ _ _ _ _ _ _ | show wpX _ _ _ _ _ _ | show expX _ _ _ _ _ _ | show stepX _ _ _ _); conv => whnf) | ((with_reducible show RetN _ _ _); refine retB fun β => ?_) | ((with_reducible show _ ∧ _); first | (apply And.intro; (· intro h; exfalso; first | omega | (revert h; decide)); intro _) | (apply And.intro; rotate_left; (· intro h; exfalso; first | omega | (revert h; decide)); intro _) | (refine ⟨fun _ => ?_, fun _ => ?_⟩) | (apply And.intro; · kernel_rfl) | (apply And.intro; · (show inK _ _; unfold inK; omega)) | (apply And.intro; · (show (_ : Int) ≤ 9223372036854775807; (try simp only [List.length_append, List.length_drop, List.length_take, List.length_cons, List.length_nil]); omega))) | ((with_reducible show bothX _ _); refine bothI ?_ ?_; conv => whnf) | (with_reducible exact trivial) | ((with_reducible show CallN _ _ _ _ _ _ _ _); refine call_of env_ok rfl 1000 ?_) | ((with_reducible show XopN _ _ _ _ _ _); refine xop_of env_ok rfl 1000 ?_) | ((with_reducible show CallX _ _ _ _ _ _); first | fail) | ((with_reducible show OpX _ _ _ _); first | fail) | ((with_reducible show ∃ _ : SV, _); first | fail) | ((with_reducible show ∃ _, _); first | fail))
  all_goals simp [RfP.belP, SV.den, *]
theorem belongs_any (x : RfP.Ref) (sh : List UInt8) (ours : Bool) (w : World) : Calls Tryz.prog 23 #[.agg (refC x), .string (bstr sh), .bool ours] w fun e w' => e = .returned (.bool (RfP.belP x sh ours)) ∧ Below w.heap.size w w' := by
  refine enter env_ok Tryz.func23 rfl Tryz.results23 Tryz.ntmps23 [] [] [rS x, .str sh, .bool ours] ⟨rS_ok x 0, trivial, trivial, trivial⟩ (Nat.le_of_ble_eq_true rfl) w _ 1000 ?_
  repeat' (first | ((with_reducible first | show wpS _ _ _ _ | show putD _ _ _ _ | show putW _ _ _ _ | show splitG _ _ _ | show wpQ _ _ _ _ _ _ | show wpD _ _ _ _ _ _ _ | show wpX _ _ _ _ _ _ | show expX _ _ _ _ _ _ | show stepX _ _ _ _); conv => whnf) | ((with_reducible show RetN _ _ _); refine retB fun β => ?_) | ((with_reducible show _ ∧ _); first | (apply And.intro; (· intro h; exfalso; first | omega | (revert h; decide)); intro _) | (apply And.intro; rotate_left; (· intro h; exfalso; first | omega | (revert h; decide)); intro _) | (refine ⟨fun _ => ?_, fun _ => ?_⟩) | (apply And.intro; · kernel_rfl) | (apply And.intro; · (show inK _ _; unfold inK; omega)) | (apply And.intro; · (show (_ : Int) ≤ 9223372036854775807; (try simp only [List.length_append, List.length_drop, List.length_take, List.length_cons, List.length_nil]); omega))) | ((with_reducible show bothX _ _); refine bothI ?_ ?_; conv => whnf) | (with_reducible exact trivial) | ((with_reducible show CallN _ _ _ _ _ _ _ _); refine call_of env_ok rfl 1000 ?_) | ((with_reducible show XopN _ _ _ _ _ _); refine xop_of env_ok rfl 1000 ?_) | ((with_reducible show CallX _ _ _ _ _ _); first | fail) | ((with_reducible show OpX _ _ _ _); first | fail) | ((with_reducible show ∃ _ : SV, _); first | fail) | ((with_reducible show ∃ _, _); first | fail))
  all_goals simp_all [RfP.belP, SV.den]
set_option maxRecDepth 100000 in
theorem copied1_any (x : RfP.Ref) (d r : Int) (a1 a2 : Addr) (w : World) (h : RfP.checkP x = 0) (hd : RfP.farP d = false) (hr : RfP.farP r = false) (h1 : w.cell? a1 = some (.int .i64 d)) (h2 : w.cell? a2 = some (.int .i64 r)) :
    Calls Tryz.prog 46 #[.agg (refC x), .pointer (some a1), .pointer (some a2)] w fun e w' => e = .returned (.agg (refC (RfP.copyP x d r))) ∧ Below w.heap.size w w' := by
  have HC := fun w => Copied_any x d r w
  have e0 : RfP.copiedX x d r = (RfP.copyP x d r, 0) := by unfold RfP.copiedX; rw [if_neg (by omega), if_neg (by simp [hd, hr])]
  rw [e0] at HC
  have k1 : ∀ w', Below w.heap.size w w' → w'.cell? a1 = some (.int .i64 d) := fun w' hb => cell_keep h1 hb
  have k2 : ∀ w', Below w.heap.size w w' → w'.cell? a2 = some (.int .i64 r) := fun w' hb => cell_keep h2 hb
  generalize RfP.copyP x d r = y at *
  refine enter env_ok Tryz.func46 rfl Tryz.results46 Tryz.ntmps46 [] [] [rS x, .any (.pointer (some a1)), .any (.pointer (some a2))] ⟨rS_ok x 0, rfl, rfl, trivial⟩ (Nat.le_of_ble_eq_true rfl) w _ 1000 ?_
  repeat' (first | ((with_reducible first | show wpS _ _ _ _ | show putD _ _ _ _ | show putW _ _ _ _ | show splitG _ _ _ | show wpQ _ _ _ _ _ _ | show wpD _ _ _ _ _ _ _ | show wpX _ _ _ _ _ _ | show expX _ _ _ _ _ _ | show stepX _ _ _ _); conv => whnf) | ((with_reducible show RetN _ _ _); refine retB fun β => ?_) | ((with_reducible show _ ∧ _); first | (apply And.intro; (· intro h; exfalso; first | omega | (revert h; decide)); intro _) | (apply And.intro; rotate_left; (· intro h; exfalso; first | omega | (revert h; decide)); intro _) | (refine ⟨fun _ => ?_, fun _ => ?_⟩) | (apply And.intro; · kernel_rfl) | (apply And.intro; · (show inK _ _; unfold inK; omega)) | (apply And.intro; · (show (_ : Int) ≤ 9223372036854775807; (try simp only [List.length_append, List.length_drop, List.length_take, List.length_cons, List.length_nil]); omega))) | ((with_reducible show bothX _ _); refine bothI ?_ ?_; conv => whnf) | (with_reducible exact trivial) | ((with_reducible show CallN _ _ _ _ _ _ _ _); refine call_of env_ok rfl 1000 ?_) | ((with_reducible show XopN _ _ _ _ _ _); refine xop_of env_ok rfl 1000 ?_) | ((with_reducible show CallX _ _ _ _ _ _); first | (refine callX (.tup [.agg (rF y), .int .i64 0]) (by kernel_rfl) rfl (⟨rS_ok y _, trivial, trivial⟩) (fun β w hm => HC w) ?_)) | ((with_reducible show OpX _ _ _ _); first | fail) | ((with_reducible show ∃ _ : SV, _); first | (refine ⟨.int .i64 d, fun _ _ => trivial, x_load1 (a := a1) (fun w => Tryz.isAgg3 w) (fun w' hb β => k1 w' hb), ?_⟩) | (refine ⟨.int .i64 r, fun _ _ => trivial, x_load1 (a := a2) (fun w => Tryz.isAgg3 w) (fun w' hb β => k2 w' hb), ?_⟩)) | ((with_reducible show ∃ _, _); first | fail))
  all_goals rfl
end Go.Proofs.YtmodjglbjempkaaGreatDoor
namespace Go.Proofs.YtmodjglbjempkaaGreatDoor.RfP
theorem check_name {x : Ref} (h : checkP x = 0) : nameP x.sh = 0 := by
  unfold checkP at h
  split at h
  · omega
  split at h
  · rename_i h1; exact absurd h h1
  · rename_i h1; simpa using h1
theorem mean_name {x : Ref} (h : nameP x.sh = 0) : nameP (meaningP x).sh = 0 := by
  unfold meaningP
  (repeat' split) <;> first | assumption | decide
theorem ord_name {x : Ref} (h : nameP x.sh = 0) : nameP (orderedP x).sh = 0 := by
  unfold orderedP
  dsimp only
  (repeat' split) <;> assumption
theorem fit_valid {y : Ref} (hk : 0 ≤ y.k ∧ y.k ≤ 4) (hs : nameP y.sh = 0) (ho : y.k ≠ 0 → (meaningP y).r ≤ (meaningP y).r2 ∧ (meaningP y).c ≤ (meaningP y).c2) : checkP (fittingP y) = 0 := by
  unfold fittingP
  split
  · rename_i hi
    have e1 := mean_k y
    have e2 : formP (meaningP y) = true := by rw [← eqR_meaning, mean_mean, eqR_self]
    have e3 := mean_name hs
    unfold insideP at hi
    unfold checkP
    rw [if_neg (by omega), if_neg (by simpa using e3), if_neg (by rw [e2]; simp), if_neg (by rw [hi]; simp), if_neg (by intro h; have := ho (by omega); omega)]
  · exact bad_valid
theorem ord_order (y : Ref) (h : y.k ≠ 0) : (orderedP y).r ≤ (orderedP y).r2 ∧ (orderedP y).c ≤ (orderedP y).c2 := by
  unfold orderedP
  rw [if_neg h]
  dsimp only
  (repeat' split) <;> simp_all <;> omega
theorem copy_valid (x : Ref) (d r : Int) (h : checkP x = 0) : checkP (copyP x d r) = 0 := by
  obtain ⟨hk, _, _, _⟩ := check_ok x h
  have hn := check_name h
  have e0 : nameP (addP x d r).sh = 0 := hn
  have e1 := ord_k (meaningP (addP x d r))
  have e2 := mean_k (addP x d r)
  have e3 : (addP x d r).k = x.k := rfl
  refine fit_valid (by omega) (ord_name (mean_name e0)) (fun hk0 => ?_)
  rw [mean_ord _ (mean_mean _)]
  exact ord_order _ (by omega)
theorem move_valid (x : Ref) (b : Rect) (d r : Int) (h : checkP x = 0) : checkP (moveP x b d r) = 0 := by
  obtain ⟨hk, _, _, hord⟩ := check_ok x h
  have hn := check_name h
  unfold moveP
  split
  · exact h
  split
  · exact h
  · refine fit_valid hk hn (fun hk0 => ?_)
    have hk0 : x.k ≠ 0 := hk0
    have hk1 : x.k = 1 := by omega
    obtain ⟨o1, o2⟩ := hord hk0
    unfold meaningP
    dsimp only
    rw [if_neg (by omega), if_neg (by omega), if_neg (by omega), if_neg (by omega)]
    exact ⟨by dsimp only; omega, by dsimp only; omega⟩
theorem hull_order {a : List Step} {low high : Int} (hok : ∀ s ∈ a, okS s) (h0 : 0 ≤ low) (h1 : high < 1073741824) (hb : (hullP a low high).2.2 = true) : (hullP a low high).1 ≤ (hullP a low high).2.1 := by
  have hW : ∀ p : Int, 0 ≤ p → (fun p => whr a p 0) p = whr a (p - 0) 0 := fun p _ => by simp
  have k1 : Sp (fun p => whr a p 0) (fun p => low ≤ p ∧ p ≤ high) (hullP a low high) :=
    hullG_spec (fun p => whr a p 0) low high h1 a 0 0 (0, 0, false) hok (by omega) (by omega) hW (.inl ⟨rfl, rfl, rfl, fun p hp => by omega⟩) (fun h => by cases h)
  rcases k1 with ⟨e, _⟩ | ⟨_, ⟨p, hp, hp1, hp2⟩, _, h4⟩
  · rw [e] at hb; cases hb
  · have := h4 p hp (by omega); omega
theorem thr_valid (x : Ref) (R C : List Step) (h : checkP x = 0) (hR : axErr none R 0 0 = 0) (hC : axErr none C 0 0 = 0) : checkP (thrP x R C) = 0 := by
  obtain ⟨hk, hf, hin, hord⟩ := check_ok x h
  obtain ⟨_, hr, hc, hr2, hc2⟩ := ref_bounds h
  have hn := check_name h
  have okR := fun s hs => (axErr_ok R none 0 0 hR s hs).1
  have okC := fun s hs => (axErr_ok C none 0 0 hC s hs).1
  clear hin hf
  obtain ⟨sh, k, rr, c, r2, c2, ar, ac, ar2, ac2⟩ := x
  dsimp only at *
  have key : ∀ y : Ref, y.k = k → y.sh = sh → 0 ≤ y.r → 0 ≤ y.c → y.r < 1073741824 → y.r2 < 1073741824 → y.c < 1073741824 → y.c2 < 1073741824 → (k ≠ 0 → y.r ≤ y.r2 ∧ y.c ≤ y.c2) → ∀ a b : Hu, a = (if k = 3 then (y.r, y.r2, true) else hullP R y.r y.r2) → b = (if k = 2 ∨ a.2.2 = false then (y.c, y.c2, a.2.2) else hullP C y.c y.c2) →
      checkP (if b.2.2 = false then badR else fittingP { y with r := a.1, r2 := a.2.1, c := b.1, c2 := b.2.1 }) = 0 := by
    intro y yk ys z1 z2 y1 y2 y3 y4 yo a b ha hb
    split
    · exact bad_valid
    · rename_i hb2
      refine fit_valid (by dsimp only; omega) (by dsimp only; rw [ys]; exact hn) (fun hk0 => ?_)
      have hk0 : y.k ≠ 0 := hk0
      obtain ⟨o1, o2⟩ := yo (by omega)
      have ha2 : a.2.2 = true := by
        rcases Bool.eq_false_or_eq_true a.2.2 with h | h
        · exact h
        · rw [if_pos (.inr h)] at hb; rw [hb] at hb2; exact absurd h hb2
      have qa : a.1 ≤ a.2.1 := by
        by_cases h3 : k = 3
        · rw [if_pos h3] at ha; rw [ha]; exact o1
        · rw [if_neg h3] at ha; rw [ha] at ha2 ⊢; exact hull_order okR z1 (by omega) ha2
      have qb : b.1 ≤ b.2.1 := by
        by_cases h2 : k = 2
        · rw [if_pos (.inl h2)] at hb; rw [hb]; exact o2
        · rw [if_neg (by rw [ha2]; simp [h2])] at hb
          rw [hb] at hb2 ⊢; exact hull_order okC z2 (by omega) (by simpa using hb2)
      unfold meaningP
      dsimp only
      rw [if_neg (by omega)]
      (repeat' split) <;> first | exact ⟨qa, qb⟩ | exact ⟨Int.le_refl _, qb⟩ | exact ⟨qa, Int.le_refl _⟩ | exact ⟨Int.le_refl _, Int.le_refl _⟩
  unfold thrP
  dsimp only
  split
  · exact h
  · exact key _ (by split <;> rfl) (by split <;> rfl) (by split <;> (dsimp only; omega)) (by split <;> (dsimp only; omega)) (by split <;> (dsimp only; omega)) (by split <;> (dsimp only; omega)) (by split <;> (dsimp only; omega)) (by split <;> (dsimp only; omega)) (fun h0 => by rw [if_neg h0]; exact hord h0) _ _ rfl rfl
end Go.Proofs.YtmodjglbjempkaaGreatDoor.RfP
namespace Go.Proofs.YtmodjglbjempkaaGreatDoor
open Go.RowKit
open Sym
attribute [local irreducible] Calls Sym.AggEq
theorem mem_cell {base : Nat} {w0 : Base} {rows : List (Nat × Bool × SRow)} {nx : Nat} {β : Nat → Nat} {w : World} (hm : Mem base w0 rows nx β w) (i j : Nat) {o : Bool} {T : TypeId} {cs : List SV} (hi : get rows i = some (o, .cells T cs)) {v : Value} (hv : (SV.dens β cs)[j]? = some v) : w.cell? ⟨β i, j, none⟩ = some v := by
  have q : Row w (β i) T (SV.dens β cs).toArray := (hm.row i _ _ hi).1
  rw [q.cell]; simpa using hv
namespace ScP
/-- what Copied answers -/
def copiedS (s : Str) (d r : Int) : Str × Int := if (RfP.farP d || RfP.farP r) = true then ([], 2) else (rewP (fun x => RfP.copyP x d r) s, 0)
def movedG (sh : Str) (ours : Bool) (b : RfP.Rect) (d r : Int) (x : RfP.Ref) : RfP.Ref := if RfP.belP x sh ours = true then RfP.moveP x b d r else x
def movedS (s sh : Str) (ours : Bool) (b : RfP.Rect) (d r : Int) : Str × Int := if RfP.blockP b d r ≠ 0 then ([], 2) else (rewP (movedG sh ours b d r) s, 0)
theorem movedG_valid {sh : Str} {ours : Bool} {b : RfP.Rect} {d r : Int} {x : RfP.Ref} (h : RfP.checkP x = 0) : RfP.checkP (movedG sh ours b d r x) = 0 := by
  unfold movedG
  split
  · exact RfP.move_valid x b d r h
  · exact h
end ScP
set_option maxRecDepth 100000 in
theorem sCopied_any (s : List UInt8) (d r : Int) (w : World) (hs : s.length ≤ 1000) (hw0 : 0 < w.heap.size) (hw : LW w) : Calls Tryz.prog 15 #[.string (bstr s), .int .i64 d, .int .i64 r] w fun e w' => e = .returned (.tuple #[.string (bstr (ScP.copiedS s d r).1), .int .i64 (ScP.copiedS s d r).2]) ∧ Below w.heap.size w w' := by
  have HC := fun w => Copied_any RfP.zeroR d r w
  have e0 : RfP.copiedX RfP.zeroR d r = if (RfP.farP d || RfP.farP r) = true then (RfP.zeroR, 2) else (RfP.copyP RfP.zeroR d r, 0) := by unfold RfP.copiedX; rw [if_neg (by rw [RfP.zero_valid]; simp)]
  rw [e0] at HC
  unfold ScP.copiedS
  by_cases hf : (RfP.farP d || RfP.farP r) = true
  · rw [if_pos hf] at *
    refine enter env_ok Tryz.func15 rfl Tryz.results15 Tryz.ntmps15 [] [] [.str s, .int .i64 d, .int .i64 r] (by simp [SV.oks, SV.ok]) (Nat.le_of_ble_eq_true rfl) w _ 1000 ?_
    repeat' (first | ((with_reducible first | show wpS _ _ _ _ | show putD _ _ _ _ | show putW _ _ _ _ | show splitG _ _ _ | show wpQ _ _ _ _ _ _ | show wpD _ _ _ _ _ _ _ | show wpX _ _ _ _ _ _ | show expX _ _ _ _ _ _ | show stepX _ _ _ _); conv => whnf) | ((with_reducible show RetN _ _ _); refine retB fun β => ?_) | ((with_reducible show _ ∧ _); first | (apply And.intro; (· intro h; exfalso; first | omega | (revert h; decide)); intro _) | (apply And.intro; rotate_left; (· intro h; exfalso; first | omega | (revert h; decide)); intro _) | (refine ⟨fun _ => ?_, fun _ => ?_⟩) | (apply And.intro; · kernel_rfl) | (apply And.intro; · (show inK _ _; unfold inK; omega)) | (apply And.intro; · (show (_ : Int) ≤ 9223372036854775807; (try simp only [List.length_append, List.length_drop, List.length_take, List.length_cons, List.length_nil]); omega))) | ((with_reducible show bothX _ _); refine bothI ?_ ?_; conv => whnf) | (with_reducible exact trivial) | ((with_reducible show CallN _ _ _ _ _ _ _ _); refine call_of env_ok rfl 1000 ?_) | ((with_reducible show XopN _ _ _ _ _ _); refine xop_of env_ok rfl 1000 ?_) | ((with_reducible show CallX _ _ _ _ _ _); first | (refine callX (.tup [.agg (rF RfP.zeroR), .int .i64 2]) (by kernel_rfl) rfl (⟨rS_ok _ _, trivial, trivial⟩) (fun β w hm => HC w) ?_)) | ((with_reducible show OpX _ _ _ _); first | fail) | ((with_reducible show ∃ _ : SV, _); first | fail) | ((with_reducible show ∃ _, _); first | fail))
    all_goals rfl
  · rw [if_neg hf] at *
    simp only [Bool.or_eq_true, not_or, Bool.not_eq_true] at hf
    obtain ⟨hd, hr⟩ := hf
    refine enter env_ok Tryz.func15 rfl Tryz.results15 Tryz.ntmps15 [] [] [.str s, .int .i64 d, .int .i64 r] (by simp [SV.oks, SV.ok]) (Nat.le_of_ble_eq_true rfl) w _ 1000 ?_
    repeat' (first | ((with_reducible first | show wpS _ _ _ _ | show putD _ _ _ _ | show putW _ _ _ _ | show splitG _ _ _ | show wpQ _ _ _ _ _ _ | show wpD _ _ _ _ _ _ _ | show wpX _ _ _ _ _ _ | show expX _ _ _ _ _ _ | show stepX _ _ _ _); conv => whnf) | ((with_reducible show RetN _ _ _); refine retB fun β => ?_) | ((with_reducible show _ ∧ _); first | (apply And.intro; (· intro h; exfalso; first | omega | (revert h; decide)); intro _) | (apply And.intro; rotate_left; (· intro h; exfalso; first | omega | (revert h; decide)); intro _) | (refine ⟨fun _ => ?_, fun _ => ?_⟩) | (apply And.intro; · kernel_rfl) | (apply And.intro; · (show inK _ _; unfold inK; omega)) | (apply And.intro; · (show (_ : Int) ≤ 9223372036854775807; (try simp only [List.length_append, List.length_drop, List.length_take, List.length_cons, List.length_nil]); omega))) | ((with_reducible show bothX _ _); refine bothI ?_ ?_; conv => whnf) | (with_reducible exact trivial) | ((with_reducible show CallN _ _ _ _ _ _ _ _); refine call_of env_ok rfl 1000 ?_) | ((with_reducible show XopN _ _ _ _ _ _); refine xop_of env_ok rfl 1000 ?_) | ((with_reducible show CallX _ _ _ _ _ _); first | (refine callX (.tup [.agg (rF (RfP.copyP RfP.zeroR d r)), .int .i64 0]) (by kernel_rfl) rfl (⟨rS_ok _ _, trivial, trivial⟩) (fun β w hm => HC w) ?_) | (refine callX (.str (ScP.rewP (fun x => RfP.copyP x d r) s)) (by kernel_rfl) rfl trivial (fun β w' hm => ?_) ?_)) | ((with_reducible show OpX _ _ _ _); first | fail) | ((with_reducible show ∃ _ : SV, _); first | (refine ⟨_, ?ok, x_func, ?_⟩; (case ok => exact fun n h => h))) | ((with_reducible show ∃ _, _); first | fail))
    · have h1 : w'.cell? ⟨β 0, 0, none⟩ = some (.int .i64 d) := mem_cell hm 0 0 rfl rfl
      have h2 : w'.cell? ⟨β 1, 0, none⟩ = some (.int .i64 r) := mem_cell hm 1 0 rfl rfl
      exact replaced_any s 46 [.pointer (some ⟨β 0, 0, none⟩), .pointer (some ⟨β 1, 0, none⟩)] (fun x => RfP.copyP x d r) w' hs (Nat.lt_of_lt_of_le hw0 hm.base_le) (hw.below hm.below) (by kernel_rfl) (by simp [Value.oneCell']) (fun x hx => RfP.copy_valid x d r hx)
        (fun x w1 hx hb => copied1_any x d r _ _ w1 hx hd hr (cell_keep h1 hb) (cell_keep h2 hb))
    all_goals rfl
abbrev rectF (b : RfP.Rect) : List SV := [.int .i64 b.r, .int .i64 b.c, .int .i64 b.h, .int .i64 b.w]
abbrev rectC (b : RfP.Rect) : Array Value := #[.int .i64 b.r, .int .i64 b.c, .int .i64 b.h, .int .i64 b.w]
theorem rect_ok (b : RfP.Rect) (n : Nat) : SV.ok n (.agg (rectF b)) := ⟨trivial, trivial, trivial, trivial, trivial⟩
/-- the four numbers of a rectangle in memory -/
def RectAt (a : Addr) (b : RfP.Rect) (w : World) : Prop := ∀ j v, (SV.dens (fun _ => 0) (rectF b))[j]? = some v → w.cell? (a.add j) = some v
theorem RectAt.keep {a : Addr} {b : RfP.Rect} {w w' : World} (h : RectAt a b w) (hb : Below w.heap.size w w') : RectAt a b w' := fun j v hv => cell_keep (h j v hv) hb
theorem mem_rect {base : Nat} {w0 : Base} {rows : List (Nat × Bool × SRow)} {nx : Nat} {β : Nat → Nat} {w : World} (hm : Mem base w0 rows nx β w) (i : Nat) {o : Bool} {T : TypeId} {b : RfP.Rect} (hi : get rows i = some (o, .cells T (rectF b))) : RectAt ⟨β i, 0, none⟩ b w := fun j v hv => by
  have := mem_cell hm i j hi (v := v) hv
  simpa [add_at] using this
set_option maxRecDepth 100000 in
theorem moved1_any (x : RfP.Ref) (sh : List UInt8) (ours : Bool) (b : RfP.Rect) (d r : Int) (a1 a2 a3 a4 a5 : Addr) (w : World) (h : RfP.checkP x = 0) (hb : RfP.blockP b d r = 0) (h1 : w.cell? a1 = some (.string (bstr sh))) (h2 : w.cell? a2 = some (.bool ours)) (h3 : RectAt a3 b w) (h4 : w.cell? a4 = some (.int .i64 d)) (h5 : w.cell? a5 = some (.int .i64 r)) :
    Calls Tryz.prog 48 #[.agg (refC x), .pointer (some a1), .pointer (some a2), .pointer (some a3), .pointer (some a4), .pointer (some a5)] w fun e w' => e = .returned (.agg (refC (ScP.movedG sh ours b d r x))) ∧ Below w.heap.size w w' := by
  have HC := fun w => Moved_any x b d r w
  have e0 : RfP.movedX x b d r = (RfP.moveP x b d r, 0) := by unfold RfP.movedX; rw [if_neg (by omega), if_neg (by omega)]
  rw [e0] at HC
  have k1 : ∀ w', Below w.heap.size w w' → w'.cell? a1 = some (.string (bstr sh)) := fun w' hb => cell_keep h1 hb
  have k2 : ∀ w', Below w.heap.size w w' → w'.cell? a2 = some (.bool ours) := fun w' hb => cell_keep h2 hb
  have k4 : ∀ w', Below w.heap.size w w' → w'.cell? a4 = some (.int .i64 d) := fun w' hb => cell_keep h4 hb
  have k5 : ∀ w', Below w.heap.size w w' → w'.cell? a5 = some (.int .i64 r) := fun w' hb => cell_keep h5 hb
  unfold ScP.movedG
  have HM := fun w => meant_any x sh ours w
  generalize RfP.moveP x b d r = y at *
  generalize RfP.belP x sh ours = q at *
  refine enter env_ok Tryz.func48 rfl Tryz.results48 Tryz.ntmps48 [] [] [rS x, .any (.pointer (some a1)), .any (.pointer (some a2)), .any (.pointer (some a3)), .any (.pointer (some a4)), .any (.pointer (some a5))] ⟨rS_ok x 0, rfl, rfl, rfl, rfl, rfl, trivial⟩ (Nat.le_of_ble_eq_true rfl) w _ 1000 ?_
  repeat' (first | ((with_reducible first | show wpS _ _ _ _ | show putD _ _ _ _ | show putW _ _ _ _ | show splitG _ _ _ | show wpQ _ _ _ _ _ _ | show wpD _ _ _ _ _ _ _ | show wpX _ _ _ _ _ _ | show expX _ _ _ _ _ _ | show stepX _ _ _ _); conv => whnf) | ((with_reducible show RetN _ _ _); refine retB fun β => ?_) | ((with_reducible show _ ∧ _); first | (apply And.intro; (· intro h; exfalso; first | omega | (revert h; decide)); intro _) | (apply And.intro; rotate_left; (· intro h; exfalso; first | omega | (revert h; decide)); intro _) | (refine ⟨fun _ => ?_, fun _ => ?_⟩) | (apply And.intro; · kernel_rfl) | (apply And.intro; · (show inK _ _; unfold inK; omega)) | (apply And.intro; · (show (_ : Int) ≤ 9223372036854775807; (try simp only [List.length_append, List.length_drop, List.length_take, List.length_cons, List.length_nil]); omega))) | ((with_reducible show bothX _ _); refine bothI ?_ ?_; conv => whnf) | (with_reducible exact trivial) | ((with_reducible show CallN _ _ _ _ _ _ _ _); refine call_of env_ok rfl 1000 ?_) | ((with_reducible show XopN _ _ _ _ _ _); refine xop_of env_ok rfl 1000 ?_) | ((with_reducible show CallX _ _ _ _ _ _); first | (refine callX (.tup [.agg (rF y), .int .i64 0]) (by kernel_rfl) rfl (⟨rS_ok y _, trivial, trivial⟩) (fun β w hm => HC w) ?_) | (refine callX (.bool q) (by kernel_rfl) rfl (trivial) (fun β w hm => HM w) ?_)) | ((with_reducible show OpX _ _ _ _); first | fail) | ((with_reducible show ∃ _ : SV, _); first | (refine ⟨.str sh, fun _ _ => trivial, x_load1 (a := a1) (fun w => Tryz.isAgg9 w) (fun w' hb β => k1 w' hb), ?_⟩) | (refine ⟨.bool ours, fun _ _ => trivial, x_load1 (a := a2) (fun w => Tryz.isAgg4 w) (fun w' hb β => k2 w' hb), ?_⟩) | (refine ⟨.agg (rectF b), fun _ _ => rect_ok b _, x_loadAgg (a := a3) (vs := rectF b) (fun w => Tryz.isAgg42 w) (fun w => Tryz.sizeOf42 w) (fun w' hb β j v hv => (h3.keep hb) j v hv), ?_⟩) | (refine ⟨.int .i64 d, fun _ _ => trivial, x_load1 (a := a4) (fun w => Tryz.isAgg3 w) (fun w' hb β => k4 w' hb), ?_⟩) | (refine ⟨.int .i64 r, fun _ _ => trivial, x_load1 (a := a5) (fun w => Tryz.isAgg3 w) (fun w' hb β => k5 w' hb), ?_⟩)) | ((with_reducible show ∃ _, _); first | fail))
  · rw [if_pos ‹q = true›]; rfl
  · rw [if_neg (by simp [*])]; rfl
set_option maxRecDepth 100000 in
theorem sMoved_any (s sh : List UInt8) (ours : Bool) (b : RfP.Rect) (d r : Int) (w : World) (hs : s.length ≤ 1000) (hw0 : 0 < w.heap.size) (hw : LW w) : Calls Tryz.prog 16 #[.string (bstr s), .string (bstr sh), .bool ours, .agg (rectC b), .int .i64 d, .int .i64 r] w fun e w' => e = .returned (.tuple #[.string (bstr (ScP.movedS s sh ours b d r).1), .int .i64 (ScP.movedS s sh ours b d r).2]) ∧ Below w.heap.size w w' := by
  have HC := fun w => Moved_any RfP.zeroR b d r w
  have e0 : RfP.movedX RfP.zeroR b d r = if RfP.blockP b d r ≠ 0 then (RfP.zeroR, 2) else (RfP.moveP RfP.zeroR b d r, 0) := by unfold RfP.movedX; rw [if_neg (by rw [RfP.zero_valid]; simp)]
  rw [e0] at HC
  unfold ScP.movedS
  by_cases hf : RfP.blockP b d r ≠ 0
  · rw [if_pos hf] at *
    refine enter env_ok Tryz.func16 rfl Tryz.results16 Tryz.ntmps16 [] [] [.str s, .str sh, .bool ours, .agg (rectF b), .int .i64 d, .int .i64 r] ⟨trivial, trivial, trivial, rect_ok b 0, trivial, trivial, trivial⟩ (Nat.le_of_ble_eq_true rfl) w _ 1000 ?_
    repeat' (first | ((with_reducible first | show wpS _ _ _ _ | show putD _ _ _ _ | show putW _ _ _ _ | show splitG _ _ _ | show wpQ _ _ _ _ _ _ | show wpD _ _ _ _ _ _ _ | show wpX _ _ _ _ _ _ | show expX _ _ _ _ _ _ | show stepX _ _ _ _); conv => whnf) | ((with_reducible show RetN _ _ _); refine retB fun β => ?_) | ((with_reducible show _ ∧ _); first | (apply And.intro; (· intro h; exfalso; first | omega | (revert h; decide)); intro _) | (apply And.intro; rotate_left; (· intro h; exfalso; first | omega | (revert h; decide)); intro _) | (refine ⟨fun _ => ?_, fun _ => ?_⟩) | (apply And.intro; · kernel_rfl) | (apply And.intro; · (show inK _ _; unfold inK; omega)) | (apply And.intro; · (show (_ : Int) ≤ 9223372036854775807; (try simp only [List.length_append, List.length_drop, List.length_take, List.length_cons, List.length_nil]); omega))) | ((with_reducible show bothX _ _); refine bothI ?_ ?_; conv => whnf) | (with_reducible exact trivial) | ((with_reducible show CallN _ _ _ _ _ _ _ _); refine call_of env_ok rfl 1000 ?_) | ((with_reducible show XopN _ _ _ _ _ _); refine xop_of env_ok rfl 1000 ?_) | ((with_reducible show CallX _ _ _ _ _ _); first | (refine callX (.tup [.agg (rF RfP.zeroR), .int .i64 2]) (by kernel_rfl) rfl (⟨rS_ok _ _, trivial, trivial⟩) (fun β w hm => HC w) ?_)) | ((with_reducible show OpX _ _ _ _); first | fail) | ((with_reducible show ∃ _ : SV, _); first | fail) | ((with_reducible show ∃ _, _); first | fail))
    all_goals rfl
  · rw [if_neg hf] at *
    have hf : RfP.blockP b d r = 0 := by omega
    refine enter env_ok Tryz.func16 rfl Tryz.results16 Tryz.ntmps16 [] [] [.str s, .str sh, .bool ours, .agg (rectF b), .int .i64 d, .int .i64 r] ⟨trivial, trivial, trivial, rect_ok b 0, trivial, trivial, trivial⟩ (Nat.le_of_ble_eq_true rfl) w _ 1000 ?_
    repeat' (first | ((with_reducible first | show wpS _ _ _ _ | show putD _ _ _ _ | show putW _ _ _ _ | show splitG _ _ _ | show wpQ _ _ _ _ _ _ | show wpD _ _ _ _ _ _ _ | show wpX _ _ _ _ _ _ | show expX _ _ _ _ _ _ | show stepX _ _ _ _); conv => whnf) | ((with_reducible show RetN _ _ _); refine retB fun β => ?_) | ((with_reducible show _ ∧ _); first | (apply And.intro; (· intro h; exfalso; first | omega | (revert h; decide)); intro _) | (apply And.intro; rotate_left; (· intro h; exfalso; first | omega | (revert h; decide)); intro _) | (refine ⟨fun _ => ?_, fun _ => ?_⟩) | (apply And.intro; · kernel_rfl) | (apply And.intro; · (show inK _ _; unfold inK; omega)) | (apply And.intro; · (show (_ : Int) ≤ 9223372036854775807; (try simp only [List.length_append, List.length_drop, List.length_take, List.length_cons, List.length_nil]); omega))) | ((with_reducible show bothX _ _); refine bothI ?_ ?_; conv => whnf) | (with_reducible exact trivial) | ((with_reducible show CallN _ _ _ _ _ _ _ _); refine call_of env_ok rfl 1000 ?_) | ((with_reducible show XopN _ _ _ _ _ _); refine xop_of env_ok rfl 1000 ?_) | ((with_reducible show CallX _ _ _ _ _ _); first | (refine callX (.tup [.agg (rF (RfP.moveP RfP.zeroR b d r)), .int .i64 0]) (by kernel_rfl) rfl (⟨rS_ok _ _, trivial, trivial⟩) (fun β w hm => HC w) ?_) | (refine callX (.str (ScP.rewP (ScP.movedG sh ours b d r) s)) (by kernel_rfl) rfl trivial (fun β w' hm => ?_) ?_)) | ((with_reducible show OpX _ _ _ _); first | fail) | ((with_reducible show ∃ _ : SV, _); first | (refine ⟨_, ?ok, x_func, ?_⟩; (case ok => exact fun n h => h))) | ((with_reducible show ∃ _, _); first | fail))
    · have h1 : w'.cell? ⟨β 0, 0, none⟩ = some (.string (bstr sh)) := mem_cell hm 0 0 rfl rfl
      have h2 : w'.cell? ⟨β 1, 0, none⟩ = some (.bool ours) := mem_cell hm 1 0 rfl rfl
      have h3 : RectAt ⟨β 2, 0, none⟩ b w' := mem_rect hm 2 rfl
      have h4 : w'.cell? ⟨β 3, 0, none⟩ = some (.int .i64 d) := mem_cell hm 3 0 rfl rfl
      have h5 : w'.cell? ⟨β 4, 0, none⟩ = some (.int .i64 r) := mem_cell hm 4 0 rfl rfl
      exact replaced_any s 48 [.pointer (some ⟨β 0, 0, none⟩), .pointer (some ⟨β 1, 0, none⟩), .pointer (some ⟨β 2, 0, none⟩), .pointer (some ⟨β 3, 0, none⟩), .pointer (some ⟨β 4, 0, none⟩)] (ScP.movedG sh ours b d r) w' hs (Nat.lt_of_lt_of_le hw0 hm.base_le) (hw.below hm.below) (by kernel_rfl) (by simp [Value.oneCell']) (fun x hx => ScP.movedG_valid hx)
        (fun x w1 hx hb => moved1_any x sh ours b d r _ _ _ _ _ w1 hx hf (cell_keep h1 hb) (cell_keep h2 hb) (h3.keep hb) (cell_keep h4 hb) (cell_keep h5 hb))
    all_goals rfl
end Go.Proofs.YtmodjglbjempkaaGreatDoor
