/- Formulas whose references a function changes, the program's and the reference's. Formulas whose references a function changes: the reference's. -/
import Derived.Test.YtmodjglbjempkaaGreatDoorHScC
import Derived.Test.YtmodjglbjempkaaGreatDoorHSb
import Derived.Test.YtmodjglbjempkaaGreatDoorHKa
set_option linter.unusedSimpArgs false
set_option linter.unusedVariables false
namespace Go.Proofs.YtmodjglbjempkaaGreatDoor
open Go.RowKit
open Sym
attribute [local irreducible] Calls Sym.AggEq
namespace RfP
theorem zero_valid : checkP zeroR = 0 := by decide
theorem bad_valid : checkP badR = 0 := by decide
theorem done_valid (x : Ref) : checkP (doneP x).1 = 0 := by
  unfold doneP
  split
  · assumption
  · exact zero_valid
theorem parse_valid (s : Str) : checkP (parseP s).1 = 0 := by
  unfold parseP
  split
  · exact zero_valid
  split
  · exact bad_valid
  dsimp only
  split
  · unfold readP
    split
    · exact zero_valid
    split
    · split
      · exact zero_valid
      · exact done_valid _
    · exact done_valid _
  · exact zero_valid
theorem sheetT_len (s : Str) : (sheetT s).length ≤ 2 * s.length + 3 := by
  unfold sheetT
  have := dbl_len s
  split
  · simp
  · split <;> simp <;> omega
end RfP
theorem text_len {x : RfP.Ref} (h : RfP.checkP x = 0) : (RfP.textP x).length ≤ 500 := by
  obtain ⟨hk, hr, hc, hr2, hc2⟩ := ref_bounds h
  have hn := ref_name h
  have h1 := RfP.sheetT_len x.sh
  have l1 := colT_len x.c x.ac
  have l2 := colT_len x.c2 x.ac2
  have l3 := rowT_len x.r x.ar hr
  have l4 := rowT_len x.r2 x.ar2 hr2
  unfold RfP.textP
  (repeat' split) <;> simp [RfP.refTxt] <;> omega
namespace ScP
/-- the new text of a token -/
def tokT (g : RfP.Ref → RfP.Ref) (t : Tok) : Str :=
  if t.1 = 4 then (if RfP.eqR (g (RfP.parseP t.2).1) (RfP.parseP t.2).1 = true then t.2 else RfP.textP (g (RfP.parseP t.2).1)) else t.2
def toksT (g : RfP.Ref → RfP.Ref) (L : List Tok) : Str := L.flatMap (tokT g)
def rewP (g : RfP.Ref → RfP.Ref) (s : Str) : Str := if (scanP s).2 = none then [61] ++ toksT g (scanP s).1 else s
theorem scanG_text : ∀ (f : Nat) (s : Str) (p : Nat) (acc : List Tok), (∀ t ∈ acc, t.2.length ≤ s.length) → ∀ t ∈ (scanG f s p acc).1, t.2.length ≤ s.length
  | 0, s, p, acc, h, t, ht => by unfold scanG at ht; exact h t ht
  | f + 1, s, p, acc, h, t, ht => by
    unfold scanG at ht
    split at ht
    · split at ht
      · simp at ht
      · refine scanG_text f s _ _ (fun u hu => ?_) t ht
        rcases List.mem_append.1 hu with hu | hu
        · exact h u hu
        · obtain rfl := List.mem_singleton.1 hu
          simp; omega
    · exact h t ht
theorem scan_text (s : Str) : ∀ t ∈ (scanP s).1, t.2.length ≤ s.length := by
  unfold scanP
  split
  · exact scanG_text _ s 1 [] (fun t h => by simp at h)
  · intro t h; simp at h
theorem toksT_next {g : RfP.Ref → RfP.Ref} {L : List Tok} {k : Nat} {t : Tok} (h : L[k]? = some t) : toksT g (L.take (k + 1)) = toksT g (L.take k) ++ tokT g t := by
  rw [take_add L k t h]; unfold toksT; rw [List.flatMap_append]; simp
theorem toksT_len {g : RfP.Ref → RfP.Ref} {L : List Tok} {M : Nat} (h : ∀ t ∈ L, (tokT g t).length ≤ M) : (toksT g L).length ≤ L.length * M := by
  induction L with
  | nil => simp [toksT]
  | cons t L ih =>
    have := ih (fun u hu => h u (by simp [hu]))
    have h1 := h t (by simp)
    unfold toksT at this ⊢
    rw [List.flatMap_cons, List.length_append, List.length_cons, Nat.succ_mul]; omega
end ScP
theorem tokT_len {g : RfP.Ref → RfP.Ref} (hg : ∀ x, RfP.checkP x = 0 → RfP.checkP (g x) = 0) {t : ScP.Tok} {M : Nat} (h : t.2.length ≤ M) (hM : 500 ≤ M) : (ScP.tokT g t).length ≤ M := by
  unfold ScP.tokT
  have := text_len (hg _ (RfP.parse_valid t.2))
  split
  · split <;> omega
  · exact h
structure RwT where
  k : Nat
  bs : List Value
  g : Nat
  n : Nat
  cap : Nat
structure RwA (g : RfP.Ref → RfP.Ref) (L : List ScP.Tok) (k : Nat) (bs : List Value) : Prop where
  hk : k ≤ L.length
  eq : bs = Lib.byteCells ([61] ++ ScP.toksT g (L.take k))
  len : bs.length ≤ 1 + k * 1000
theorem strC (l : List UInt8) : Lib.strCells (bstr l) = Lib.byteCells l := by simp [Lib.strCells, Lib.byteCells, bstr]
theorem rw_next {g : RfP.Ref → RfP.Ref} {L : List ScP.Tok} {k : Nat} {bs : List Value} {t : ScP.Tok} {tx : List UInt8} (h : RwA g L k bs) (ht : L[k]? = some t) (he : ScP.tokT g t = tx) (hl : tx.length ≤ 1000) : RwA g L (k + 1) (bs ++ Lib.strCells (bstr tx)) :=
  ⟨by have := (List.getElem?_eq_some_iff.1 ht).1; omega, by rw [h.eq, strC, ScP.toksT_next ht, he]; simp [Lib.byteCells], by have := h.len; rw [strC, List.length_append]; simp [Lib.byteCells]; omega⟩
theorem RwA.ne {g : RfP.Ref → RfP.Ref} {L : List ScP.Tok} {k : Nat} {bs : List Value} (h : RwA g L k bs) (xs : List Value) : bs ++ xs ≠ [] := by rw [h.eq]; simp [Lib.byteCells]
set_option maxRecDepth 100000 in
set_option maxHeartbeats 8000000 in
theorem replaced_any (s : List UInt8) (f : FuncId) (caps : List Value) (g : RfP.Ref → RfP.Ref) (w : World) (hs : s.length ≤ 1000) (hw0 : 0 < w.heap.size) (hw : LW w) (he : entersB Tryz.prog f = true) (hcap : ∀ v ∈ caps, v.oneCell' = true)
    (hg : ∀ x, RfP.checkP x = 0 → RfP.checkP (g x) = 0)
    (HG : ∀ (x : RfP.Ref) (w1 : World), RfP.checkP x = 0 → Below w.heap.size w w1 → Calls Tryz.prog f (Value.agg (refC x) :: caps).toArray w1 fun e w' => e = .returned (.agg (refC (g x))) ∧ Below w1.heap.size w1 w') :
    Calls Tryz.prog 45 #[.string (bstr s), .func (.func f) #[] caps.toArray] w fun e w' => e = .returned (.string (bstr (ScP.rewP g s))) ∧ Below w.heap.size w w' := by
  have HS := fun w => fScan_any s w (by omega)
  have hlen := ScP.scan_len s
  have htx := ScP.scan_text s
  unfold ScP.rewP
  generalize ScP.scanP s = R at *
  obtain ⟨L, er⟩ := R
  dsimp only at hlen htx ⊢
  have harg : (#[.string (bstr s), .func (.func f) #[] caps.toArray] : Array Value) = (SV.dens (fun _ => 0) [.str s, .fn f (caps.map SV.any)]).toArray := by simp [SV.dens, SV.den, dens_any]
  rw [harg]
  have hok : SV.oks 0 [.str s, .fn f (caps.map SV.any)] := ⟨trivial, oks_any caps hcap, trivial⟩
  cases er with
  | some p =>
    rw [if_neg (by simp)]
    refine enter env_ok Tryz.func45 rfl Tryz.results45 Tryz.ntmps45 [] [] [.str s, .fn f (caps.map SV.any)] hok (Nat.le_of_ble_eq_true rfl) w _ 1000 ?_
    repeat' (first | ((with_reducible first | show wpS _ _ _ _ | show putD _ _ _ _ | show putW _ _ _ _ | show splitG _ _ _ | show wpQ _ _ _ _ _ _ | show wpD _ _ _ _ _ _ _ | show wpX _ _ _ _ _ _ | show expX _ _ _ _ _ _ | show stepX _ _ _ _); conv => whnf) | ((with_reducible show RetN _ _ _); refine retB fun β => ?_) | ((with_reducible show _ ∧ _); first | (apply And.intro; (· intro h; exfalso; first | omega | (revert h; decide)); intro _) | (apply And.intro; rotate_left; (· intro h; exfalso; first | omega | (revert h; decide)); intro _) | (refine ⟨fun _ => ?_, fun _ => ?_⟩) | (apply And.intro; · kernel_rfl) | (apply And.intro; · (show inK _ _; unfold inK; omega)) | (apply And.intro; · (show (_ : Int) ≤ 9223372036854775807; (try simp only [List.length_append, List.length_drop, List.length_take, List.length_cons, List.length_nil]); omega))) | ((with_reducible show bothX _ _); refine bothI ?_ ?_; conv => whnf) | (with_reducible exact trivial) | ((with_reducible show CallN _ _ _ _ _ _ _ _); refine call_of env_ok rfl 1000 ?_) | ((with_reducible show XopN _ _ _ _ _ _); refine xop_of env_ok rfl 1000 ?_) | ((with_reducible show CallX _ _ _ _ _ _); first | (refine callSlX (T := Option Addr × Nat) (fun t => .tup [.any (.slice t.1 L.length t.2), .int .i64 (p : Nat), .int .i64 10]) (fun t => t.1) (fun _ => toksV L) hw0 (by kernel_rfl) rfl (fun t => ⟨rfl, trivial, trivial, trivial⟩) (fun β w hm => (HS w).mono (fun e w' ⟨a, cap, he, h1, h2, h3⟩ => ⟨h3, (a, cap), he, h1, h2⟩)) (fun t hA => ?_))) | ((with_reducible show OpX _ _ _ _); first | fail) | ((with_reducible show ∃ _ : SV, _); first | fail) | ((with_reducible show ∃ _, _); first | fail))
    rfl
  | none =>
    rw [if_pos rfl]
    refine enter env_ok Tryz.func45 rfl Tryz.results45 Tryz.ntmps45 [21] [] [.str s, .fn f (caps.map SV.any)] hok (Nat.le_of_ble_eq_true rfl) w _ 1000 ?_
    repeat' (first | ((with_reducible first | show wpS _ _ _ _ | show putD _ _ _ _ | show putW _ _ _ _ | show splitG _ _ _ | show wpQ _ _ _ _ _ _ | show wpD _ _ _ _ _ _ _ | show wpX _ _ _ _ _ _ | show expX _ _ _ _ _ _ | show stepX _ _ _ _); conv => whnf) | ((with_reducible show RetN _ _ _); refine retB fun β => ?_) | ((with_reducible show _ ∧ _); first | (apply And.intro; (· intro h; exfalso; first | omega | (revert h; decide)); intro _) | (apply And.intro; rotate_left; (· intro h; exfalso; first | omega | (revert h; decide)); intro _) | (refine ⟨fun _ => ?_, fun _ => ?_⟩) | (apply And.intro; · kernel_rfl) | (apply And.intro; · (show inK _ _; unfold inK; omega)) | (apply And.intro; · (show (_ : Int) ≤ 9223372036854775807; (try simp only [List.length_append, List.length_drop, List.length_take, List.length_cons, List.length_nil]); omega))) | ((with_reducible show bothX _ _); refine bothI ?_ ?_; conv => whnf) | (with_reducible exact trivial) | ((with_reducible show CallN _ _ _ _ _ _ _ _); refine call_of env_ok rfl 1000 ?_) | ((with_reducible show XopN _ _ _ _ _ _); refine xop_of env_ok rfl 1000 ?_) | ((with_reducible show CallX _ _ _ _ _ _); first | (refine callSlX (T := Option Addr × Nat) (fun t => .tup [.any (.slice t.1 L.length t.2), .int .i64 0, .int .i64 0]) (fun t => t.1) (fun _ => toksV L) hw0 (by kernel_rfl) rfl (fun t => ⟨rfl, trivial, trivial, trivial⟩) (fun β w hm => (HS w).mono (fun e w' ⟨a, cap, he, h1, h2, h3⟩ => ⟨h3, (a, cap), he, h1, h2⟩)) (fun t hA => ?_))) | ((with_reducible show OpX _ _ _ _); first | fail) | ((with_reducible show ∃ _ : SV, _); first | fail) | ((with_reducible show ∃ _, _); first | fail))
    obtain ⟨a, ca⟩ := t
    dsimp only at hA ⊢
    refine rebase env_ok rfl [(0, .str s), (1, .fn f (caps.map SV.any)), (5, .any (.slice a L.length ca)), (21, .lit false)] 1000 [] [] (by refine ⟨⟨eqSV_refl _, trivial⟩, ⟨eqSV_refl _, oks_any caps hcap⟩, ⟨eqSV_refl _, rfl⟩, ⟨by simp [eqSV, isB, bval], trivial⟩, trivial⟩) (fun β w1 hm0 => ?_)
    have hsl := (hm0.row 0 _ _ rfl).1.2.at (hm0.row 0 _ _ rfl).1.1
    have hb1 : Below w.heap.size w w1 := hm0.below
    have hbs : w.heap.size ≤ w1.heap.size := hm0.base_le
    clear hm0
    repeat' (first | ((with_reducible first | show wpS _ _ _ _ | show putD _ _ _ _ | show putW _ _ _ _ | show splitG _ _ _ | show wpQ _ _ _ _ _ _ | show wpD _ _ _ _ _ _ _ | show wpX _ _ _ _ _ _ | show expX _ _ _ _ _ _ | show stepX _ _ _ _); conv => whnf) | ((with_reducible show RetN _ _ _); refine retB fun β => ?_) | ((with_reducible show _ ∧ _); first | (apply And.intro; (· intro h; exfalso; first | omega | (revert h; decide)); intro _) | (apply And.intro; rotate_left; (· intro h; exfalso; first | omega | (revert h; decide)); intro _) | (refine ⟨fun _ => ?_, fun _ => ?_⟩) | (apply And.intro; · kernel_rfl) | (apply And.intro; · (show inK _ _; unfold inK; omega)) | (apply And.intro; · (show (_ : Int) ≤ 9223372036854775807; (try simp only [List.length_append, List.length_drop, List.length_take, List.length_cons, List.length_nil]); omega))) | ((with_reducible show bothX _ _); refine bothI ?_ ?_; conv => whnf) | (with_reducible exact trivial) | ((with_reducible show CallN _ _ _ _ _ _ _ _); refine call_of env_ok rfl 1000 ?_) | ((with_reducible show XopN _ _ _ _ _ _); refine xop_of env_ok rfl 1000 ?_) | ((with_reducible show CallX _ _ _ _ _ _); first | (refine callX_bld0 (.any .nilIface) 0 (T := 85) (e := 5) (bs' := [.int .u8 61]) (by kernel_rfl) rfl rfl rfl (by simp) (fun β w hm hb => (Tryz.Builder_WriteByte_k w1.heap.size (β 0) [] 61 w hb (by simp) hm.base_le).mono (fun e w' h => ⟨h.1, h.2.1, h.2.2.1⟩)) (fun g0 n0 cap0 => ?_))) | ((with_reducible show OpX _ _ _ _); first | fail) | ((with_reducible show ∃ _ : SV, _); first | (refine ⟨_, ?ok, x_len Tryz.underlying24, ?_⟩; (case ok => exact fun _ _ => trivial))) | ((with_reducible show ∃ _, _); first | fail))
    refine loop env_ok rfl (T := {t : RwT // RwA g L t.k t.bs}) (fun t => ⟨[(1, .fn f (caps.map .any)), (8, .ptr 0 0), (25, .any (.slice a L.length ca)), (26, .int .i64 (L.length : Nat)), (27, .int .i64 (t.1.k : Nat))], [(0, true, .blob (BldH 85 t.1.g t.1.n t.1.cap)), (1, true, .blob (BldB 5 t.1.g t.1.n t.1.cap t.1.bs))], 2, 57⟩) (fun t => L.length - t.1.k) ⟨⟨0, [.int .u8 61], g0, n0, cap0⟩, ⟨Nat.zero_le _, by simp [ScP.toksT, Lib.byteCells], by simp⟩⟩ 1000 [] [] (fun t => by exact Nat.zero_le _) (by ((with_reducible show wk _ _); repeat' (first | exact trivial | exact eqSV_refl _ | (refine eqI ?_) | (refine eqS ?_) | (with_reducible exact rfl) | apply And.intro | exact Nat.zero_lt_one | exact Nat.le_of_ble_eq_true rfl | (with_reducible assumption) | ((show (_ : Int) = _); (try dsimp only); omega) | ((show eqSV _ _); simp [eqSV, isB, bval, *]; done) | rfl)); all_goals first | exact fun b x h => h | exact oks_any caps hcap) (fun t I hI => ?_)
    obtain ⟨⟨k, bs, g1, n1, cap1⟩, hA1⟩ := t
    dsimp only at hA1 ⊢
    have hk := hA1.hk
    have hbl := hA1.len
    have hw1 : LW w1 := hw.below hb1
    by_cases hlt : k < L.length
    · obtain ⟨tk, htk⟩ : ∃ tk, L[k]? = some tk := ⟨L[k], List.getElem?_eq_getElem hlt⟩
      have hat := tok_at htk
      obtain ⟨a1, rfl, -⟩ := hsl (k * 2 + 0) _ (hat (fun _ => 0) 0 _ rfl)
      have r1 : ∀ w', Below w1.heap.size w1 w' → ∀ m v, (tokV tk)[m]? = some v → w'.cell? ((a1.add (k * 2)).add m) = some v := fun w' hw m v hv => by
        obtain ⟨ad, e, _, hc⟩ := (hsl.below hw) _ _ (hat (fun _ => 0) m v hv)
        cases e; rw [Go.Deep.add_add]; exact hc
      have hn1 := fun tx h => rw_next (tx := tx) hA1 htk h
      have htl : tk.2.length ≤ 1000 := Nat.le_trans (htx tk (List.mem_of_getElem? htk)) hs
      have HP := fun w => Parse_any tk.2 w
      have hxv := RfP.parse_valid tk.2
      have hgl := text_len (hg _ hxv)
      obtain ⟨kd, tx⟩ := tk
      dsimp only [ScP.tokT] at hn1 htl HP hxv hgl
      generalize RfP.parseP tx = y at *
      obtain ⟨x, ee⟩ := y
      dsimp only at hn1 hxv hgl
      have HGx : ∀ w', Below w1.heap.size w1 w' → Calls Tryz.prog f (Value.agg (refC x) :: caps).toArray w' fun e w'' => e = .returned (.agg (refC (g x))) ∧ Below w'.heap.size w' w'' := fun w' h => HG x w' hxv (hb1.trans (h.mono hbs))
      have hgv := hg x hxv
      clear HG hg
      generalize g x = gx at *
      repeat' (first | ((with_reducible first | show wpS _ _ _ _ | show putD _ _ _ _ | show putW _ _ _ _ | show splitG _ _ _ | show wpQ _ _ _ _ _ _ | show wpD _ _ _ _ _ _ _ | show wpX _ _ _ _ _ _ | show expX _ _ _ _ _ _ | show stepX _ _ _ _); conv => whnf) | ((with_reducible show RetN _ _ _); refine retB fun β => ?_) | ((with_reducible show _ ∧ _); first | (apply And.intro; (· intro h; exfalso; first | omega | (revert h; decide)); intro _) | (apply And.intro; rotate_left; (· intro h; exfalso; first | omega | (revert h; decide)); intro _) | (refine ⟨fun _ => ?_, fun _ => ?_⟩) | (apply And.intro; · kernel_rfl) | (apply And.intro; · (show inK _ _; unfold inK; omega)) | (apply And.intro; · (show (_ : Int) ≤ 9223372036854775807; (try simp only [List.length_append, List.length_drop, List.length_take, List.length_cons, List.length_nil]); omega))) | ((with_reducible show bothX _ _); refine bothI ?_ ?_; conv => whnf) | (with_reducible exact trivial) | ((with_reducible show CallN _ _ _ _ _ _ _ _); refine call_of env_ok rfl 1000 ?_) | ((with_reducible show XopN _ _ _ _ _ _); refine xop_of env_ok rfl 1000 ?_) | ((with_reducible show CallX _ _ _ _ _ _); first | (refine callX (.tup [.agg (rF x), .int .i64 ee]) (by kernel_rfl) rfl (⟨rS_ok x _, trivial, trivial⟩) (fun β w hm => HP w) ?_) | (refine callX (rS gx) he rfl (rS_ok gx _) (fun β w hm => (by have := HGx w hm.below; simpa [SV.dens, SV.den, dens_any, refC] using this)) ?_) | (refine callX (.tup [.str (RfP.textP gx), .int .i64 0]) (by kernel_rfl) rfl (⟨trivial, trivial, trivial⟩) (fun β w hm => print_ok gx w (hw1.below hm.below) hgv) ?_) | (refine callX_bld (.tup [.int .i64 ((tx).length : Nat), .any .nilIface]) 0 1 (bs' := bs ++ Lib.strCells (bstr (tx))) (by kernel_rfl) rfl ⟨⟨trivial, rfl, trivial⟩, rfl⟩ rfl rfl (by decide) (Nat.zero_le _) (by simp [mentF, ment, ments, ments_any]; try decide) (hA1.ne _) (fun β w hm hb => (Tryz.Builder_WriteString_k w1.heap.size (β 0) bs (bstr (tx)) w (.inr hb) (by show bs.length + (tx).length ≤ _; omega) hm.base_le).mono (fun e w' h => ⟨h.1, h.2.1, h.2.2.1⟩)) (fun g2 n2 cap2 => ?_)) | (refine callX_bld (.tup [.int .i64 ((RfP.textP gx).length : Nat), .any .nilIface]) 0 1 (bs' := bs ++ Lib.strCells (bstr (RfP.textP gx))) (by kernel_rfl) rfl ⟨⟨trivial, rfl, trivial⟩, rfl⟩ rfl rfl (by decide) (Nat.zero_le _) (by simp [mentF, ment, ments, ments_any]; try decide) (hA1.ne _) (fun β w hm hb => (Tryz.Builder_WriteString_k w1.heap.size (β 0) bs (bstr (RfP.textP gx)) w (.inr hb) (by show bs.length + (RfP.textP gx).length ≤ _; omega) hm.base_le).mono (fun e w' h => ⟨h.1, h.2.1, h.2.2.1⟩)) (fun g2 n2 cap2 => ?_))) | ((with_reducible show OpX _ _ _ _); first | fail) | ((with_reducible show ∃ _ : SV, _); first | (refine ⟨_, ?ok, x_index (j := k) rfl Tryz.underlying24 (fun w => Tryz.sizeOf33 w) hlt, ?_⟩; (case ok => exact fun _ _ => rfl)) | (refine ⟨.agg (tokF (kd, tx)), fun _ _ => ⟨trivial, trivial, trivial⟩, x_loadAgg (vs := tokF (kd, tx)) (fun w => Tryz.isAgg33 w) (fun w => Tryz.sizeOf33 w) (fun w' hw β m v hv => r1 w' hw m v hv), ?_⟩)) | ((with_reducible show ∃ _, _); first | (refine ⟨_, aggRef gx x, ?_⟩)))
      · refine hI _ ⟨⟨k + 1, _, g2, n2, cap2⟩, hn1 (RfP.textP gx) (by rw [if_pos (by have h4 : ((kd : Nat) : Int) = 4 := ‹_›; omega), if_neg (by simpa using ‹(!RfP.eqR gx x) = true›)]) (by omega)⟩ (by dsimp only; omega) (by ((with_reducible show wk _ _); repeat' (first | exact trivial | exact eqSV_refl _ | (refine eqI ?_) | (refine eqS ?_) | (with_reducible exact rfl) | apply And.intro | exact Nat.zero_lt_one | exact Nat.le_of_ble_eq_true rfl | (with_reducible assumption) | ((show (_ : Int) = _); (try dsimp only); omega) | ((show eqSV _ _); simp [eqSV, isB, bval, *]; done) | rfl)); all_goals first | exact fun b x h => h | exact oks_any caps hcap)
      · refine hI _ ⟨⟨k + 1, _, g2, n2, cap2⟩, hn1 tx (by rw [if_pos (by have h4 : ((kd : Nat) : Int) = 4 := ‹_›; omega), if_pos (by simpa using ‹(!RfP.eqR gx x) = false›)]) (by omega)⟩ (by dsimp only; omega) (by ((with_reducible show wk _ _); repeat' (first | exact trivial | exact eqSV_refl _ | (refine eqI ?_) | (refine eqS ?_) | (with_reducible exact rfl) | apply And.intro | exact Nat.zero_lt_one | exact Nat.le_of_ble_eq_true rfl | (with_reducible assumption) | ((show (_ : Int) = _); (try dsimp only); omega) | ((show eqSV _ _); simp [eqSV, isB, bval, *]; done) | rfl)); all_goals first | exact fun b x h => h | exact oks_any caps hcap)
      · refine hI _ ⟨⟨k + 1, _, g2, n2, cap2⟩, hn1 tx (by rw [if_neg (by have h4 : ¬ ((kd : Nat) : Int) = 4 := ‹_›; omega)]) (by omega)⟩ (by dsimp only; omega) (by ((with_reducible show wk _ _); repeat' (first | exact trivial | exact eqSV_refl _ | (refine eqI ?_) | (refine eqS ?_) | (with_reducible exact rfl) | apply And.intro | exact Nat.zero_lt_one | exact Nat.le_of_ble_eq_true rfl | (with_reducible assumption) | ((show (_ : Int) = _); (try dsimp only); omega) | ((show eqSV _ _); simp [eqSV, isB, bval, *]; done) | rfl)); all_goals first | exact fun b x h => h | exact oks_any caps hcap)
    · have hE := hA1.eq
      rw [List.take_of_length_le (by omega)] at hE
      repeat' (first | ((with_reducible first | show wpS _ _ _ _ | show putD _ _ _ _ | show putW _ _ _ _ | show splitG _ _ _ | show wpQ _ _ _ _ _ _ | show wpD _ _ _ _ _ _ _ | show wpX _ _ _ _ _ _ | show expX _ _ _ _ _ _ | show stepX _ _ _ _); conv => whnf) | ((with_reducible show RetN _ _ _); refine retB fun β => ?_) | ((with_reducible show _ ∧ _); first | (apply And.intro; (· intro h; exfalso; first | omega | (revert h; decide)); intro _) | (apply And.intro; rotate_left; (· intro h; exfalso; first | omega | (revert h; decide)); intro _) | (refine ⟨fun _ => ?_, fun _ => ?_⟩) | (apply And.intro; · kernel_rfl) | (apply And.intro; · (show inK _ _; unfold inK; omega)) | (apply And.intro; · (show (_ : Int) ≤ 9223372036854775807; (try simp only [List.length_append, List.length_drop, List.length_take, List.length_cons, List.length_nil]); omega))) | ((with_reducible show bothX _ _); refine bothI ?_ ?_; conv => whnf) | (with_reducible exact trivial) | ((with_reducible show CallN _ _ _ _ _ _ _ _); refine call_of env_ok rfl 1000 ?_) | ((with_reducible show XopN _ _ _ _ _ _); refine xop_of env_ok rfl 1000 ?_) | ((with_reducible show CallX _ _ _ _ _ _); first | (refine callX_drop (.str ([61] ++ ScP.toksT g L)) (by kernel_rfl) rfl trivial (fun β w hm => ?_) ?_)) | ((with_reducible show OpX _ _ _ _); first | fail) | ((with_reducible show ∃ _ : SV, _); first | fail) | ((with_reducible show ∃ _, _); first | fail))
      · obtain ⟨q1, -, -, q4⟩ := hm.row 0 _ _ rfl
        obtain ⟨p1, -, -, p4⟩ := hm.row 1 _ _ rfl
        have hb := bld_at q1.2 p1.2 (q4 rfl) (p4 rfl)
        rw [hE] at hb
        exact (Tryz.Builder_String_any_k w1.heap.size (β 0) _ w (.inr hb) hm.base_le).mono (fun e w' h => ⟨h.1, h.2.2.1⟩)
      · exact ret fun β w' hm => ⟨rfl, hb1.trans (hm.below.mono hbs)⟩
end Go.Proofs.YtmodjglbjempkaaGreatDoor
namespace Go.Proofs.YtmodjglbjempkaaGreatDoor
open Go.RowKit
open Sym
attribute [local irreducible] Calls Sym.AggEq
structure RxA (g : RfP.Ref → RfP.Ref) (L : List ScP.Tok) (k : Nat) (out : List UInt8) : Prop where
  hk : k ≤ L.length
  eq : out = [61] ++ ScP.toksT g (L.take k)
  len : out.length ≤ 1 + k * 1000
theorem rx_next {g : RfP.Ref → RfP.Ref} {L : List ScP.Tok} {k : Nat} {out : List UInt8} {t : ScP.Tok} {tx : List UInt8} (h : RxA g L k out) (ht : L[k]? = some t) (he : ScP.tokT g t = tx) (hl : tx.length ≤ 1000) : RxA g L (k + 1) (out ++ tx) :=
  ⟨by have := (List.getElem?_eq_some_iff.1 ht).1; omega, by rw [h.eq, ScP.toksT_next ht, he]; simp, by have := h.len; rw [List.length_append]; omega⟩
set_option maxRecDepth 100000 in
set_option maxHeartbeats 8000000 in
theorem rewritten_any (s : List UInt8) (f : FuncId) (caps : List Value) (g : RfP.Ref → RfP.Ref) (w : World) (hs : s.length ≤ 1000) (hw0 : 0 < w.heap.size) (hw : FT w) (he : entersB Tryz.prog f = true) (hcap : ∀ v ∈ caps, v.oneCell' = true)
    (hg : ∀ x, RfP.checkP x = 0 → RfP.checkP (g x) = 0)
    (HG : ∀ (x : RfP.Ref) (w1 : World), RfP.checkP x = 0 → Below w.heap.size w w1 → Calls Tryz.prog f (Value.agg (refC x) :: caps).toArray w1 fun e w' => e = .returned (.agg (refC (g x))) ∧ Below w1.heap.size w1 w') :
    Calls Tryz.prog 18 #[.string (bstr s), .func (.func f) #[] caps.toArray] w fun e w' => e = .returned (.string (bstr (ScP.rewP g s))) ∧ Below w.heap.size w w' := by
  have HS : ∀ w', Below w.heap.size w w' → w'.heap.size ≥ w.heap.size → Calls Tryz.prog 10 #[.string (bstr s)] w' (RScan w' (ScP.scanP s)) := fun w' hb _ => rScan_any s w' (by omega) (hw.below hb)
  have hlen := ScP.scan_len s
  have htx := ScP.scan_text s
  unfold ScP.rewP
  generalize ScP.scanP s = R at *
  obtain ⟨L, er⟩ := R
  dsimp only at hlen htx ⊢
  have harg : (#[.string (bstr s), .func (.func f) #[] caps.toArray] : Array Value) = (SV.dens (fun _ => 0) [.str s, .fn f (caps.map SV.any)]).toArray := by simp [SV.dens, SV.den, dens_any]
  rw [harg]
  have hok : SV.oks 0 [.str s, .fn f (caps.map SV.any)] := ⟨trivial, oks_any caps hcap, trivial⟩
  cases er with
  | some p =>
    rw [if_neg (by simp)]
    refine enter env_ok Tryz.func18 rfl Tryz.results18 Tryz.ntmps18 [] [] [.str s, .fn f (caps.map SV.any)] hok (Nat.le_of_ble_eq_true rfl) w _ 1000 ?_
    repeat' (first | ((with_reducible first | show wpS _ _ _ _ | show putD _ _ _ _ | show putW _ _ _ _ | show splitG _ _ _ | show wpQ _ _ _ _ _ _ | show wpD _ _ _ _ _ _ _ | show wpX _ _ _ _ _ _ | show expX _ _ _ _ _ _ | show stepX _ _ _ _); conv => whnf) | ((with_reducible show RetN _ _ _); refine retB fun β => ?_) | ((with_reducible show _ ∧ _); first | (apply And.intro; (· intro h; exfalso; first | omega | (revert h; decide)); intro _) | (apply And.intro; rotate_left; (· intro h; exfalso; first | omega | (revert h; decide)); intro _) | (refine ⟨fun _ => ?_, fun _ => ?_⟩) | (apply And.intro; · kernel_rfl) | (apply And.intro; · (show inK _ _; unfold inK; omega)) | (apply And.intro; · (show (_ : Int) ≤ 9223372036854775807; (try simp only [List.length_append, List.length_drop, List.length_take, List.length_cons, List.length_nil]); omega))) | ((with_reducible show bothX _ _); refine bothI ?_ ?_; conv => whnf) | (with_reducible exact trivial) | ((with_reducible show CallN _ _ _ _ _ _ _ _); refine call_of env_ok rfl 1000 ?_) | ((with_reducible show XopN _ _ _ _ _ _); refine xop_of env_ok rfl 1000 ?_) | ((with_reducible show CallX _ _ _ _ _ _); first | (refine callSlX (T := Option Addr × Nat) (fun t => .tup [.any (.slice t.1 L.length t.2), .int .i64 (p : Nat)]) (fun t => t.1) (fun _ => toksV L) hw0 (by kernel_rfl) rfl (fun t => ⟨rfl, trivial, trivial⟩) (fun β w hm => (HS w hm.below hm.base_le).mono (fun e w' ⟨a, cap, he, h1, h2, h3⟩ => ⟨h3, (a, cap), he, h1, h2⟩)) (fun t hA => ?_))) | ((with_reducible show OpX _ _ _ _); first | fail) | ((with_reducible show ∃ _ : SV, _); first | fail) | ((with_reducible show ∃ _, _); first | fail))
    rfl
  | none =>
    rw [if_pos rfl]
    refine enter env_ok Tryz.func18 rfl Tryz.results18 Tryz.ntmps18 [] [] [.str s, .fn f (caps.map SV.any)] hok (Nat.le_of_ble_eq_true rfl) w _ 1000 ?_
    repeat' (first | ((with_reducible first | show wpS _ _ _ _ | show putD _ _ _ _ | show putW _ _ _ _ | show splitG _ _ _ | show wpQ _ _ _ _ _ _ | show wpD _ _ _ _ _ _ _ | show wpX _ _ _ _ _ _ | show expX _ _ _ _ _ _ | show stepX _ _ _ _); conv => whnf) | ((with_reducible show RetN _ _ _); refine retB fun β => ?_) | ((with_reducible show _ ∧ _); first | (apply And.intro; (· intro h; exfalso; first | omega | (revert h; decide)); intro _) | (apply And.intro; rotate_left; (· intro h; exfalso; first | omega | (revert h; decide)); intro _) | (refine ⟨fun _ => ?_, fun _ => ?_⟩) | (apply And.intro; · kernel_rfl) | (apply And.intro; · (show inK _ _; unfold inK; omega)) | (apply And.intro; · (show (_ : Int) ≤ 9223372036854775807; (try simp only [List.length_append, List.length_drop, List.length_take, List.length_cons, List.length_nil]); omega))) | ((with_reducible show bothX _ _); refine bothI ?_ ?_; conv => whnf) | (with_reducible exact trivial) | ((with_reducible show CallN _ _ _ _ _ _ _ _); refine call_of env_ok rfl 1000 ?_) | ((with_reducible show XopN _ _ _ _ _ _); refine xop_of env_ok rfl 1000 ?_) | ((with_reducible show CallX _ _ _ _ _ _); first | (refine callSlX (T := Option Addr × Nat) (fun t => .tup [.any (.slice t.1 L.length t.2), .int .i64 (-1)]) (fun t => t.1) (fun _ => toksV L) hw0 (by kernel_rfl) rfl (fun t => ⟨rfl, trivial, trivial⟩) (fun β w hm => (HS w hm.below hm.base_le).mono (fun e w' ⟨a, cap, he, h1, h2, h3⟩ => ⟨h3, (a, cap), he, h1, h2⟩)) (fun t hA => ?_))) | ((with_reducible show OpX _ _ _ _); first | fail) | ((with_reducible show ∃ _ : SV, _); first | (refine ⟨_, ?ok, x_len Tryz.underlying24, ?_⟩; (case ok => exact fun _ _ => trivial))) | ((with_reducible show ∃ _, _); first | fail))
    obtain ⟨a, ca⟩ := t
    dsimp only at hA ⊢
    refine loop env_ok rfl (T := {t : Nat × List UInt8 // RxA g L t.1 t.2}) (fun t => ⟨[(1, .fn f (caps.map .any)), (21, .any (.slice a L.length ca)), (22, .int .i64 (L.length : Nat)), (23, .int .i64 (t.1.1 : Nat)), (7, .str t.1.2)], [(0, false, .blob (SlB a (toksV L)))], 1, 51⟩) (fun t => L.length - t.1.1) ⟨(0, [61]), ⟨Nat.zero_le _, by simp [ScP.toksT], by simp⟩⟩ 1000 [] [] (fun t => by exact Nat.zero_le _) (by ((with_reducible show wk _ _); repeat' (first | exact trivial | exact eqSV_refl _ | (refine eqI ?_) | (refine eqS ?_) | (with_reducible exact rfl) | apply And.intro | exact Nat.zero_lt_one | exact Nat.le_of_ble_eq_true rfl | (with_reducible assumption) | ((show (_ : Int) = _); (try dsimp only); omega) | ((show eqSV _ _); simp [eqSV, isB, bval, *]; done) | rfl)); all_goals first | exact fun b x h => h | exact oks_any caps hcap) (fun t I hI => ?_)
    obtain ⟨⟨k, out⟩, hA1⟩ := t
    dsimp only at hA1 ⊢
    have hk := hA1.hk
    have hbl := hA1.len
    by_cases hlt : k < L.length
    · obtain ⟨tk, htk⟩ : ∃ tk, L[k]? = some tk := ⟨L[k], List.getElem?_eq_getElem hlt⟩
      have hat := tok_at htk
      obtain ⟨ad, rfl⟩ := hA (by intro e; have := hat (fun _ => 0) 0 _ rfl; rw [e] at this; simp at this)
      have hn1 := fun tx h => rx_next (tx := tx) hA1 htk h
      have htl : tk.2.length ≤ 1000 := Nat.le_trans (htx tk (List.mem_of_getElem? htk)) hs
      have HP := fun w => ReadRef_any tk.2 w
      have hxv := RfP.parse_valid tk.2
      have hgl := text_len (hg _ hxv)
      obtain ⟨kd, tx⟩ := tk
      dsimp only [ScP.tokT] at hn1 htl HP hxv hgl
      generalize RfP.parseP tx = y at *
      obtain ⟨x, ee⟩ := y
      dsimp only at hn1 hxv hgl
      have HGx : ∀ w', Below w.heap.size w w' → Calls Tryz.prog f (Value.agg (refC x) :: caps).toArray w' fun e w'' => e = .returned (.agg (refC (g x))) ∧ Below w'.heap.size w' w'' := fun w' h => HG x w' hxv h
      have hgv := hg x hxv
      clear HG hg
      generalize g x = gx at *
      repeat' (first | ((with_reducible first | show wpS _ _ _ _ | show putD _ _ _ _ | show putW _ _ _ _ | show splitG _ _ _ | show wpQ _ _ _ _ _ _ | show wpD _ _ _ _ _ _ _ | show wpX _ _ _ _ _ _ | show expX _ _ _ _ _ _ | show stepX _ _ _ _); conv => whnf) | ((with_reducible show RetN _ _ _); refine retB fun β => ?_) | ((with_reducible show _ ∧ _); first | (apply And.intro; (· intro h; exfalso; first | omega | (revert h; decide)); intro _) | (apply And.intro; rotate_left; (· intro h; exfalso; first | omega | (revert h; decide)); intro _) | (refine ⟨fun _ => ?_, fun _ => ?_⟩) | (apply And.intro; · kernel_rfl) | (apply And.intro; · (show inK _ _; unfold inK; omega)) | (apply And.intro; · (show (_ : Int) ≤ 9223372036854775807; (try simp only [List.length_append, List.length_drop, List.length_take, List.length_cons, List.length_nil]); omega))) | ((with_reducible show bothX _ _); refine bothI ?_ ?_; conv => whnf) | (with_reducible exact trivial) | ((with_reducible show CallN _ _ _ _ _ _ _ _); refine call_of env_ok rfl 1000 ?_) | ((with_reducible show XopN _ _ _ _ _ _); refine xop_of env_ok rfl 1000 ?_) | ((with_reducible show CallX _ _ _ _ _ _); first | (refine callX (.tup [.agg (rF x), .int .i64 ee]) (by kernel_rfl) rfl (⟨rS_ok x _, trivial, trivial⟩) (fun β w hm => HP w) ?_) | (refine callX (rS gx) he rfl (rS_ok gx _) (fun β w hm => (by have := HGx w hm.below; simpa [SV.dens, SV.den, dens_any, refC] using this)) ?_) | (refine callX (.str (RfP.textP gx)) (by kernel_rfl) rfl (trivial) (fun β w hm => RefText_any gx w hgv) ?_)) | ((with_reducible show OpX _ _ _ _); first | fail) | ((with_reducible show ∃ _ : SV, _); first | (refine ⟨_, ?ok, x_index (j := k) rfl Tryz.underlying24 (fun w => Tryz.sizeOf33 w) hlt, ?_⟩; (case ok => exact fun _ _ => rfl)) | (refine ⟨.agg (tokF (kd, tx)), fun _ _ => ⟨trivial, trivial, trivial⟩, x_loadBs 0 (tokF (kd, tx)) (fun w => Tryz.isAgg33 w) (fun w => Tryz.sizeOf33 w) rfl hat, ?_⟩)) | ((with_reducible show ∃ _, _); first | (refine ⟨_, aggRef gx x, ?_⟩)))
      · refine hI _ ⟨(k + 1, out ++ RfP.textP gx), hn1 (RfP.textP gx) (by rw [if_pos (by have h4 : ((kd : Nat) : Int) = 4 := ‹_›; omega), if_neg (by simpa using ‹(!RfP.eqR gx x) = true›)]) (by omega)⟩ (by dsimp only; omega) (by ((with_reducible show wk _ _); repeat' (first | exact trivial | exact eqSV_refl _ | (refine eqI ?_) | (refine eqS ?_) | (with_reducible exact rfl) | apply And.intro | exact Nat.zero_lt_one | exact Nat.le_of_ble_eq_true rfl | (with_reducible assumption) | ((show (_ : Int) = _); (try dsimp only); omega) | ((show eqSV _ _); simp [eqSV, isB, bval, *]; done) | rfl)); all_goals first | exact fun b x h => h | exact oks_any caps hcap)
      · refine hI _ ⟨(k + 1, out ++ tx), hn1 tx (by rw [if_pos (by have h4 : ((kd : Nat) : Int) = 4 := ‹_›; omega), if_pos (by simpa using ‹(!RfP.eqR gx x) = false›)]) (by omega)⟩ (by dsimp only; omega) (by ((with_reducible show wk _ _); repeat' (first | exact trivial | exact eqSV_refl _ | (refine eqI ?_) | (refine eqS ?_) | (with_reducible exact rfl) | apply And.intro | exact Nat.zero_lt_one | exact Nat.le_of_ble_eq_true rfl | (with_reducible assumption) | ((show (_ : Int) = _); (try dsimp only); omega) | ((show eqSV _ _); simp [eqSV, isB, bval, *]; done) | rfl)); all_goals first | exact fun b x h => h | exact oks_any caps hcap)
      · refine hI _ ⟨(k + 1, out ++ tx), hn1 tx (by rw [if_neg (by have h4 : ¬ ((kd : Nat) : Int) = 4 := ‹_›; omega)]) (by omega)⟩ (by dsimp only; omega) (by ((with_reducible show wk _ _); repeat' (first | exact trivial | exact eqSV_refl _ | (refine eqI ?_) | (refine eqS ?_) | (with_reducible exact rfl) | apply And.intro | exact Nat.zero_lt_one | exact Nat.le_of_ble_eq_true rfl | (with_reducible assumption) | ((show (_ : Int) = _); (try dsimp only); omega) | ((show eqSV _ _); simp [eqSV, isB, bval, *]; done) | rfl)); all_goals first | exact fun b x h => h | exact oks_any caps hcap)
    · have hE := hA1.eq
      rw [List.take_of_length_le (by omega)] at hE
      rw [← hE]
      repeat' (first | ((with_reducible first | show wpS _ _ _ _ | show putD _ _ _ _ | show putW _ _ _ _ | show splitG _ _ _ | show wpQ _ _ _ _ _ _ | show wpD _ _ _ _ _ _ _ | show wpX _ _ _ _ _ _ | show expX _ _ _ _ _ _ | show stepX _ _ _ _); conv => whnf) | ((with_reducible show RetN _ _ _); refine retB fun β => ?_) | ((with_reducible show _ ∧ _); first | (apply And.intro; (· intro h; exfalso; first | omega | (revert h; decide)); intro _) | (apply And.intro; rotate_left; (· intro h; exfalso; first | omega | (revert h; decide)); intro _) | (refine ⟨fun _ => ?_, fun _ => ?_⟩) | (apply And.intro; · kernel_rfl) | (apply And.intro; · (show inK _ _; unfold inK; omega)) | (apply And.intro; · (show (_ : Int) ≤ 9223372036854775807; (try simp only [List.length_append, List.length_drop, List.length_take, List.length_cons, List.length_nil]); omega))) | ((with_reducible show bothX _ _); refine bothI ?_ ?_; conv => whnf) | (with_reducible exact trivial) | ((with_reducible show CallN _ _ _ _ _ _ _ _); refine call_of env_ok rfl 1000 ?_) | ((with_reducible show XopN _ _ _ _ _ _); refine xop_of env_ok rfl 1000 ?_) | ((with_reducible show CallX _ _ _ _ _ _); first | fail) | ((with_reducible show OpX _ _ _ _); first | fail) | ((with_reducible show ∃ _ : SV, _); first | fail) | ((with_reducible show ∃ _, _); first | fail))
      rfl
end Go.Proofs.YtmodjglbjempkaaGreatDoor
