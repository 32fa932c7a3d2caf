/- The law's walk, its last part (loops 6 to 9): what another program compressed is read. -/
import Derived.Test.YtefklhjjhcobmaaDoorSqO1
import Derived.Test.YtefklhjjhcobmaaDoorSqLaw
namespace Go.Proofs.YtefklhjjhcobmaaDoor
open Go.RowKit
theorem mod_ex (a b : Int) (w : World) (h1 : 1 ≤ b) (h2 : b ≤ 1000000000000) :
    Calls Tryd.prog 9 #[.int .i64 a, .int .i64 b] w fun e w' => ∃ q : Nat, (q : Int) < b ∧ e = .returned (.int .i64 (q : Int)) ∧ w = w' :=
  (mod_any a b w h1 h2).mono fun e w' ⟨he, hw⟩ => ⟨(a % b).toNat, by have := Int.emod_lt_of_pos a (show 0 < b by omega); have := Int.emod_nonneg a (show b ≠ 0 by omega); omega, by rw [he]; congr 2; have := Int.emod_nonneg a (show b ≠ 0 by omega); omega, hw⟩
def tkC (t : SqP.Tok) : List Value := [.int .i64 (t.1 : Int), .int .i64 (t.2.1 : Int), .int .i64 (t.2.2.1 : Int), .int .i64 (t.2.2.2 : Int)]
def tksC (ts : List SqP.Tok) : List Value := ts.flatMap tkC
theorem tksC_snoc (ts : List SqP.Tok) (t : SqP.Tok) : tksC (ts ++ [t]) = tksC ts ++ tkC t := by unfold tksC; rw [List.flatMap_append]; simp
theorem tksC_len (ts : List SqP.Tok) : (tksC ts).length = ts.length * 4 := by
  induction ts with
  | nil => rfl
  | cons t r ih =>
    show (tkC t ++ tksC r).length = _
    rw [List.length_append, ih, List.length_cons]; simp [tkC]; omega
theorem cell4 (w : World) (a b c d : Value) (t : TypeId) : ∀ j u, [a, b, c, d][j]? = some u → (w.alloc (.cells #[a, b, c, d] t)).cell? ((⟨w.heap.size, 0, none⟩ : Addr).add j) = some u := by
  intro j u h
  match j with
  | 0 => obtain rfl : a = u := by simpa using h
         simp [Addr.add]
  | 1 => obtain rfl : b = u := by simpa using h
         simp [Addr.add]
  | 2 => obtain rfl : c = u := by simpa using h
         simp [Addr.add]
  | 3 => obtain rfl : d = u := by simpa using h
         simp [Addr.add]
  | j + 4 => simp at h
theorem tokInfo : (Tryd.prog.info? 33).map (fun i => (i.zero, i.size, i.bytes)) = some (some (.agg #[.int .i64 0, .int .i64 0, .int .i64 0, .int .i64 0]), 4, 32) := by kernel_rfl
def has (ts : List SqP.Tok) (s : Nat) : Bool := ts.any fun t => t.1 == s
def marks (v : Nat) (ts : List SqP.Tok) : List Nat := (List.range 272).map fun s => if has ts s then v else 0
def nUsed (ts : List SqP.Tok) : Nat := ((List.range 272).filter (has ts)).length
theorem has_snoc (ts : List SqP.Tok) (t : SqP.Tok) (s : Nat) : has (ts ++ [t]) s = (has ts s || t.1 == s) := by simp [has]
theorem has_old (ts : List SqP.Tok) (t : SqP.Tok) (h : has ts t.1 = true) : has (ts ++ [t]) = has ts := by
  funext s
  rw [has_snoc]
  by_cases e : t.1 = s
  · subst e; rw [h]; rfl
  · rw [beq_eq_false_iff_ne.2 e, Bool.or_false]
theorem filter_new (p q : Nat → Bool) (x : Nat) (hx : p x = false) (h : ∀ s, q s = (p s || x == s)) : ∀ n, ((List.range n).filter q).length = ((List.range n).filter p).length + if x < n then 1 else 0
  | 0 => rfl
  | n + 1 => by
    have ih := filter_new p q x hx h n
    rw [List.range_succ, List.filter_append, List.filter_append, List.length_append, List.length_append, ih]
    by_cases e : x = n
    · subst e
      rw [if_neg (by omega), if_pos (by omega), List.filter_cons_of_pos (by rw [h]; simp), List.filter_cons_of_neg (by rw [hx]; simp)]; rfl
    · have e2 : q n = p n := by rw [h, beq_eq_false_iff_ne.2 e, Bool.or_false]
      have e3 : ([n].filter q).length = ([n].filter p).length := by simp [List.filter, e2]
      rw [e3]
      by_cases h2 : x < n
      · rw [if_pos h2, if_pos (by omega)]; omega
      · rw [if_neg h2, if_neg (by omega)]; omega
theorem nUsed_nil : nUsed [] = 0 := by
  unfold nUsed
  rw [List.length_eq_zero_iff, List.filter_eq_nil_iff]
  intro s _
  simp [has]
theorem nUsed_new (ts : List SqP.Tok) (t : SqP.Tok) (ht : t.1 < 272) (h : has ts t.1 = false) : nUsed (ts ++ [t]) = nUsed ts + 1 := by
  unfold nUsed
  rw [filter_new (has ts) (has (ts ++ [t])) t.1 h (fun s => has_snoc ts t s), if_pos ht]
theorem marks_len (v : Nat) (ts : List SqP.Tok) : (marks v ts).length = 272 := by simp [marks]
set_option maxRecDepth 100000 in
theorem marks_nil : zeros272 = ints (marks 1 []) := by
  unfold zeros272 marks
  congr 1
theorem marks_getD (v : Nat) (ts : List SqP.Tok) (s : Nat) (hs : s < 272) : (marks v ts).getD s 0 = if has ts s then v else 0 := by
  unfold marks; rw [List.getD_eq_getElem?_getD, List.getElem?_map, List.getElem?_range hs]; rfl
theorem ints_set (f : Nat → Nat) (k v : Nat) : (ints ((List.range 272).map f)).setIfInBounds k (.int .i64 (v : Int)) = ints ((List.range 272).map fun i => if i = k then v else f i) := by
  apply Array.ext_getElem?
  intro i
  simp only [Array.getElem?_setIfInBounds]
  by_cases h : i < 272
  · by_cases e : k = i
    · subst e; simp [ints, h]
    · have e' : ¬ i = k := fun x => e x.symm
      simp [ints, h, e, e']
  · by_cases e : k = i
    · subst e; simp [ints, h]
    · simp [ints, h, e]
theorem range_map_ext {f g : Nat → Nat} (h : ∀ i, i < 272 → f i = g i) : (List.range 272).map f = (List.range 272).map g :=
  List.map_congr_left (fun i hi => h i (by simpa using hi))
theorem marks_new (ts : List SqP.Tok) (t : SqP.Tok) : (ints (marks 1 ts)).setIfInBounds t.1 (.int .i64 1) = ints (marks 1 (ts ++ [t])) := by
  unfold marks
  rw [show (Value.int .i64 1) = .int .i64 ((1 : Nat) : Int) from rfl, ints_set]
  congr 1
  refine range_map_ext (fun i hi => ?_)
  rw [has_snoc]
  by_cases e : i = t.1
  · subst e; rw [if_pos rfl]; simp
  · rw [if_neg e, beq_eq_false_iff_ne.2 (fun x => e x.symm), Bool.or_false]
theorem take_next (ts : List SqP.Tok) (j : Nat) (hj : j < ts.length) : ts.take (j + 1) = ts.take j ++ [ts[j]] := List.take_succ_eq_append_getElem hj
/-- the tokens' cells -/
def TokAt (ts : List SqP.Tok) (ga : Option Addr) (w : World) : Prop :=
  0 < ts.length → ∃ g, ga = some ⟨g, 0, none⟩ ∧ g < w.heap.size ∧ ∀ j (h : j < ts.length), w.cell? ⟨g, j * 4, none⟩ = some (.int .i64 (ts[j].1 : Int)) ∧ w.cell? ⟨g, j * 4 + 1, none⟩ = some (.int .i64 (ts[j].2.1 : Int)) ∧ w.cell? ⟨g, j * 4 + 2, none⟩ = some (.int .i64 (ts[j].2.2.1 : Int)) ∧ w.cell? ⟨g, j * 4 + 3, none⟩ = some (.int .i64 (ts[j].2.2.2 : Int))
theorem tksC_get (ts : List SqP.Tok) : ∀ (j : Nat) (h : j < ts.length) (f : Nat), f < 4 → (tksC ts)[j * 4 + f]? = (tkC ts[j])[f]? := by
  induction ts with
  | nil => intro j h; simp at h
  | cons t r ih =>
    intro j h f hf
    show (tkC t ++ tksC r)[j * 4 + f]? = _
    cases j with
    | zero => rw [Nat.zero_mul, Nat.zero_add, List.getElem?_append_left (by simp [tkC]; omega)]; rfl
    | succ j =>
      rw [List.getElem?_append_right (by simp [tkC]; omega)]
      have := ih j (by simpa using h) f hf
      simp only [List.getElem_cons_succ]
      rw [← this]
      congr 1
      simp [tkC]; omega
theorem TokAt.of {ts : List SqP.Tok} {ga : Option Addr} {gc base : Nat} {e : TypeId} {w : World} (h : w.ownsRow base e 4 (.slice ga ts.length gc) ts.length (tksC ts)) : TokAt ts ga w := fun h0 => by
  rcases h.2 with ⟨_, h2⟩ | ⟨g, cap, cur, h1, hb, hg, hc, _, hs, ht⟩
  · omega
  · injection h1 with h1 h2 h3
    have hcell : ∀ i, i < ts.length * 4 → w.cell? ⟨g, i, none⟩ = (tksC ts)[i]? := fun i hi => by
      rw [cell_of_row _ _ _ _ _ _ hg, ← ht, List.getElem?_take, if_pos (by omega), Array.getElem?_toList]
    refine ⟨g, h1, ?_, fun j hj => ?_⟩
    · rcases Nat.lt_or_ge g w.heap.size with h' | h'
      · exact h'
      · rw [Array.getElem?_eq_none h'] at hg; cases hg
    · have hf : ∀ f, f < 4 → w.cell? ⟨g, j * 4 + f, none⟩ = (tkC ts[j])[f]? := fun f hf => by
        rw [hcell _ (by omega), tksC_get ts j hj f hf]
      exact ⟨hf 0 (by omega), hf 1 (by omega), hf 2 (by omega), hf 3 (by omega)⟩
theorem TokAt.below {ts : List SqP.Tok} {ga : Option Addr} {w w' : World} (h : TokAt ts ga w) (k : Below w.heap.size w w') : TokAt ts ga w' := fun h0 => by
  obtain ⟨g, h1, h2, h3⟩ := h h0
  refine ⟨g, h1, Nat.lt_of_lt_of_le h2 k.size, fun j hj => ?_⟩
  obtain ⟨a, b, c, d⟩ := h3 j hj
  exact ⟨(k.cell (p := ⟨g, j * 4, none⟩) h2).trans a, (k.cell (p := ⟨g, j * 4 + 1, none⟩) h2).trans b, (k.cell (p := ⟨g, j * 4 + 2, none⟩) h2).trans c, (k.cell (p := ⟨g, j * 4 + 3, none⟩) h2).trans d⟩
theorem valid_lt : ∀ (ts : List SqP.Tok) (out : List UInt8), SqP.Valid out ts → ∀ t ∈ ts, t.1 < 272
  | [], _, _, t, ht => by cases ht
  | u :: r, out, h, t, ht => by
    rcases List.mem_cons.1 ht with rfl | ht
    · rcases h.1 with h1 | h1 <;> omega
    · exact valid_lt r _ h.2 t ht
theorem nUsed_le (ts : List SqP.Tok) : nUsed ts ≤ 272 := by
  unfold nUsed
  have := List.length_filter_le (has ts) (List.range 272)
  simpa using this
theorem marks_val (n : Nat) (ts : List SqP.Tok) (s : Nat) : (marks n ts).getD s 0 = 0 ∨ (marks n ts).getD s 0 = n := by
  by_cases hs : s < 272
  · rw [marks_getD _ _ _ hs]
    by_cases h : has ts s = true
    · rw [if_pos h]; exact .inr rfl
    · rw [if_neg h]; exact .inl rfl
  · rw [List.getD_eq_getElem?_getD, List.getElem?_eq_none (by rw [marks_len]; omega)]; exact .inl rfl
theorem marks_one {n : Nat} {ts : List SqP.Tok} (h1 : 1 ≤ n) (h2 : n ≤ 15) (hu : nUsed ts ≤ 2 ^ n) : SqP.OneLen (marks n ts) n := by
  refine ⟨marks_len _ _, h1, h2, marks_val n ts, ?_⟩
  have e : SqP.cnt (marks n ts) n = nUsed ts := by
    unfold SqP.cnt SqP.syms SqP.pre nUsed
    rw [marks_len]
    congr 1
    apply List.filter_congr
    intro s hs
    rw [marks_getD _ _ _ (by simpa using hs)]
    by_cases h : has ts s = true
    · rw [if_pos h, h]; simp
    · rw [if_neg h]
      have h' : has ts s = false := by simpa using h
      rw [h']
      simp; omega
  rw [e]; exact hu
def midL (n s : Nat) (ts : List SqP.Tok) : List Nat := (List.range 272).map fun i => if has ts i then (if i < s then n else 1) else 0
def codeL (n s : Nat) (ts : List SqP.Tok) : List Nat := (List.range 272).map fun i => if has ts i = true ∧ i < s then (SqP.pre (marks n ts) n i).length else 0
theorem midL_zero (n : Nat) (ts : List SqP.Tok) : midL n 0 ts = marks 1 ts := by
  unfold midL marks; exact range_map_ext (fun i _ => by rw [if_neg (Nat.not_lt_zero i)])
theorem midL_end (n : Nat) (ts : List SqP.Tok) : midL n 272 ts = marks n ts := by
  unfold midL marks; exact range_map_ext (fun i hi => by rw [if_pos hi])
theorem midL_set (n s : Nat) (ts : List SqP.Tok) (h : has ts s = true) : (ints (midL n s ts)).setIfInBounds s (.int .i64 (n : Int)) = ints (midL n (s + 1) ts) := by
  unfold midL
  rw [ints_set]
  congr 1
  refine range_map_ext (fun i hi => ?_)
  by_cases e : i = s
  · subst e; rw [if_pos rfl, if_pos h, if_pos (by omega)]
  · rw [if_neg e]
    by_cases h2 : i < s
    · rw [if_pos h2, if_pos (show i < s + 1 by omega)]
    · rw [if_neg h2, if_neg (show ¬ i < s + 1 by omega)]
theorem midL_skip (n s : Nat) (ts : List SqP.Tok) (h : ¬ has ts s = true) : midL n s ts = midL n (s + 1) ts := by
  unfold midL
  refine range_map_ext (fun i hi => ?_)
  by_cases e : i = s
  · subst e; rw [if_neg h, if_neg h]
  · by_cases h2 : i < s
    · rw [if_pos h2, if_pos (show i < s + 1 by omega)]
    · rw [if_neg h2, if_neg (show ¬ i < s + 1 by omega)]
theorem midL_get (n s : Nat) (ts : List SqP.Tok) (hs : s < 272) : (midL n s ts).getD s 0 = if has ts s then 1 else 0 := by
  unfold midL; rw [List.getD_eq_getElem?_getD, List.getElem?_map, List.getElem?_range hs]
  show (if has ts s = true then (if s < s then n else 1) else 0) = _
  rw [if_neg (Nat.lt_irrefl s)]
theorem midL_len (n s : Nat) (ts : List SqP.Tok) : (midL n s ts).length = 272 := by simp [midL]
theorem codeL_len (n s : Nat) (ts : List SqP.Tok) : (codeL n s ts).length = 272 := by simp [codeL]
set_option maxRecDepth 100000 in
theorem codeL_zero (n : Nat) (ts : List SqP.Tok) : zeros272 = ints (codeL n 0 ts) := by
  unfold zeros272 codeL
  congr 1
  have e : (fun i => if has ts i = true ∧ i < 0 then (SqP.pre (marks n ts) n i).length else 0) = fun _ => 0 := by funext i; rw [if_neg (by omega)]
  rw [e, List.map_const', List.length_range]
theorem codeL_set (n s : Nat) (ts : List SqP.Tok) (h : has ts s = true) : (ints (codeL n s ts)).setIfInBounds s (.int .i64 ((SqP.pre (marks n ts) n s).length : Int)) = ints (codeL n (s + 1) ts) := by
  unfold codeL
  rw [ints_set]
  congr 1
  refine range_map_ext (fun i hi => ?_)
  by_cases e : i = s
  · subst e; rw [if_pos rfl, if_pos ⟨h, by omega⟩]
  · rw [if_neg e]
    by_cases h2 : has ts i = true ∧ i < s
    · rw [if_pos h2, if_pos ⟨h2.1, by omega⟩]
    · rw [if_neg h2, if_neg (fun x => h2 ⟨x.1, by omega⟩)]
theorem codeL_skip (n s : Nat) (ts : List SqP.Tok) (h : ¬ has ts s = true) : codeL n s ts = codeL n (s + 1) ts := by
  unfold codeL
  refine range_map_ext (fun i hi => ?_)
  by_cases h2 : has ts i = true ∧ i < s
  · rw [if_pos h2, if_pos ⟨h2.1, by omega⟩]
  · rw [if_neg h2, if_neg (fun x => h2 ⟨x.1, by
      have : i ≠ s := fun e => h (by rw [← e]; exact x.1)
      omega⟩)]
theorem codeL_get (n s : Nat) (ts : List SqP.Tok) (hs : s < 272) (h : has ts s = true) : (codeL n 272 ts).getD s 0 = (SqP.pre (marks n ts) n s).length := by
  unfold codeL; rw [List.getD_eq_getElem?_getD, List.getElem?_map, List.getElem?_range hs]
  show (if has ts s = true ∧ s < 272 then _ else 0) = _
  rw [if_pos ⟨h, hs⟩]
theorem valid_bd : ∀ (ts : List SqP.Tok) (out : List UInt8), SqP.Valid out ts → ∀ t ∈ ts, t.1 < 256 ∨ (256 ≤ t.1 ∧ t.2.1 < 65536 ∧ t.2.2.1 ≤ 15 ∧ t.2.2.2 < 32768)
  | [], _, _, t, ht => by cases ht
  | u :: r, out, h, t, ht => by
    rcases List.mem_cons.1 ht with rfl | ht
    · rcases h.1 with h1 | ⟨h0, h1, h2, h3, h4, h5⟩
      · exact .inl h1
      · have hx := (SqP.base_bd t.1 h1 (by omega)).2.2
        have hp : 2 ^ SqP.extra t.1 ≤ 2 ^ 8 := Nat.pow_le_pow_right (by omega) hx
        exact .inr ⟨h0, by omega, by omega, h5⟩
    · exact valid_bd r _ h.2 t ht
def boxLen (w : World) (b : Nat) : Nat := match w.cell? ⟨b, 0, none⟩ with | some (.string s) => s.size | _ => 0
theorem boxLen_box {w : World} {b : Nat} {T : List UInt8} (h : Box w b T) : boxLen w b = T.length := by
  unfold boxLen
  rw [Row.cell h 0]
  rfl
def Digits (T : List UInt8) : Prop := ∀ c ∈ T, c = 48 ∨ c = 49
theorem Digits.app {A B : List UInt8} (h : Digits A) (k : Digits B) : Digits (A ++ B) := fun c hc => by
  rcases List.mem_append.1 hc with h1 | h1
  · exact h c h1
  · exact k c h1
theorem binS_digits : ∀ (n v : Nat), Digits (SqP.binS n v)
  | 0, _ => fun _ hc => by cases hc
  | n + 1, v => (binS_digits n (v / 2)).app (fun c hc => by
      obtain rfl : c = SqP.dig v := by simpa using hc
      unfold SqP.dig; split
      · exact .inl rfl
      · exact .inr rfl)
theorem flat_digits {α : Type} (f : α → List UInt8) (h : ∀ a, Digits (f a)) : ∀ l : List α, Digits (l.flatMap f)
  | [] => fun _ hc => by cases hc
  | a :: l => by rw [List.flatMap_cons]; exact (h a).app (flat_digits f h l)
theorem tokT_digits (L : List Nat) (n : Nat) (t : SqP.Tok) : Digits (SqP.tokT L n t) := by
  unfold SqP.tokT
  refine (binS_digits _ _).app ?_
  split
  · exact (binS_digits _ _).app (binS_digits _ _)
  · exact fun _ hc => by cases hc
theorem rep_digits (z : Nat) : Digits (List.replicate z 48) := fun _ hc => .inl (List.eq_of_mem_replicate hc)
theorem digit_at {T : List UInt8} (h : Digits T) (p : Nat) (hp : p < T.length) : (T.getD p 0).toNat = 48 + SqP.dg T p := by
  have hm : T.getD p 0 ∈ T := by rw [List.getD_eq_getElem?_getD, List.getElem?_eq_getElem hp]; exact List.getElem_mem hp
  unfold SqP.dg
  rcases h _ hm with e | e
  · rw [if_neg (by rw [e]; decide), e]; rfl
  · rw [if_pos e, e]; rfl
theorem bstr_at (T : List UInt8) (p : Nat) (hp : p < (bstr T).size) : (bstr T)[p] = T.getD p 0 := by
  rw [List.getD_eq_getElem?_getD, List.getElem?_eq_getElem (by simpa [bstr_size] using hp)]
  rfl
theorem conv5 {P : Program} {src dst : TypeId} (hs : P.underlying src = some (.slice 5)) (he : P.underlying 5 = some (.int .u8)) (hd : P.underlying dst = some .string) (w : World) (c d e : Nat) (hc : c < 256) (hd2 : d < 256) (he2 : e < 256) :
    (convert src dst (.slice (some ⟨w.heap.size, 0, none⟩) 5 5)).run P (w.alloc (.cells #[.int .u8 0, .int .u8 (c : Int), .int .u8 (d : Int), .int .u8 (e : Int), .int .u8 1] 5)) = .ok (.string (bstr [0, UInt8.ofNat c, UInt8.ofNat d, UInt8.ofNat e, 1])) (w.alloc (.cells #[.int .u8 0, .int .u8 (c : Int), .int .u8 (d : Int), .int .u8 (e : Int), .int .u8 1] 5)) := by
  refine run_convert_bytes_back _ src dst 5 ⟨w.heap.size, 0, none⟩ 5 [0, UInt8.ofNat c, UInt8.ofNat d, UInt8.ofNat e, 1] hs he hd (fun j hj => ?_)
  have hj2 : j = 0 ∨ j = 1 ∨ j = 2 ∨ j = 3 ∨ j = 4 := by simp at hj; omega
  rcases hj2 with rfl | rfl | rfl | rfl | rfl
  · simp [Addr.add]
  · simp [Addr.add, Nat.mod_eq_of_lt hc]
  · simp [Addr.add, Nat.mod_eq_of_lt hd2]
  · simp [Addr.add, Nat.mod_eq_of_lt he2]
  · simp [Addr.add]
def ArgAt (la : Option Addr) (n : Nat) (z : Nat → Int) (w : World) : Prop := 0 < n → ∃ g o, la = some ⟨g, o, none⟩ ∧ g < w.heap.size ∧ ∀ i, i < n → w.cell? ⟨g, o + i, none⟩ = some (.int .i64 (z i))
/-- the code that follows, from the region n on -/
def firstReg : Code → Option Nat
  | .region k _ _ => some k
  | .seq a b => match firstReg a with
    | some k => some k
    | none => firstReg b
  | .loop c => firstReg c
  | .block _ c => firstReg c
  | .scope c => firstReg c
  | _ => none
def restOf (n : Nat) : Code → Option Code
  | .seq a b => if firstReg b = some n then some b else match restOf n a with
    | some c => some c
    | none => restOf n b
  | .block _ c => restOf n c
  | .scope c => restOf n c
  | _ => none
def OthersPost (w : World) (e : Ending) (w' : World) : Prop := e = .returned (.bool true) ∧ Below w.heap.size w w'
set_option maxRecDepth 100000 in
set_option maxHeartbeats 8000000 in
theorem others_3 {u0 u1 u5 u6 u7 u8 u9 u10 u11 u12 u13 u14 u15 u16 u21 u22 u23 u24 u25 u26 u27 u28 u29 u30 u31 u32 u33 u34 u35 u36 u37 u38 u39 u40 u41 u42 u43 u44 u45 u46 u47 u48 u49 u50 u51 u52 u53 u54 u55 u56 u57 u58 u59 u60 u61 u62 u63 u64 u65 u66 u67 u68 u69 u70 u71 u72 u73 u74 u75 u76 u77 u78 u79 u80 u81 u82 u83 u84 u85 u86 u87 u88 u89 u90 u91 u92 u93 u94 u95 u96 u97 u98 u99 u100 u101 u102 u103 u104 u105 u106 u107 u108 u109 u110 u111 u112 u113 u114 u115 u116 u117 u118 u119 u120 u121 u122 u123 u124 u125 u126 u127 u128 u129 u130 u131 u132 u133 u134 u135 u136 u137 u138 u139 u140 u141 u142 u143 u144 u145 u146 u147 u148 u149 u150 u151 u152 u153 u154 u155 u156 u157 u158 u159 u160 u161 u162 u163 u164 u165 u166 u167 u168 u169 u170 u171 u172 u173 u174 u175 u176 u177 u178 u179 u180 u181 u182 u183 u184 u185 u186 u187 u188 u189 u190 u191 u192 u193 u194 u195 u196 u197 u198 u199 u200 u201 u202 u203 u204 u205 u206 u207 u208 u209 u210 u211 u212 u213 u214 u215 u216 u217 u218 u219 u220 u221 u222 u223 u224 u225 u226 u227 u228 u229 u230 u231 u232 u233 u234 u235 u236 u237 u238 u239 u240 u241 u242 u243 u244 u245 u246 u247 u248 u249 u250 u251 u252 u253 u254 u255 u256 u257 u258 u259 u260 u261 u262 u263 u264 u265 u266 u267 u268 u269 u270 u271 u272 u273 u274 u275 u276 u277 u278 u279 u280 : Value} (w : World) (ts : List SqP.Tok) (out : List UInt8) (ga : Option Addr) (gc : Nat) (W1 : World) (HB : Bx (Bases w)) (HBELW : Bx (Below w.heap.size w W1)) (HTK : Bx (TokAt ts ga W1)) (HLT : Bx (∀ t ∈ ts, t.1 < 272)) (HVAL : Bx (SqP.Valid [] ts)) (HOUT : Bx (SqP.dec ts = out)) (htl60 : ts.length ≤ 60) (hol : out.length ≤ 2660) (n : Nat) (hn1 : 1 ≤ n) (hn6 : n ≤ 6) (W2 wr : World) (hwl : W1.heap.size < W2.heap.size) (HON : Bx (SqP.OneLen (marks n ts) n)) (HRC : Bx (Row wr (W2.heap.size + 1) 3 (ints (codeL n 272 ts)))) (HBX : Bx (Box wr W2.heap.size (SqP.lensT (marks n ts) 272))) (HB1 : Bx (Below W1.heap.size W1 wr)) :
    Code.wp Tryd.prog ((Tryd.f5.body.bind (restOf 47)).getD .skip) (bodyPost Tryd.prog Tryd.f5 (OthersPost w)) ⟨#[u0, u1, .bool false, .slice ga ts.length gc, .string (bstr out), u5, u6, u7, u8, u9, u10, u11, u12, u13, u14, u15, u16, .int .i64 (n : Int), .pointer (some ⟨W2.heap.size, 0, none⟩), .func (Fn.func 11) #[] #[.pointer (some ⟨W2.heap.size, 0, none⟩)], .slice (some ⟨W2.heap.size + 1, 0, none⟩) 272 272, u21, u22, u23, u24, u25, u26, u27, u28, u29, u30, u31, u32, u33, u34, u35, u36, u37, u38, u39, u40, u41, u42, u43, u44, u45, u46, u47, u48, u49, u50, u51, u52, u53, u54, u55, u56, u57, u58, u59, u60, u61, u62, u63, u64, u65, u66, u67, u68, u69, u70, u71, u72, u73, u74, u75, u76, u77, u78, u79, u80, u81, u82, u83, u84, u85, u86, u87, u88, u89, u90, u91, u92, u93, u94, u95, u96, u97, u98, u99, u100, u101, u102, u103, u104, u105, u106, u107, u108, u109, u110, u111, u112, u113, u114, u115, u116, u117, u118, u119, u120, u121, u122, u123, u124, u125, u126, u127, u128, u129, u130, u131, u132, u133, u134, u135, u136, u137, u138, u139, u140, u141, u142, u143, u144, u145, u146, u147, u148, u149, u150, u151, u152, u153, u154, u155, u156, u157, u158, u159, u160, u161, u162, u163, u164, u165, u166, u167, u168, u169, u170, u171, u172, u173, u174, u175, u176, u177, u178, u179, u180, u181, u182, u183, u184, u185, u186, u187, u188, u189, u190, u191, u192, u193, u194, u195, u196, u197, u198, u199, u200, u201, u202, u203, u204, u205, u206, u207, u208, u209, u210, u211, u212, u213, u214, u215, u216, u217, u218, u219, u220, u221, u222, u223, u224, u225, u226, u227, u228, u229, u230, u231, u232, u233, u234, u235, u236, u237, u238, u239, u240, u241, u242, u243, u244, u245, u246, u247, u248, u249, u250, u251, u252, u253, u254, u255, u256, u257, u258, u259, u260, u261, u262, u263, u264, u265, u266, u267, u268, u269, u270, u271, u272, u273, u274, u275, u276, u277, u278, u279, u280], []⟩ wr := by
  conv => arg 2; whnf
  have hosz : (bstr out).size = out.length := bstr_size out
  have HHAS := Bx.mk (fun t (h : t ∈ ts) => (show has ts t.1 = true by unfold has; rw [List.any_eq_true]; exact ⟨t, h, by simp⟩))
  go_wp2
  go_loopw [189] (fun iv wx => ∃ j : Nat, j ≤ ts.length ∧ iv = .int .i64 (j : Int) ∧ Row wx (W2.heap.size + 1) 3 (ints (codeL n 272 ts)) ∧ Box wx W2.heap.size (SqP.lensT (marks n ts) 272 ++ (ts.take j).flatMap (SqP.tokT (marks n ts) n)) ∧ ((ts.take j).flatMap (SqP.tokT (marks n ts) n)).length ≤ 45 * j ∧ Below W1.heap.size W1 wx) (fun iv _ => ts.length - (intOf iv).toNat)
  case atStart => exact ⟨0, by omega, rfl, HRC.out, by rw [List.take_zero, List.flatMap_nil, List.append_nil]; exact HBX.out, by simp, HB1.out⟩
  case round =>
    clear HRC HBX HB1
    obtain ⟨j, hj, rfl, hrc, hbx, htx, hb⟩ := hrel
    have HRC := Bx.mk hrc; clear hrc
    have HBX := Bx.mk hbx; clear hbx
    have HB1 := Bx.mk hb; clear hb
    by_cases hjl : j < ts.length
    · have hdj : decide ((j : Int) < (ts.length : Int)) = true := by simp; omega
      obtain ⟨tg, htg1, htg2, htg3⟩ := (HTK.out.below HB1.out) (by omega)
      obtain ⟨t0, t1, t2, t3⟩ := htg3 j hjl
      have HTG := Bx.mk htg1; clear htg1
      rw [HTG.out]
      clear htg3
      have hs272 : ts[j].1 < 272 := HLT.out _ (List.getElem_mem hjl)
      have hbd := valid_bd ts [] HVAL.out _ (List.getElem_mem hjl)
      have hhas := HHAS.out _ (List.getElem_mem hjl)
      have HTN := Bx.mk (take_next ts j hjl)
      have hcc := (HRC.out.cell ts[j].1).trans (ints_get _ _ (by rw [codeL_len]; exact hs272))
      rw [codeL_get n _ ts hs272 hhas] at hcc
      have hpl := SqP.pre_len (marks n ts) n ts[j].1
      have htk : SqP.tokT (marks n ts) n ts[j] = SqP.binS n (SqP.pre (marks n ts) n ts[j].1).length ++ (if 256 ≤ ts[j].1 then SqP.binS ts[j].2.2.1 ts[j].2.1 ++ SqP.binS 15 ts[j].2.2.2 else []) := rfl
      have hwl2 := HBX.out.lt
      have hwl3 := HRC.out.lt
      generalize ts[j] = tj at *
      obtain ⟨s, a, x, b⟩ := tj
      dsimp only at *
      generalize (SqP.pre (marks n ts) n s).length = rk at *
      have HTT := Bx.mk htk; clear htk
      have hflat : (ts.take (j + 1)).flatMap (SqP.tokT (marks n ts) n) = (ts.take j).flatMap (SqP.tokT (marks n ts) n) ++ SqP.tokT (marks n ts) n (s, a, x, b) := by
        rw [HTN.out, List.flatMap_append]; simp
      have HFL := Bx.mk hflat; clear hflat
      generalize (ts.take j).flatMap (SqP.tokT (marks n ts) n) = TX at *
      have HV := Bx.mk (Row.new wr 33 #[.int .i64 (s : Int), .int .i64 (a : Int), .int .i64 (x : Int), .int .i64 (b : Int)])
      go_wp2_with fail
      refine (put_any (SqP.lensT (marks n ts) 272 ++ TX) rk n W2.heap.size _ (by omega) (by omega) (by rw [List.length_append, SqP.lensT_len]; omega) (HBX.out.alloc _)).mono ?_
      rintro e w3 ⟨rfl, hb3, hk3⟩
      dsimp only
      have HRC3 := Bx.mk (hk3.row (HRC.out.alloc (.cells #[.int .i64 (s : Int), .int .i64 (a : Int), .int .i64 (x : Int), .int .i64 (b : Int)] 33)) (by omega))
      have HV3 := Bx.mk (hk3.row HV.out (by omega))
      have HB3 := Bx.mk ((HB1.out.alloc HB1.out.size (.cells #[.int .i64 (s : Int), .int .i64 (a : Int), .int .i64 (x : Int), .int .i64 (b : Int)] 33)).trans (hk3.below (by have := HB1.out.size; simp; omega) (fun k hk e => by omega)))
      have HBX3 := Bx.mk hb3
      have v0 : w3.cell? ⟨wr.heap.size, 0, none⟩ = some (.int .i64 (s : Int)) := HV3.out.cell 0
      clear hb3 hk3 t0 t1 t2 t3 hcc
      by_cases h256 : 256 ≤ s
      · have hd256 : decide ((256 : Int) ≤ (s : Int)) = true := by simp; omega
        have v1 : w3.cell? ⟨wr.heap.size, 1, none⟩ = some (.int .i64 (a : Int)) := HV3.out.cell 1
        have v2 : w3.cell? ⟨wr.heap.size, 2, none⟩ = some (.int .i64 (x : Int)) := HV3.out.cell 2
        go_wp2_with fail
        have hb4 := hbd.resolve_left (by omega)
        refine (put_any (SqP.lensT (marks n ts) 272 ++ TX ++ SqP.binS n rk) a x W2.heap.size _ (by omega) (by omega) (by rw [List.length_append, List.length_append, SqP.lensT_len, SqP.binS_len]; omega) HBX3.out).mono ?_
        rintro e w4 ⟨rfl, hb4', hk4⟩
        dsimp only
        have HRC4 := Bx.mk (hk4.row HRC3.out (by omega))
        have HV4 := Bx.mk (hk4.row HV3.out (by omega))
        have HB4 := Bx.mk (HB3.out.trans (hk4.below HB3.out.size (fun k hk e => by omega)))
        have HBX4 := Bx.mk hb4'
        have v3 : w4.cell? ⟨wr.heap.size, 3, none⟩ = some (.int .i64 (b : Int)) := HV4.out.cell 3
        clear hb4' hk4 v0 v1 v2
        go_wp2_with fail
        have hput := put_any (SqP.lensT (marks n ts) 272 ++ TX ++ SqP.binS n rk ++ SqP.binS x a) b 15 W2.heap.size _ (by omega) (by omega) (by rw [List.length_append, List.length_append, List.length_append, SqP.lensT_len, SqP.binS_len, SqP.binS_len]; omega) HBX4.out
        rw [show ((15 : Nat) : Int) = 15 from rfl] at hput
        refine hput.mono ?_
        rintro e w5 ⟨rfl, hb5, hk5⟩
        dsimp only
        have HRC5 := Bx.mk (hk5.row HRC4.out (by omega))
        have HB5 := Bx.mk (HB4.out.trans (hk5.below HB4.out.size (fun k hk e => by omega)))
        have HBX5 := Bx.mk hb5
        clear hput hb5 hk5
        go_wp2
        try rw [← HTG.out]
        go_roundw
        case rel =>
          have e1 := HTT.out
          rw [if_pos h256] at e1
          refine ⟨j + 1, by omega, by go_num, HRC5.out, ?_, ?_, HB5.out⟩
          · rw [HFL.out, e1]
            have h := HBX5.out
            simp only [List.append_assoc] at h ⊢
            exact h
          · rw [HFL.out, e1, List.length_append, List.length_append, List.length_append, SqP.binS_len, SqP.binS_len, SqP.binS_len]; omega
        case measure => simp [intOf]; omega
      · have hd256 : decide ((256 : Int) ≤ (s : Int)) = false := by simp; omega
        go_wp2
        try rw [← HTG.out]
        go_roundw
        case rel =>
          have e1 := HTT.out
          rw [if_neg h256, List.append_nil] at e1
          refine ⟨j + 1, by omega, by go_num, HRC3.out, ?_, ?_, HB3.out⟩
          · rw [HFL.out, e1, ← List.append_assoc]; exact HBX3.out
          · rw [HFL.out, e1, List.length_append, SqP.binS_len]; omega
        case measure => simp [intOf]; omega
    · obtain rfl : j = ts.length := by omega
      rw [List.take_length] at *
      have hdj : decide ((ts.length : Int) < (ts.length : Int)) = false := by simp
      go_wp2
      clear HRC
      have HDG : Bx (Digits (SqP.lensT (marks n ts) 272 ++ ts.flatMap (SqP.tokT (marks n ts) n))) := ⟨Digits.app (flat_digits _ (fun s => binS_digits 4 _) (List.range 272)) (flat_digits (SqP.tokT (marks n ts) n) (tokT_digits _ _) ts)⟩
      obtain ⟨S, hS⟩ : ∃ S, SqP.lensT (marks n ts) 272 ++ ts.flatMap (SqP.tokT (marks n ts) n) = S := ⟨_, rfl⟩
      have hSl : S.length ≤ 5000 := by rw [← hS, List.length_append, SqP.lensT_len]; omega
      rw [hS] at HBX HDG
      have HS := Bx.mk hS; clear hS
      go_loopw [] (fun wx => ∃ z : Nat, z ≤ (8 - S.length % 8) % 8 ∧ Box wx W2.heap.size (S ++ List.replicate z 48) ∧ Below W1.heap.size W1 wx) (fun wx => (8 - boxLen wx W2.heap.size % 8) % 8)
      case atStart => exact ⟨0, by omega, by rw [List.replicate_zero, List.append_nil]; exact HBX.out, HB1.out⟩
      case round =>
        clear HBX HB1
        obtain ⟨z, hz, hbx, hb⟩ := hrel
        have HBX := Bx.mk hbx; clear hbx
        have HB1 := Bx.mk hb; clear hb
        have hlen : (S ++ List.replicate z 48).length = S.length + z := by rw [List.length_append, List.length_replicate]
        have hc0 : wr.cell? ⟨W2.heap.size, 0, none⟩ = some (.string (bstr (S ++ List.replicate z 48))) := HBX.out.cell 0
        have hf0 := HBX.out.frozen 0
        have hsz : (bstr (S ++ List.replicate z 48)).size = S.length + z := by rw [bstr_size, hlen]
        have HLEN := Bx.mk hlen; clear hlen
        by_cases hz8 : (S.length + z) % 8 = 0
        · have HDT := Bx.mk (HDG.out.app (rep_digits z))
          have hz8' : z < 8 := by omega
          obtain ⟨m8, hm8⟩ : ∃ m8, S.length + z = 8 * m8 := ⟨(S.length + z) / 8, by omega⟩
          have hne : (((S.length : Int) + (z : Int)) % 8 != 0) = false := by rw [bne_eq_false_iff_eq]; omega
          have hUP := SqP.unpack_packed HON.out ts HVAL.out (fun t ht => by rw [marks_getD n ts t.1 (HLT.out t ht), if_pos (HHAS.out t ht)]) (by rw [HOUT.out]; omega) z m8 hz8' (S ++ List.replicate z 48) (by rw [HS.out]) (by rw [HLEN.out, hm8])
          rw [HOUT.out] at hUP
          have HUP := Bx.mk hUP; clear hUP
          have hm700 : m8 ≤ 700 := by omega
          have HTL := Bx.mk (HLEN.out.trans hm8)
          have hN : out.length ≤ 2700 := by omega
          have hNm := Bx.mk (show SqP.hdr out.length = [0, UInt8.ofNat (out.length / 65536), UInt8.ofNat (out.length / 256), UInt8.ofNat out.length, 1] from rfl)
          obtain ⟨c1, hc1⟩ : ∃ c : Nat, (out.length : Int) / 65536 = (c : Int) := ⟨out.length / 65536, by omega⟩
          obtain ⟨c2, hc2⟩ : ∃ c : Nat, (out.length : Int) / 256 = (c : Int) := ⟨out.length / 256, by omega⟩
          obtain ⟨c3, hc3⟩ : ∃ c : Nat, (out.length : Int) % 256 = (c : Int) := ⟨out.length % 256, by omega⟩
          have hHD : [0, UInt8.ofNat c1, UInt8.ofNat c2, UInt8.ofNat c3, 1] = SqP.hdr out.length := by
            unfold SqP.hdr
            rw [show c1 = out.length / 65536 from by omega, show c2 = out.length / 256 from by omega, show c3 = out.length % 256 from by omega, show UInt8.ofNat (out.length % 256) = UInt8.ofNat out.length from by apply UInt8.toNat_inj.1; simp]
          have hcv := fun W => conv5 (P := Tryd.prog) (src := 28) (dst := 9) Tryd.underlying28 Tryd.underlying5 Tryd.underlying9 W c1 c2 c3 (by omega) (by omega) (by omega)
          rw [hHD] at hcv
          generalize S ++ List.replicate z 48 = T at *
          clear hHD
          have hhs : (bstr (SqP.hdr out.length)).size = 5 := rfl
          go_wp2
          try rw [hc3]
          clear hc3 hcv
          go_loopw [26, 27] (fun pv iv wx => ∃ j p : Nat, p = 8 * j ∧ p ≤ 8 * m8 ∧ iv = .int .i64 (p : Int) ∧ pv = .string (bstr (SqP.hdr out.length ++ SqP.pk T j)) ∧ Box wx W2.heap.size T ∧ Below W1.heap.size W1 wx) (fun _ iv _ => 8 * m8 - (intOf iv).toNat)
          case atStart => exact ⟨0, 0, rfl, by omega, rfl, by rw [show SqP.pk T 0 = [] from rfl, List.append_nil], HBX.out.alloc _, HB1.out.alloc HB1.out.size _⟩
          case round =>
            clear HBX HB1 hc0 hf0
            obtain ⟨j, p, hpj, hpm, rfl, rfl, hbx, hb⟩ := hrel
            have HBX := Bx.mk hbx; clear hbx
            have HB1 := Bx.mk hb; clear hb
            have hpl : (bstr (SqP.hdr out.length ++ SqP.pk T j)).size = 5 + j := by rw [bstr_size, List.length_append, SqP.pk_len]; rfl
            have hpl2 : (bstr (SqP.hdr out.length ++ SqP.pk T j)).size ≤ 705 := by omega
            have HPL := Bx.mk hpl; clear hpl
            have hc0 : wr.cell? ⟨W2.heap.size, 0, none⟩ = some (.string (bstr T)) := HBX.out.cell 0
            have hf0 := HBX.out.frozen 0
            by_cases hp : p < 8 * m8
            · have hdp : decide ((p : Int) < 8 * (m8 : Int)) = true := by simp; omega
              have hpadd : bstr (SqP.hdr out.length ++ SqP.pk T j) ++ bstr [UInt8.ofNat (SqP.numT T p 8)] = bstr (SqP.hdr out.length ++ SqP.pk T (j + 1)) := by
                rw [bstr_app2, SqP.pk_succ, List.append_assoc, hpj]
              have HPJ := Bx.mk hpj; clear hpj
              generalize bstr (SqP.hdr out.length ++ SqP.pk T j) = PX at *
              go_wp2
              go_loop [28, 239] (fun cv kv => ∃ q : Nat, q ≤ 8 ∧ kv = .int .i64 (q : Int) ∧ cv = .int .i64 (SqP.numT T p q : Int)) (fun _ kv => 8 - (intOf kv).toNat)
              case atStart => exact ⟨0, by omega, rfl, rfl⟩
              case round =>
                obtain ⟨q, hq, rfl, rfl⟩ := hrel
                have hnt := SqP.numT_lt T p q
                have hnt2 : SqP.numT T p q < 256 := Nat.lt_of_lt_of_le hnt (Nat.pow_le_pow_right (n := 2) (by omega) hq)
                clear hnt
                by_cases hq8 : q < 8
                · have hdq : decide ((q : Int) < 8) = true := by simp; omega
                  have hpq : p + q < 8 * m8 := by have := HPJ.out; omega
                  have hix : p + q < (bstr T).size := by rw [hsz]; omega
                  have hdig : (bstr T)[p + q].toNat = 48 + SqP.dg T (p + q) := by
                    rw [bstr_at T (p + q) hix]
                    exact digit_at HDT.out (p + q) (by rw [HTL.out]; omega)
                  have hdl := SqP.dg_lt T (p + q)
                  have HNS := Bx.mk (show SqP.numT T p (q + 1) = 2 * SqP.numT T p q + SqP.dg T (p + q) from rfl)
                  generalize SqP.dg T (p + q) = d at *
                  generalize SqP.numT T p q = c at *
                  go_wp2
                  go_round
                  case rel => exact ⟨q + 1, by omega, by go_num, by rw [HNS.out]; go_num⟩
                  case measure => simp [intOf]; omega
                · obtain rfl : q = 8 := by omega
                  have hdq : decide ((8 : Int) < 8) = false := by decide
                  rw [show ((8 : Nat) : Int) = 8 from rfl]
                  have hds : (bstr [UInt8.ofNat (SqP.numT T p 8)]).size ≤ 1 := by rw [bstr_size]; simp
                  generalize SqP.numT T p 8 = c at *
                  have hcm : (c : Int) % 256 = (c : Int) := by omega
                  have hcv := fun W => conv1 (P := Tryd.prog) (src := 28) (dst := 9) Tryd.underlying28 Tryd.underlying5 Tryd.underlying9 W c hnt2
                  generalize bstr [UInt8.ofNat c] = ds at *
                  go_wp2
                  go_roundw
                  case rel => exact ⟨j + 1, p + 8, by have := HPJ.out; omega, by have := HPJ.out; omega, by go_num, rfl, HBX.out.alloc _, HB1.out.alloc HB1.out.size _⟩
                  case measure => simp [intOf]; omega
            · have hpe : p = 8 * m8 := by omega
              have hjm : j = m8 := by omega
              subst hjm
              have hdp : decide ((p : Int) < 8 * (j : Int)) = false := by simp; omega
              have HPJ := Bx.mk hpj; clear hpj hpe
              have h1 := unpack_any (bstr (SqP.hdr out.length ++ SqP.pk T j)) wr (by omega) ((HB.out.below HBELW.out (Nat.le_refl _)).below HB1.out (Nat.le_refl _))
              have h2 := unpack_any (bstr (SqP.hdr out.length ++ SqP.pk T j ++ [0]))
              unfold UnpackPost at h1 h2
              rw [show (bstr (SqP.hdr out.length ++ SqP.pk T j)).data.toList = SqP.hdr out.length ++ SqP.pk T j from rfl, HUP.out.1] at h1
              rw [show (bstr (SqP.hdr out.length ++ SqP.pk T j ++ [0])).data.toList = SqP.hdr out.length ++ SqP.pk T j ++ [0] from rfl, HUP.out.2] at h2
              dsimp only at h1 h2
              rw [show ({ data := out.toArray } : ByteArray) = bstr out from rfl] at h1
              have hadd : bstr (SqP.hdr out.length ++ SqP.pk T j) ++ { data := #[0] } = bstr (SqP.hdr out.length ++ SqP.pk T j ++ [0]) := bstr_add _ _
              have hsz2 : (bstr (SqP.hdr out.length ++ SqP.pk T j ++ [0])).size ≤ 1000000000 := by rw [show (bstr (SqP.hdr out.length ++ SqP.pk T j ++ [0])).size = (bstr (SqP.hdr out.length ++ SqP.pk T j)).size + 1 from by rw [bstr_size, bstr_size, List.length_append]; rfl]; omega
              have H2 := Bx.mk h2; clear h2
              generalize bstr (SqP.hdr out.length ++ SqP.pk T j ++ [0]) = PY at *
              generalize bstr (SqP.hdr out.length ++ SqP.pk T j) = PX at *
              go_wp2_with fail
              refine h1.mono ?_
              rintro e w4 ⟨rfl, hb4⟩
              dsimp only
              have HB4 := Bx.mk (HB1.out.trans (hb4.mono HB1.out.size))
              clear hb4 h1 hc0 hf0
              go_wp2_with fail
              refine (H2.out _ hsz2 ((HB.out.below HBELW.out (Nat.le_refl _)).below HB4.out (Nat.le_refl _))).mono ?_
              rintro e w5 ⟨rfl, hb5⟩
              dsimp only
              have HB5 := Bx.mk (HB4.out.trans (hb5.mono HB4.out.size))
              clear hb5
              have HBZ := Bx.mk (HBELW.out.trans (HB5.out.mono HBELW.out.size))
              go_wp2
              go_ret
              exact ⟨rfl, HBZ.out⟩
        · have hne : (((S.length : Int) + (z : Int)) % 8 != 0) = true := by rw [bne_iff_ne]; omega
          have hadd : bstr (S ++ List.replicate z 48) ++ { data := #[48] } = bstr (S ++ List.replicate (z + 1) 48) := by
            rw [bstr_add, List.replicate_succ', List.append_assoc]
          have HBN := Bx.mk (HBX.out.set (S ++ List.replicate (z + 1) 48))
          generalize bstr (S ++ List.replicate z 48) = X at *
          go_wp2
          go_roundw
          case rel => exact ⟨z + 1, by omega, HBN.out, HB1.out.setCell (by simp; omega) _⟩
          case measure =>
            rw [boxLen_box HBN.out, boxLen_box HBX.out, HLEN.out, List.length_append, List.length_replicate]; omega
end Go.Proofs.YtefklhjjhcobmaaDoor
