/- References, plainly: what is left of a range of rows when rows are added and cut: the program's hull and the reference's rest. -/
import Derived.Test.YtgphgimbnflhfaaDoorRfPlain4
set_option linter.unusedSimpArgs false
set_option linter.unusedVariables false
namespace Go.Proofs.YtgphgimbnflhfaaDoor.RfP
abbrev Step := Int × Int
abbrev Hu := Int × Int × Bool
def okS (s : Step) : Prop := 0 ≤ s.1 ∧ s.1 ≤ 2 ∧ 1 ≤ s.2
/-- where a row comes to lie, or -1 -/
def whr : List Step → Int → Int → Int
  | [], p, out => out + p
  | s :: r, p, out => if s.1 = 1 then whr r p (out + s.2) else if s.1 = 0 then (if p < s.2 then out + p else whr r (p - s.2) (out + s.2)) else (if p < s.2 then -1 else whr r (p - s.2) out)
def keepP (low high old now n : Int) (x : Hu) : Hu :=
  if max low old ≤ min high (old + n - 1) then ((if x.2.2 = true then x.1 else now + max low old - old), now + min high (old + n - 1) - old, true) else x
def hullG (low high : Int) : List Step → Int → Int → Hu → Hu
  | [], old, now, x => keepP low high old now 1073741824 x
  | s :: r, old, now, x => hullG low high r (if s.1 = 1 then old else old + s.2) (if s.1 = 2 then now else now + s.2) (if s.1 = 0 then keepP low high old now s.2 x else x)
/-- first and last of what W makes of the numbers in S -/
def Sp (W : Int → Int) (S : Int → Prop) (x : Hu) : Prop :=
  (x.2.2 = false ∧ x.1 = 0 ∧ x.2.1 = 0 ∧ ∀ p, S p → W p < 0) ∨
  (x.2.2 = true ∧ (∃ p, S p ∧ W p = x.1 ∧ 0 ≤ x.1) ∧ (∃ p, S p ∧ W p = x.2.1 ∧ 0 ≤ x.2.1) ∧ ∀ p, S p → 0 ≤ W p → x.1 ≤ W p ∧ W p ≤ x.2.1)
theorem Sp.congr {W : Int → Int} {S T : Int → Prop} {x : Hu} (h : Sp W S x) (e : ∀ p, S p ↔ T p) : Sp W T x := by
  have : S = T := funext fun p => propext (e p)
  rw [← this]; exact h
theorem Sp.unique {W : Int → Int} {S : Int → Prop} {x y : Hu} (h : Sp W S x) (k : Sp W S y) : x = y := by
  obtain ⟨f, l, b⟩ := x
  obtain ⟨g, m, c⟩ := y
  unfold Sp at h k
  dsimp only at h k
  rcases h with ⟨h1, h2, h3, h4⟩ | ⟨h1, ⟨p, hp, hp1, hp2⟩, ⟨q, hq, hq1, hq2⟩, h4⟩ <;> rcases k with ⟨k1, k2, k3, k4⟩ | ⟨k1, ⟨r, hr, hr1, hr2⟩, ⟨s, hs, hs1, hs2⟩, k4⟩
  · rw [h1, h2, h3, k1, k2, k3]
  · have := h4 r hr; omega
  · have := k4 p hp; omega
  · have a1 := h4 r hr (by omega)
    have a2 := h4 s hs (by omega)
    have a3 := k4 p hp (by omega)
    have a4 := k4 q hq (by omega)
    rw [h1, k1, show f = g by omega, show l = m by omega]
theorem keep_spec (W : Int → Int) (low high old now n : Int) (x : Hu) (hn : 1 ≤ n) (ho : 0 ≤ old) (hw : 0 ≤ now) (hW : ∀ p, old ≤ p → p ≤ high → p ≤ old + n - 1 → W p = now + (p - old)) (hs : Sp W (fun p => low ≤ p ∧ p ≤ high ∧ p < old) x) (hl : x.2.2 = true → x.2.1 < now) :
    Sp W (fun p => low ≤ p ∧ p ≤ high ∧ p < old + n) (keepP low high old now n x) ∧ ((keepP low high old now n x).2.2 = true → (keepP low high old now n x).2.1 < now + n) := by
  unfold keepP
  by_cases h : max low old ≤ min high (old + n - 1)
  · rw [if_pos h]
    refine ⟨?_, fun _ => by dsimp only; omega⟩
    have e1 := hW (max low old) (by omega) (by omega) (by omega)
    have e2 := hW (min high (old + n - 1)) (by omega) (by omega) (by omega)
    obtain ⟨f, l, b⟩ := x
    unfold Sp at hs ⊢
    dsimp only at *
    right
    rcases hs with ⟨h1, h2, h3, h4⟩ | ⟨h1, ⟨p, hp, hp1, hp2⟩, ⟨q, hq, hq1, hq2⟩, h4⟩
    · subst h1
      refine ⟨rfl, ⟨max low old, by omega, by rw [if_neg (by simp), e1]; omega, by rw [if_neg (by simp)]; omega⟩, ⟨min high (old + n - 1), by omega, by rw [e2]; omega, by omega⟩, ?_⟩
      intro p hp hp0
      rw [if_neg (by simp)]
      by_cases hpo : p < old
      · have := h4 p ⟨hp.1, hp.2.1, hpo⟩; omega
      · have := hW p (by omega) (by omega) (by omega); omega
    · subst h1
      have hlt := hl rfl
      have hpq := h4 p hp (by omega)
      refine ⟨rfl, ⟨p, ⟨hp.1, hp.2.1, by omega⟩, by rw [if_pos rfl]; exact hp1, by rw [if_pos rfl]; exact hp2⟩, ⟨min high (old + n - 1), by omega, by rw [e2]; omega, by omega⟩, ?_⟩
      intro r hr hr0
      rw [if_pos rfl]
      by_cases hpo : r < old
      · have := h4 r ⟨hr.1, hr.2.1, hpo⟩ hr0; omega
      · have := hW r (by omega) (by omega) (by omega); omega
  · rw [if_neg h]
    refine ⟨hs.congr fun p => ?_, fun hb => by have := hl hb; omega⟩
    constructor
    · intro hp; exact ⟨hp.1, hp.2.1, by omega⟩
    · intro hp; exact ⟨hp.1, hp.2.1, by omega⟩
theorem hullG_spec (W : Int → Int) (low high : Int) (h1 : high < 1073741824) : ∀ (r : List Step) (old now : Int) (x : Hu), (∀ s ∈ r, okS s) → 0 ≤ old → 0 ≤ now → (∀ p, old ≤ p → W p = whr r (p - old) now) → Sp W (fun p => low ≤ p ∧ p ≤ high ∧ p < old) x → (x.2.2 = true → x.2.1 < now) → Sp W (fun p => low ≤ p ∧ p ≤ high) (hullG low high r old now x)
  | [], old, now, x, _, ho, hw, hW, hs, hl => by
    have := (keep_spec W low high old now 1073741824 x (by omega) ho hw (fun p a _ _ => by rw [hW p a]; rfl) hs hl).1
    exact this.congr fun p => ⟨fun h => ⟨h.1, h.2.1⟩, fun h => ⟨h.1, h.2, by omega⟩⟩
  | s :: r, old, now, x, hok, ho, hw, hW, hs, hl => by
    obtain ⟨s1, s2, s3⟩ := hok s (by simp)
    have hok' : ∀ t ∈ r, okS t := fun t ht => hok t (by simp [ht])
    unfold hullG
    by_cases e1 : s.1 = 1
    · rw [if_pos e1, if_neg (by omega), if_neg (by omega)]
      refine hullG_spec W low high h1 r old (now + s.2) x hok' ho (by omega) (fun p hp => ?_) hs (fun hb => by have := hl hb; omega)
      rw [hW p hp]; simp only [whr]; rw [if_pos e1]
    · by_cases e0 : s.1 = 0
      · rw [if_neg e1, if_neg (by omega), if_pos e0]
        obtain ⟨k1, k2⟩ := keep_spec W low high old now s.2 x s3 ho hw (fun p a _ b => by
          rw [hW p a]; simp only [whr]; rw [if_neg e1, if_pos e0, if_pos (by omega)]) hs hl
        refine hullG_spec W low high h1 r (old + s.2) (now + s.2) _ hok' (by omega) (by omega) (fun p hp => ?_) k1 k2
        rw [hW p (by omega)]; simp only [whr]; rw [if_neg e1, if_pos e0, if_neg (by omega)]
        congr 1; omega
      · rw [if_neg e1, if_pos (by omega), if_neg e0]
        refine hullG_spec W low high h1 r (old + s.2) now x hok' (by omega) hw (fun p hp => ?_) ?_ hl
        · rw [hW p (by omega)]; simp only [whr]; rw [if_neg e1, if_neg e0, if_neg (by omega)]
          congr 1; omega
        · have hcut : ∀ p, old ≤ p → p < old + s.2 → W p = -1 := fun p a b => by
            rw [hW p a]; simp only [whr]; rw [if_neg e1, if_neg e0, if_pos (by omega)]
          obtain ⟨f, l, b⟩ := x
          unfold Sp at hs ⊢
          dsimp only at *
          rcases hs with ⟨a1, a2, a3, a4⟩ | ⟨a1, ⟨p, hp, hp1, hp2⟩, ⟨q, hq, hq1, hq2⟩, a4⟩
          · refine .inl ⟨a1, a2, a3, fun p hp => ?_⟩
            by_cases hpo : p < old
            · exact a4 p ⟨hp.1, hp.2.1, hpo⟩
            · rw [hcut p (by omega) hp.2.2]; omega
          · refine .inr ⟨a1, ⟨p, ⟨hp.1, hp.2.1, by omega⟩, hp1, hp2⟩, ⟨q, ⟨hq.1, hq.2.1, by omega⟩, hq1, hq2⟩, fun r hr hr0 => ?_⟩
            by_cases hpo : r < old
            · exact a4 r ⟨hr.1, hr.2.1, hpo⟩ hr0
            · have := hcut r (by omega) hr.2.2; omega
/-- the numbers at which the reference looks -/
def placesP : List Step → Int → List Int
  | [], a => [a]
  | s :: r, a => if s.1 = 1 then placesP r a else a :: (a + s.2 - 1) :: placesP r (a + s.2)
def updR (W : Int → Int) (low high : Int) (x : Hu) (p : Int) : Hu :=
  if p < low ∨ high < p then x else if 0 ≤ W p then ((if x.2.2 = false ∨ W p < x.1 then W p else x.1), (if x.2.2 = false ∨ x.2.1 < W p then W p else x.2.1), true) else x
theorem updR_spec (W : Int → Int) (low high : Int) (S : Int → Prop) (x : Hu) (p : Int) (hs : Sp W S x) : Sp W (fun q => S q ∨ (q = p ∧ low ≤ q ∧ q ≤ high)) (updR W low high x p) := by
  unfold updR
  by_cases h : p < low ∨ high < p
  · rw [if_pos h]
    exact hs.congr fun q => ⟨fun a => .inl a, fun a => by rcases a with a | ⟨a, b, c⟩; exact a; omega⟩
  · rw [if_neg h]
    obtain ⟨f, l, b⟩ := x
    by_cases hw : 0 ≤ W p
    · rw [if_pos hw]
      unfold Sp at hs ⊢
      dsimp only at *
      right
      rcases hs with ⟨a1, a2, a3, a4⟩ | ⟨a1, ⟨r, hr, hr1, hr2⟩, ⟨q, hq, hq1, hq2⟩, a4⟩
      · rw [if_pos (.inl a1), if_pos (.inl a1)]
        refine ⟨rfl, ⟨p, .inr ⟨rfl, by omega, by omega⟩, rfl, hw⟩, ⟨p, .inr ⟨rfl, by omega, by omega⟩, rfl, hw⟩, fun t ht ht0 => ?_⟩
        rcases ht with ht | ⟨ht, _⟩
        · have := a4 t ht; omega
        · subst ht; omega
      · subst a1
        refine ⟨rfl, ?_, ?_, fun t ht ht0 => ?_⟩
        · by_cases c : W p < f
          · rw [if_pos (.inr c)]; exact ⟨p, .inr ⟨rfl, by omega, by omega⟩, rfl, hw⟩
          · rw [if_neg (by simp; omega)]; exact ⟨r, .inl hr, hr1, hr2⟩
        · by_cases c : l < W p
          · rw [if_pos (.inr c)]; exact ⟨p, .inr ⟨rfl, by omega, by omega⟩, rfl, hw⟩
          · rw [if_neg (by simp; omega)]; exact ⟨q, .inl hq, hq1, hq2⟩
        · have h5 : (f ≤ W t ∧ W t ≤ l) ∨ W t = W p := by
            rcases ht with ht | ⟨ht, _⟩
            · exact .inl (a4 t ht ht0)
            · subst ht; exact .inr rfl
          simp only [show ((true = false) = False) by simp, false_or]
          split <;> split <;> omega
    · rw [if_neg hw]
      unfold Sp at hs ⊢
      dsimp only at *
      rcases hs with ⟨a1, a2, a3, a4⟩ | ⟨a1, ⟨r, hr, hr1, hr2⟩, ⟨q, hq, hq1, hq2⟩, a4⟩
      · refine .inl ⟨a1, a2, a3, fun t ht => ?_⟩
        rcases ht with ht | ⟨ht, _⟩
        · exact a4 t ht
        · subst ht; omega
      · refine .inr ⟨a1, ⟨r, .inl hr, hr1, hr2⟩, ⟨q, .inl hq, hq1, hq2⟩, fun t ht ht0 => ?_⟩
        rcases ht with ht | ⟨ht, _⟩
        · exact a4 t ht ht0
        · subst ht; omega
theorem foldR_spec (W : Int → Int) (low high : Int) : ∀ (L : List Int) (S : Int → Prop) (x : Hu), Sp W S x → Sp W (fun q => S q ∨ (q ∈ L ∧ low ≤ q ∧ q ≤ high)) (L.foldl (updR W low high) x)
  | [], S, x, hs => hs.congr fun q => ⟨fun a => .inl a, fun a => by rcases a with a | ⟨a, _⟩; exact a; simp at a⟩
  | p :: r, S, x, hs => by
    have := foldR_spec W low high r _ _ (updR_spec W low high S x p hs)
    rw [List.foldl_cons]
    refine this.congr fun q => ?_
    constructor
    · rintro ((a | ⟨a, b⟩) | ⟨a, b⟩)
      · exact .inl a
      · exact .inr ⟨by simp [a], b⟩
      · exact .inr ⟨by simp [a], b⟩
    · rintro (a | ⟨a, b⟩)
      · exact .inl (.inl a)
      · rcases List.mem_cons.1 a with a | a
        · exact .inl (.inr ⟨a, b⟩)
        · exact .inr ⟨a, b⟩
theorem places_cover (W : Int → Int) (low high : Int) : ∀ (r : List Step) (a now : Int), (∀ s ∈ r, okS s) → 0 ≤ now → (∀ p, a ≤ p → W p = whr r (p - a) now) → ∀ p, a ≤ p → low ≤ p → p ≤ high → 0 ≤ W p →
    (∃ q, (q = low ∨ q = high ∨ q ∈ placesP r a) ∧ low ≤ q ∧ q ≤ high ∧ 0 ≤ W q ∧ W q ≤ W p) ∧ (∃ q, (q = low ∨ q = high ∨ q ∈ placesP r a) ∧ low ≤ q ∧ q ≤ high ∧ W p ≤ W q)
  | [], a, now, _, hn, hW, p, h1, h2, h3, h4 => by
    have e := hW p h1
    simp only [whr] at e
    constructor
    · refine ⟨max low a, ?_, by omega, by omega, ?_⟩
      · rcases Int.le_total low a with h | h
        · right; right; rw [Int.max_eq_right h]; simp [placesP]
        · left; rw [Int.max_eq_left h]
      · have e2 := hW (max low a) (by omega)
        simp only [whr] at e2; omega
    · refine ⟨high, .inr (.inl rfl), by omega, by omega, ?_⟩
      have e2 := hW high (by omega)
      simp only [whr] at e2; omega
  | s :: r, a, now, hok, hn, hW, p, h1, h2, h3, h4 => by
    obtain ⟨s1, s2, s3⟩ := hok s (by simp)
    have hok' : ∀ t ∈ r, okS t := fun t ht => hok t (by simp [ht])
    by_cases e1 : s.1 = 1
    · have := places_cover W low high r a (now + s.2) hok' (by omega) (fun q hq => by rw [hW q hq]; simp only [whr]; rw [if_pos e1]) p h1 h2 h3 h4
      simp only [placesP]; rw [if_pos e1]; exact this
    · have hmem : ∀ q, (q = low ∨ q = high ∨ q ∈ placesP r (a + s.2)) → (q = low ∨ q = high ∨ q ∈ placesP (s :: r) a) := fun q hq => by
        simp only [placesP]; rw [if_neg e1]
        rcases hq with h | h | h
        · exact .inl h
        · exact .inr (.inl h)
        · exact .inr (.inr (by simp [h]))
      by_cases hp : p < a + s.2
      · by_cases e0 : s.1 = 0
        · have hk : ∀ q, a ≤ q → q < a + s.2 → W q = now + (q - a) := fun q b c => by
            rw [hW q b]; simp only [whr]; rw [if_neg e1, if_pos e0, if_pos (by omega)]
          have e := hk p h1 hp
          constructor
          · refine ⟨max low a, ?_, by omega, by omega, ?_⟩
            · rcases Int.le_total low a with h | h
              · right; right; rw [Int.max_eq_right h]; simp only [placesP]; rw [if_neg e1]; simp
              · left; rw [Int.max_eq_left h]
            · have e2 := hk (max low a) (by omega) (by omega); omega
          · refine ⟨min high (a + s.2 - 1), ?_, by omega, by omega, ?_⟩
            · rcases Int.le_total high (a + s.2 - 1) with h | h
              · right; left; rw [Int.min_eq_left h]
              · right; right; rw [Int.min_eq_right h]; simp only [placesP]; rw [if_neg e1]; simp
            · have e2 := hk (min high (a + s.2 - 1)) (by omega) (by omega); omega
        · exfalso
          rw [hW p h1] at h4; simp only [whr] at h4; rw [if_neg e1, if_neg e0, if_pos (by omega)] at h4; omega
      · have key : ∀ q, a + s.2 ≤ q → W q = whr r (q - (a + s.2)) (if s.1 = 0 then now + s.2 else now) := fun q hq => by
          rw [hW q (by omega)]; simp only [whr]; rw [if_neg e1]
          by_cases e0 : s.1 = 0
          · rw [if_pos e0, if_pos e0, if_neg (by omega)]; congr 1; omega
          · rw [if_neg e0, if_neg e0, if_neg (by omega)]; congr 1; omega
        obtain ⟨⟨q, c1, c2⟩, ⟨t, d1, d2⟩⟩ := places_cover W low high r (a + s.2) _ hok' (by split <;> omega) key p (by omega) h2 h3 h4
        exact ⟨⟨q, hmem q c1, c2⟩, ⟨t, hmem t d1, d2⟩⟩
def hullP (a : List Step) (low high : Int) : Hu := hullG low high a 0 0 (0, 0, false)
def restP (a : List Step) (low high : Int) : Hu := (low :: high :: placesP a 0).foldl (updR (fun p => whr a p 0) low high) (0, 0, false)
theorem hull_rest (a : List Step) (low high : Int) (hok : ∀ s ∈ a, okS s) (h0 : 0 ≤ low) (hlh : low ≤ high) (h1 : high < 1073741824) : hullP a low high = restP a low high := by
  have hW : ∀ p : Int, 0 ≤ p → (fun p => whr a p 0) p = whr a (p - 0) 0 := fun p _ => by simp
  have k1 : Sp (fun p => whr a p 0) (fun p => low ≤ p ∧ p ≤ high) (hullP a low high) :=
    hullG_spec (fun p => whr a p 0) low high h1 a 0 0 (0, 0, false) hok (by omega) (by omega) hW (.inl ⟨rfl, rfl, rfl, fun p hp => by omega⟩) (fun h => by cases h)
  have k2 := foldR_spec (fun p => whr a p 0) low high (low :: high :: placesP a 0) (fun _ => False) (0, 0, false) (.inl ⟨rfl, rfl, rfl, fun p hp => hp.elim⟩)
  refine k1.unique ?_
  unfold restP
  generalize (low :: high :: placesP a 0).foldl (updR (fun p => whr a p 0) low high) (0, 0, false) = x at k2
  have hc := places_cover (fun p => whr a p 0) low high a 0 0 hok (by omega) hW
  obtain ⟨f, l, b⟩ := x
  unfold Sp at k2 ⊢
  dsimp only at *
  have hin : ∀ q, (q = low ∨ q = high ∨ q ∈ placesP a 0) → low ≤ q → q ≤ high → (False ∨ (q ∈ (low :: high :: placesP a 0) ∧ low ≤ q ∧ q ≤ high)) := fun q h a b => .inr ⟨by simpa using h, a, b⟩
  rcases k2 with ⟨a1, a2, a3, a4⟩ | ⟨a1, ⟨r, hr, hr1, hr2⟩, ⟨q, hq, hq1, hq2⟩, a4⟩
  · refine .inl ⟨a1, a2, a3, fun p hp => ?_⟩
    rcases Int.lt_or_le (whr a p 0) 0 with h | h
    · exact h
    · obtain ⟨⟨q, c1, c2, c3, c4, _⟩, _⟩ := hc p (by omega) hp.1 hp.2 h
      have := a4 q (hin q c1 c2 c3); omega
  · rcases hr with hr | hr
    · exact hr.elim
    rcases hq with hq | hq
    · exact hq.elim
    refine .inr ⟨a1, ⟨r, hr.2, hr1, hr2⟩, ⟨q, hq.2, hq1, hq2⟩, fun p hp hp0 => ?_⟩
    obtain ⟨⟨s, c1, c2, c3, c4, c5⟩, ⟨t, d1, d2, d3, d4⟩⟩ := hc p (by omega) hp.1 hp.2 hp0
    have e1 := a4 s (hin s c1 c2 c3) c4
    have e2 := a4 t (hin t d1 d2 d3) (by omega)
    omega
/-- the error of a change -/
def stepErr (p : Option Step) (s : Step) : Int :=
  if s.1 < 0 ∨ 2 < s.1 then 8 else if s.2 < 1 ∨ 2147483647 < s.2 then 2 else match p with
  | none => 0
  | some q => if q.1 = s.1 ∨ (q.1 = 2 ∧ s.1 = 1) then 5 else 0
def axErr : Option Step → List Step → Int → Int → Int
  | _, [], old, now => if 2147483647 < old ∨ 2147483647 < now then 3 else 0
  | p, s :: r, old, now => if stepErr p s ≠ 0 then stepErr p s else axErr (some s) r (if s.1 = 1 then old else old + s.2) (if s.1 = 2 then now else now + s.2)
theorem axErr_ok : ∀ (r : List Step) (p : Option Step) (old now : Int), axErr p r old now = 0 → ∀ s ∈ r, okS s ∧ s.2 ≤ 2147483647
  | [], _, _, _, _, s, hs => by simp at hs
  | t :: r, p, old, now, h, s, hs => by
    unfold axErr at h
    by_cases e : stepErr p t ≠ 0
    · rw [if_pos e] at h; exact absurd h e
    · rw [if_neg e] at h
      rcases List.mem_cons.1 hs with hs | hs
      · subst hs
        unfold stepErr at e
        have e' : ¬ (s.1 < 0 ∨ 2 < s.1) := fun h => by rw [if_pos h] at e; simp at e
        rw [if_neg e'] at e
        have e2 : ¬ (s.2 < 1 ∨ 2147483647 < s.2) := fun h => by rw [if_pos h] at e; simp at e
        exact ⟨⟨by omega, by omega, by omega⟩, by omega⟩
      · exact axErr_ok r _ _ _ h s hs
end Go.Proofs.YtgphgimbnflhfaaDoor.RfP
