/- References, plainly: what is left of a range of rows when rows are added and cut: the program's hull and the reference's rest. References: the error of a change of rows or columns, the program's and the reference's. References: where a row comes to lie, by the reckoning walk. References: hull, its closure walked in place. References: Through, by the reckoning walk. -/
import Derived.Test.YtmodjglbjempkaaGreatDoorHPa
import Derived.Test.YtmodjglbjempkaaGreatDoorHSb
import Derived.Test.YtmodjglbjempkaaGreatDoorHSzEnv
import Derived.Test.YtmodjglbjempkaaGreatDoorHCa
import Derived.Test.YtmodjglbjempkaaGreatDoorHRfT0
set_option linter.unusedSimpArgs false
set_option linter.unusedVariables false
namespace Go.Proofs.YtmodjglbjempkaaGreatDoor.RfP
abbrev Step := Int × Int
abbrev Hu := Int × Int × Bool
def okS (s : Step) : Prop := 0 ≤ s.1 ∧ s.1 ≤ 2 ∧ 1 ≤ s.2
/-- where a row comes to lie, or -1 -/
def whr : List Step → Int → Int → Int
  | [], p, out => out + p
  | s :: r, p, out => if s.1 = 1 then whr r p (out + s.2) else if s.1 = 0 then (if p < s.2 then out + p else whr r (p - s.2) (out + s.2)) else (if p < s.2 then -1 else whr r (p - s.2) out)
def keepP (low high old now n : Int) (x : Hu) : Hu :=
  if max low old ≤ min high (old + n - 1) then ((if x.2.2 = true then x.1 else now + max low old - old), now + min high (old + n - 1) - old, true) else x
def hullG (low high : Int) : List Step → Int → Int → Hu → Hu
  | [], old, now, x => keepP low high old now 1073741824 x
  | s :: r, old, now, x => hullG low high r (if s.1 = 1 then old else old + s.2) (if s.1 = 2 then now else now + s.2) (if s.1 = 0 then keepP low high old now s.2 x else x)
/-- first and last of what W makes of the numbers in S -/
def Sp (W : Int → Int) (S : Int → Prop) (x : Hu) : Prop :=
  (x.2.2 = false ∧ x.1 = 0 ∧ x.2.1 = 0 ∧ ∀ p, S p → W p < 0) ∨
  (x.2.2 = true ∧ (∃ p, S p ∧ W p = x.1 ∧ 0 ≤ x.1) ∧ (∃ p, S p ∧ W p = x.2.1 ∧ 0 ≤ x.2.1) ∧ ∀ p, S p → 0 ≤ W p → x.1 ≤ W p ∧ W p ≤ x.2.1)
theorem Sp.congr {W : Int → Int} {S T : Int → Prop} {x : Hu} (h : Sp W S x) (e : ∀ p, S p ↔ T p) : Sp W T x := by
  have : S = T := funext fun p => propext (e p)
  rw [← this]; exact h
theorem Sp.unique {W : Int → Int} {S : Int → Prop} {x y : Hu} (h : Sp W S x) (k : Sp W S y) : x = y := by
  obtain ⟨f, l, b⟩ := x
  obtain ⟨g, m, c⟩ := y
  unfold Sp at h k
  dsimp only at h k
  rcases h with ⟨h1, h2, h3, h4⟩ | ⟨h1, ⟨p, hp, hp1, hp2⟩, ⟨q, hq, hq1, hq2⟩, h4⟩ <;> rcases k with ⟨k1, k2, k3, k4⟩ | ⟨k1, ⟨r, hr, hr1, hr2⟩, ⟨s, hs, hs1, hs2⟩, k4⟩
  · rw [h1, h2, h3, k1, k2, k3]
  · have := h4 r hr; omega
  · have := k4 p hp; omega
  · have a1 := h4 r hr (by omega)
    have a2 := h4 s hs (by omega)
    have a3 := k4 p hp (by omega)
    have a4 := k4 q hq (by omega)
    rw [h1, k1, show f = g by omega, show l = m by omega]
theorem keep_spec (W : Int → Int) (low high old now n : Int) (x : Hu) (hn : 1 ≤ n) (ho : 0 ≤ old) (hw : 0 ≤ now) (hW : ∀ p, old ≤ p → p ≤ high → p ≤ old + n - 1 → W p = now + (p - old)) (hs : Sp W (fun p => low ≤ p ∧ p ≤ high ∧ p < old) x) (hl : x.2.2 = true → x.2.1 < now) :
    Sp W (fun p => low ≤ p ∧ p ≤ high ∧ p < old + n) (keepP low high old now n x) ∧ ((keepP low high old now n x).2.2 = true → (keepP low high old now n x).2.1 < now + n) := by
  unfold keepP
  by_cases h : max low old ≤ min high (old + n - 1)
  · rw [if_pos h]
    refine ⟨?_, fun _ => by dsimp only; omega⟩
    have e1 := hW (max low old) (by omega) (by omega) (by omega)
    have e2 := hW (min high (old + n - 1)) (by omega) (by omega) (by omega)
    obtain ⟨f, l, b⟩ := x
    unfold Sp at hs ⊢
    dsimp only at *
    right
    rcases hs with ⟨h1, h2, h3, h4⟩ | ⟨h1, ⟨p, hp, hp1, hp2⟩, ⟨q, hq, hq1, hq2⟩, h4⟩
    · subst h1
      refine ⟨rfl, ⟨max low old, by omega, by rw [if_neg (by simp), e1]; omega, by rw [if_neg (by simp)]; omega⟩, ⟨min high (old + n - 1), by omega, by rw [e2]; omega, by omega⟩, ?_⟩
      intro p hp hp0
      rw [if_neg (by simp)]
      by_cases hpo : p < old
      · have := h4 p ⟨hp.1, hp.2.1, hpo⟩; omega
      · have := hW p (by omega) (by omega) (by omega); omega
    · subst h1
      have hlt := hl rfl
      have hpq := h4 p hp (by omega)
      refine ⟨rfl, ⟨p, ⟨hp.1, hp.2.1, by omega⟩, by rw [if_pos rfl]; exact hp1, by rw [if_pos rfl]; exact hp2⟩, ⟨min high (old + n - 1), by omega, by rw [e2]; omega, by omega⟩, ?_⟩
      intro r hr hr0
      rw [if_pos rfl]
      by_cases hpo : r < old
      · have := h4 r ⟨hr.1, hr.2.1, hpo⟩ hr0; omega
      · have := hW r (by omega) (by omega) (by omega); omega
  · rw [if_neg h]
    refine ⟨hs.congr fun p => ?_, fun hb => by have := hl hb; omega⟩
    constructor
    · intro hp; exact ⟨hp.1, hp.2.1, by omega⟩
    · intro hp; exact ⟨hp.1, hp.2.1, by omega⟩
theorem hullG_spec (W : Int → Int) (low high : Int) (h1 : high < 1073741824) : ∀ (r : List Step) (old now : Int) (x : Hu), (∀ s ∈ r, okS s) → 0 ≤ old → 0 ≤ now → (∀ p, old ≤ p → W p = whr r (p - old) now) → Sp W (fun p => low ≤ p ∧ p ≤ high ∧ p < old) x → (x.2.2 = true → x.2.1 < now) → Sp W (fun p => low ≤ p ∧ p ≤ high) (hullG low high r old now x)
  | [], old, now, x, _, ho, hw, hW, hs, hl => by
    have := (keep_spec W low high old now 1073741824 x (by omega) ho hw (fun p a _ _ => by rw [hW p a]; rfl) hs hl).1
    exact this.congr fun p => ⟨fun h => ⟨h.1, h.2.1⟩, fun h => ⟨h.1, h.2, by omega⟩⟩
  | s :: r, old, now, x, hok, ho, hw, hW, hs, hl => by
    obtain ⟨s1, s2, s3⟩ := hok s (by simp)
    have hok' : ∀ t ∈ r, okS t := fun t ht => hok t (by simp [ht])
    unfold hullG
    by_cases e1 : s.1 = 1
    · rw [if_pos e1, if_neg (by omega), if_neg (by omega)]
      refine hullG_spec W low high h1 r old (now + s.2) x hok' ho (by omega) (fun p hp => ?_) hs (fun hb => by have := hl hb; omega)
      rw [hW p hp]; simp only [whr]; rw [if_pos e1]
    · by_cases e0 : s.1 = 0
      · rw [if_neg e1, if_neg (by omega), if_pos e0]
        obtain ⟨k1, k2⟩ := keep_spec W low high old now s.2 x s3 ho hw (fun p a _ b => by
          rw [hW p a]; simp only [whr]; rw [if_neg e1, if_pos e0, if_pos (by omega)]) hs hl
        refine hullG_spec W low high h1 r (old + s.2) (now + s.2) _ hok' (by omega) (by omega) (fun p hp => ?_) k1 k2
        rw [hW p (by omega)]; simp only [whr]; rw [if_neg e1, if_pos e0, if_neg (by omega)]
        congr 1; omega
      · rw [if_neg e1, if_pos (by omega), if_neg e0]
        refine hullG_spec W low high h1 r (old + s.2) now x hok' (by omega) hw (fun p hp => ?_) ?_ hl
        · rw [hW p (by omega)]; simp only [whr]; rw [if_neg e1, if_neg e0, if_neg (by omega)]
          congr 1; omega
        · have hcut : ∀ p, old ≤ p → p < old + s.2 → W p = -1 := fun p a b => by
            rw [hW p a]; simp only [whr]; rw [if_neg e1, if_neg e0, if_pos (by omega)]
          obtain ⟨f, l, b⟩ := x
          unfold Sp at hs ⊢
          dsimp only at *
          rcases hs with ⟨a1, a2, a3, a4⟩ | ⟨a1, ⟨p, hp, hp1, hp2⟩, ⟨q, hq, hq1, hq2⟩, a4⟩
          · refine .inl ⟨a1, a2, a3, fun p hp => ?_⟩
            by_cases hpo : p < old
            · exact a4 p ⟨hp.1, hp.2.1, hpo⟩
            · rw [hcut p (by omega) hp.2.2]; omega
          · refine .inr ⟨a1, ⟨p, ⟨hp.1, hp.2.1, by omega⟩, hp1, hp2⟩, ⟨q, ⟨hq.1, hq.2.1, by omega⟩, hq1, hq2⟩, fun r hr hr0 => ?_⟩
            by_cases hpo : r < old
            · exact a4 r ⟨hr.1, hr.2.1, hpo⟩ hr0
            · have := hcut r (by omega) hr.2.2; omega
/-- the numbers at which the reference looks -/
def placesP : List Step → Int → List Int
  | [], a => [a]
  | s :: r, a => if s.1 = 1 then placesP r a else a :: (a + s.2 - 1) :: placesP r (a + s.2)
def updR (W : Int → Int) (low high : Int) (x : Hu) (p : Int) : Hu :=
  if p < low ∨ high < p then x else if 0 ≤ W p then ((if x.2.2 = false ∨ W p < x.1 then W p else x.1), (if x.2.2 = false ∨ x.2.1 < W p then W p else x.2.1), true) else x
theorem updR_spec (W : Int → Int) (low high : Int) (S : Int → Prop) (x : Hu) (p : Int) (hs : Sp W S x) : Sp W (fun q => S q ∨ (q = p ∧ low ≤ q ∧ q ≤ high)) (updR W low high x p) := by
  unfold updR
  by_cases h : p < low ∨ high < p
  · rw [if_pos h]
    exact hs.congr fun q => ⟨fun a => .inl a, fun a => by rcases a with a | ⟨a, b, c⟩; exact a; omega⟩
  · rw [if_neg h]
    obtain ⟨f, l, b⟩ := x
    by_cases hw : 0 ≤ W p
    · rw [if_pos hw]
      unfold Sp at hs ⊢
      dsimp only at *
      right
      rcases hs with ⟨a1, a2, a3, a4⟩ | ⟨a1, ⟨r, hr, hr1, hr2⟩, ⟨q, hq, hq1, hq2⟩, a4⟩
      · rw [if_pos (.inl a1), if_pos (.inl a1)]
        refine ⟨rfl, ⟨p, .inr ⟨rfl, by omega, by omega⟩, rfl, hw⟩, ⟨p, .inr ⟨rfl, by omega, by omega⟩, rfl, hw⟩, fun t ht ht0 => ?_⟩
        rcases ht with ht | ⟨ht, _⟩
        · have := a4 t ht; omega
        · subst ht; omega
      · subst a1
        refine ⟨rfl, ?_, ?_, fun t ht ht0 => ?_⟩
        · by_cases c : W p < f
          · rw [if_pos (.inr c)]; exact ⟨p, .inr ⟨rfl, by omega, by omega⟩, rfl, hw⟩
          · rw [if_neg (by simp; omega)]; exact ⟨r, .inl hr, hr1, hr2⟩
        · by_cases c : l < W p
          · rw [if_pos (.inr c)]; exact ⟨p, .inr ⟨rfl, by omega, by omega⟩, rfl, hw⟩
          · rw [if_neg (by simp; omega)]; exact ⟨q, .inl hq, hq1, hq2⟩
        · have h5 : (f ≤ W t ∧ W t ≤ l) ∨ W t = W p := by
            rcases ht with ht | ⟨ht, _⟩
            · exact .inl (a4 t ht ht0)
            · subst ht; exact .inr rfl
          simp only [show ((true = false) = False) by simp, false_or]
          split <;> split <;> omega
    · rw [if_neg hw]
      unfold Sp at hs ⊢
      dsimp only at *
      rcases hs with ⟨a1, a2, a3, a4⟩ | ⟨a1, ⟨r, hr, hr1, hr2⟩, ⟨q, hq, hq1, hq2⟩, a4⟩
      · refine .inl ⟨a1, a2, a3, fun t ht => ?_⟩
        rcases ht with ht | ⟨ht, _⟩
        · exact a4 t ht
        · subst ht; omega
      · refine .inr ⟨a1, ⟨r, .inl hr, hr1, hr2⟩, ⟨q, .inl hq, hq1, hq2⟩, fun t ht ht0 => ?_⟩
        rcases ht with ht | ⟨ht, _⟩
        · exact a4 t ht ht0
        · subst ht; omega
theorem foldR_spec (W : Int → Int) (low high : Int) : ∀ (L : List Int) (S : Int → Prop) (x : Hu), Sp W S x → Sp W (fun q => S q ∨ (q ∈ L ∧ low ≤ q ∧ q ≤ high)) (L.foldl (updR W low high) x)
  | [], S, x, hs => hs.congr fun q => ⟨fun a => .inl a, fun a => by rcases a with a | ⟨a, _⟩; exact a; simp at a⟩
  | p :: r, S, x, hs => by
    have := foldR_spec W low high r _ _ (updR_spec W low high S x p hs)
    rw [List.foldl_cons]
    refine this.congr fun q => ?_
    constructor
    · rintro ((a | ⟨a, b⟩) | ⟨a, b⟩)
      · exact .inl a
      · exact .inr ⟨by simp [a], b⟩
      · exact .inr ⟨by simp [a], b⟩
    · rintro (a | ⟨a, b⟩)
      · exact .inl (.inl a)
      · rcases List.mem_cons.1 a with a | a
        · exact .inl (.inr ⟨a, b⟩)
        · exact .inr ⟨a, b⟩
theorem places_cover (W : Int → Int) (low high : Int) : ∀ (r : List Step) (a now : Int), (∀ s ∈ r, okS s) → 0 ≤ now → (∀ p, a ≤ p → W p = whr r (p - a) now) → ∀ p, a ≤ p → low ≤ p → p ≤ high → 0 ≤ W p →
    (∃ q, (q = low ∨ q = high ∨ q ∈ placesP r a) ∧ low ≤ q ∧ q ≤ high ∧ 0 ≤ W q ∧ W q ≤ W p) ∧ (∃ q, (q = low ∨ q = high ∨ q ∈ placesP r a) ∧ low ≤ q ∧ q ≤ high ∧ W p ≤ W q)
  | [], a, now, _, hn, hW, p, h1, h2, h3, h4 => by
    have e := hW p h1
    simp only [whr] at e
    constructor
    · refine ⟨max low a, ?_, by omega, by omega, ?_⟩
      · rcases Int.le_total low a with h | h
        · right; right; rw [Int.max_eq_right h]; simp [placesP]
        · left; rw [Int.max_eq_left h]
      · have e2 := hW (max low a) (by omega)
        simp only [whr] at e2; omega
    · refine ⟨high, .inr (.inl rfl), by omega, by omega, ?_⟩
      have e2 := hW high (by omega)
      simp only [whr] at e2; omega
  | s :: r, a, now, hok, hn, hW, p, h1, h2, h3, h4 => by
    obtain ⟨s1, s2, s3⟩ := hok s (by simp)
    have hok' : ∀ t ∈ r, okS t := fun t ht => hok t (by simp [ht])
    by_cases e1 : s.1 = 1
    · have := places_cover W low high r a (now + s.2) hok' (by omega) (fun q hq => by rw [hW q hq]; simp only [whr]; rw [if_pos e1]) p h1 h2 h3 h4
      simp only [placesP]; rw [if_pos e1]; exact this
    · have hmem : ∀ q, (q = low ∨ q = high ∨ q ∈ placesP r (a + s.2)) → (q = low ∨ q = high ∨ q ∈ placesP (s :: r) a) := fun q hq => by
        simp only [placesP]; rw [if_neg e1]
        rcases hq with h | h | h
        · exact .inl h
        · exact .inr (.inl h)
        · exact .inr (.inr (by simp [h]))
      by_cases hp : p < a + s.2
      · by_cases e0 : s.1 = 0
        · have hk : ∀ q, a ≤ q → q < a + s.2 → W q = now + (q - a) := fun q b c => by
            rw [hW q b]; simp only [whr]; rw [if_neg e1, if_pos e0, if_pos (by omega)]
          have e := hk p h1 hp
          constructor
          · refine ⟨max low a, ?_, by omega, by omega, ?_⟩
            · rcases Int.le_total low a with h | h
              · right; right; rw [Int.max_eq_right h]; simp only [placesP]; rw [if_neg e1]; simp
              · left; rw [Int.max_eq_left h]
            · have e2 := hk (max low a) (by omega) (by omega); omega
          · refine ⟨min high (a + s.2 - 1), ?_, by omega, by omega, ?_⟩
            · rcases Int.le_total high (a + s.2 - 1) with h | h
              · right; left; rw [Int.min_eq_left h]
              · right; right; rw [Int.min_eq_right h]; simp only [placesP]; rw [if_neg e1]; simp
            · have e2 := hk (min high (a + s.2 - 1)) (by omega) (by omega); omega
        · exfalso
          rw [hW p h1] at h4; simp only [whr] at h4; rw [if_neg e1, if_neg e0, if_pos (by omega)] at h4; omega
      · have key : ∀ q, a + s.2 ≤ q → W q = whr r (q - (a + s.2)) (if s.1 = 0 then now + s.2 else now) := fun q hq => by
          rw [hW q (by omega)]; simp only [whr]; rw [if_neg e1]
          by_cases e0 : s.1 = 0
          · rw [if_pos e0, if_pos e0, if_neg (by omega)]; congr 1; omega
          · rw [if_neg e0, if_neg e0, if_neg (by omega)]; congr 1; omega
        obtain ⟨⟨q, c1, c2⟩, ⟨t, d1, d2⟩⟩ := places_cover W low high r (a + s.2) _ hok' (by split <;> omega) key p (by omega) h2 h3 h4
        exact ⟨⟨q, hmem q c1, c2⟩, ⟨t, hmem t d1, d2⟩⟩
def hullP (a : List Step) (low high : Int) : Hu := hullG low high a 0 0 (0, 0, false)
def restP (a : List Step) (low high : Int) : Hu := (low :: high :: placesP a 0).foldl (updR (fun p => whr a p 0) low high) (0, 0, false)
theorem hull_rest (a : List Step) (low high : Int) (hok : ∀ s ∈ a, okS s) (h0 : 0 ≤ low) (hlh : low ≤ high) (h1 : high < 1073741824) : hullP a low high = restP a low high := by
  have hW : ∀ p : Int, 0 ≤ p → (fun p => whr a p 0) p = whr a (p - 0) 0 := fun p _ => by simp
  have k1 : Sp (fun p => whr a p 0) (fun p => low ≤ p ∧ p ≤ high) (hullP a low high) :=
    hullG_spec (fun p => whr a p 0) low high h1 a 0 0 (0, 0, false) hok (by omega) (by omega) hW (.inl ⟨rfl, rfl, rfl, fun p hp => by omega⟩) (fun h => by cases h)
  have k2 := foldR_spec (fun p => whr a p 0) low high (low :: high :: placesP a 0) (fun _ => False) (0, 0, false) (.inl ⟨rfl, rfl, rfl, fun p hp => hp.elim⟩)
  refine k1.unique ?_
  unfold restP
  generalize (low :: high :: placesP a 0).foldl (updR (fun p => whr a p 0) low high) (0, 0, false) = x at k2
  have hc := places_cover (fun p => whr a p 0) low high a 0 0 hok (by omega) hW
  obtain ⟨f, l, b⟩ := x
  unfold Sp at k2 ⊢
  dsimp only at *
  have hin : ∀ q, (q = low ∨ q = high ∨ q ∈ placesP a 0) → low ≤ q → q ≤ high → (False ∨ (q ∈ (low :: high :: placesP a 0) ∧ low ≤ q ∧ q ≤ high)) := fun q h a b => .inr ⟨by simpa using h, a, b⟩
  rcases k2 with ⟨a1, a2, a3, a4⟩ | ⟨a1, ⟨r, hr, hr1, hr2⟩, ⟨q, hq, hq1, hq2⟩, a4⟩
  · refine .inl ⟨a1, a2, a3, fun p hp => ?_⟩
    rcases Int.lt_or_le (whr a p 0) 0 with h | h
    · exact h
    · obtain ⟨⟨q, c1, c2, c3, c4, _⟩, _⟩ := hc p (by omega) hp.1 hp.2 h
      have := a4 q (hin q c1 c2 c3); omega
  · rcases hr with hr | hr
    · exact hr.elim
    rcases hq with hq | hq
    · exact hq.elim
    refine .inr ⟨a1, ⟨r, hr.2, hr1, hr2⟩, ⟨q, hq.2, hq1, hq2⟩, fun p hp hp0 => ?_⟩
    obtain ⟨⟨s, c1, c2, c3, c4, c5⟩, ⟨t, d1, d2, d3, d4⟩⟩ := hc p (by omega) hp.1 hp.2 hp0
    have e1 := a4 s (hin s c1 c2 c3) c4
    have e2 := a4 t (hin t d1 d2 d3) (by omega)
    omega
/-- the error of a change -/
def stepErr (p : Option Step) (s : Step) : Int :=
  if s.1 < 0 ∨ 2 < s.1 then 8 else if s.2 < 1 ∨ 2147483647 < s.2 then 2 else match p with
  | none => 0
  | some q => if q.1 = s.1 ∨ (q.1 = 2 ∧ s.1 = 1) then 5 else 0
def axErr : Option Step → List Step → Int → Int → Int
  | _, [], old, now => if 2147483647 < old ∨ 2147483647 < now then 3 else 0
  | p, s :: r, old, now => if stepErr p s ≠ 0 then stepErr p s else axErr (some s) r (if s.1 = 1 then old else old + s.2) (if s.1 = 2 then now else now + s.2)
theorem axErr_ok : ∀ (r : List Step) (p : Option Step) (old now : Int), axErr p r old now = 0 → ∀ s ∈ r, okS s ∧ s.2 ≤ 2147483647
  | [], _, _, _, _, s, hs => by simp at hs
  | t :: r, p, old, now, h, s, hs => by
    unfold axErr at h
    by_cases e : stepErr p t ≠ 0
    · rw [if_pos e] at h; exact absurd h e
    · rw [if_neg e] at h
      rcases List.mem_cons.1 hs with hs | hs
      · subst hs
        unfold stepErr at e
        have e' : ¬ (s.1 < 0 ∨ 2 < s.1) := fun h => by rw [if_pos h] at e; simp at e
        rw [if_neg e'] at e
        have e2 : ¬ (s.2 < 1 ∨ 2147483647 < s.2) := fun h => by rw [if_pos h] at e; simp at e
        exact ⟨⟨by omega, by omega, by omega⟩, by omega⟩
      · exact axErr_ok r _ _ _ h s hs
end Go.Proofs.YtmodjglbjempkaaGreatDoor.RfP
namespace Go.Proofs.YtmodjglbjempkaaGreatDoor
open Go.RowKit
open Sym
abbrev AxT (L : List RfP.Step) := {t : Nat × Int × Int // t.1 ≤ L.length ∧ 0 ≤ t.2.1 ∧ 0 ≤ t.2.2 ∧ RfP.axErr none L 0 0 = RfP.axErr (if t.1 = 0 then none else L[t.1 - 1]?) (L.drop t.1) t.2.1 t.2.2}
theorem step_at {L : List RfP.Step} {k : Nat} (h : k < L.length) : ∃ s, L[k]? = some s ∧ L.drop k = s :: L.drop (k + 1) := ⟨L[k], List.getElem?_eq_getElem h, List.drop_eq_getElem_cons h⟩
theorem step_cells {C : Ctx} {a : Addr} {i : Nat} {s : RfP.Step} {L : List RfP.Step} (hb : C.base = C.w0.w.heap.size) (h : StepsAt (some a) L C.w0.w) (hs : L[i]? = some s) : ∀ w, Below C.base C.w0.w w → ∀ β j v, (SV.dens β [.int .i64 s.1, .int .i64 s.2])[j]? = some v → w.cell? ((a.add (i * 2)).add j) = some v := by
  intro w hw β j v hj
  rw [hb] at hw
  obtain ⟨a', e, h2, h3, h4⟩ := h.below hw i s hs
  cases e
  match j, hj with
  | 0, hj => simp only [SV.dens, SV.den, List.getElem?_cons_zero, Option.some.injEq] at hj; rw [Go.Deep.add_add, ← hj]; exact h3
  | 1, hj => simp [SV.dens, SV.den] at hj; rw [Go.Deep.add_add, ← hj]; exact h4
  | j + 2, hj => simp [SV.dens] at hj
theorem ax_next {L : List RfP.Step} {k : Nat} {κ ν : Int} {P : Option RfP.Step} {O W : Int} (HA : RfP.axErr none L 0 0 = RfP.axErr P ((κ, ν) :: L.drop (k + 1)) O W) (hs : L[k]? = some (κ, ν)) (h0 : RfP.stepErr P (κ, ν) = 0) :
    RfP.axErr none L 0 0 = RfP.axErr (if k + 1 = 0 then none else L[k + 1 - 1]?) (L.drop (k + 1)) (if κ = 1 then O else O + ν) (if κ = 2 then W else W + ν) := by
  rw [HA, if_neg (by omega), Nat.add_sub_cancel, hs]
  conv => lhs; unfold RfP.axErr
  rw [if_neg (by rw [h0]; simp)]
theorem ax_zero {κ ν : Int} (h : 0 ≤ κ ∧ κ ≤ 2 ∧ 1 ≤ ν ∧ ν ≤ 2147483647) : RfP.stepErr none (κ, ν) = 0 := by
  unfold RfP.stepErr; rw [if_neg (by dsimp only; omega), if_neg (by dsimp only; omega)]
theorem ax_some {κ ν κp νp : Int} (h : 0 ≤ κ ∧ κ ≤ 2 ∧ 1 ≤ ν ∧ ν ≤ 2147483647) (h2 : ¬ (κp = κ ∨ (κp = 2 ∧ κ = 1))) : RfP.stepErr (some (κp, νp)) (κ, ν) = 0 := by
  unfold RfP.stepErr; rw [if_neg (by dsimp only; omega), if_neg (by dsimp only; omega)]; dsimp only; rw [if_neg h2]
set_option maxRecDepth 100000 in
set_option maxHeartbeats 4000000 in
theorem axisCheck_any (la : Option Addr) (cap : Nat) (L : List RfP.Step) (w : World) (h : StepsAt la L w) (hlen : L.length ≤ 9223372036854775807) : Calls Tryz.prog 106 #[.slice la L.length cap] w fun e w' => e = .returned (.int .i64 (RfP.axErr none L 0 0)) ∧ Below w.heap.size w w' := by
  refine enter env_ok Tryz.func106 rfl Tryz.results106 Tryz.ntmps106 [] [] [.any (.slice la L.length cap)] ⟨rfl, trivial⟩ (Nat.le_of_ble_eq_true rfl) w _ 1000 ?_
  repeat' (first | ((with_reducible first | show wpS _ _ _ _ | show putD _ _ _ _ | show putW _ _ _ _ | show splitG _ _ _ | show wpQ _ _ _ _ _ _ | show wpD _ _ _ _ _ _ _); conv => whnf) | ((with_reducible show RetN _ _ _); refine retB fun β => ?_) | ((with_reducible show _ ∧ _); first | (apply And.intro; (· intro h; exfalso; first | omega | (revert h; decide)); intro _) | (apply And.intro; rotate_left; (· intro h; exfalso; first | omega | (revert h; decide)); intro _) | (refine ⟨fun _ => ?_, fun _ => ?_⟩) | (apply And.intro; · kernel_rfl) | (apply And.intro; · (show inK _ _; unfold inK; omega)) | (apply And.intro; · (show (_ : Int) ≤ 9223372036854775807; simp only [List.length_append, List.length_drop, List.length_take, List.length_cons, List.length_nil]; omega))) | ((with_reducible show CallN _ _ _ _ _ _ _ _); first | fail) | ((with_reducible show ∃ _ : SV, _); first | (refine ⟨_, ?ok, x_len Tryz.underlying54, ?_⟩; (case ok => exact fun _ _ => trivial))) | ((with_reducible show ∃ _, _); first | fail))
  refine loop env_ok rfl (T := AxT L) (fun t => ⟨[(0, .any (.slice la L.length cap)), (3, .int .i64 (min t.1.2.1 2147483648)), (4, .int .i64 (min t.1.2.2 2147483648)), (7, .any (.slice la L.length cap)), (8, .int .i64 (L.length : Nat)), (9, .int .i64 (t.1.1 : Nat))], [], 0, 83⟩) (fun t => L.length - t.1.1) ⟨(0, 0, 0), Nat.zero_le _, by decide, by decide, rfl⟩ 1000 [] [] (fun _ => Nat.zero_le _) (by ((with_reducible show wk _ _); repeat' (first | exact trivial | exact eqSV_refl _ | (refine eqI ?_) | (refine eqS ?_) | (with_reducible exact rfl) | apply And.intro | exact Nat.zero_lt_one | exact Nat.le_of_ble_eq_true rfl | (with_reducible assumption) | ((show (_ : Int) = _); (try dsimp only); omega) | ((show eqSV _ _); simp [eqSV, isB, bval, *]; done) | rfl))) (fun t I hI => ?_)
  obtain ⟨⟨k, O, W⟩, hk, hO, hW, HA⟩ := t
  dsimp only at hk hO hW HA ⊢
  by_cases hlt : k < L.length
  · obtain ⟨⟨κ, ν⟩, hs, hd⟩ := step_at hlt
    obtain ⟨a, rfl, -⟩ := h k _ hs
    rw [hd] at HA
    clear hd
    by_cases h0 : k = 0
    · rw [if_pos h0] at HA
      repeat' (first | ((with_reducible first | show wpS _ _ _ _ | show putD _ _ _ _ | show putW _ _ _ _ | show splitG _ _ _ | show wpQ _ _ _ _ _ _ | show wpD _ _ _ _ _ _ _); conv => whnf) | ((with_reducible show RetN _ _ _); refine retB fun β => ?_) | ((with_reducible show _ ∧ _); first | (apply And.intro; (· intro h; exfalso; first | omega | (revert h; decide)); intro _) | (apply And.intro; rotate_left; (· intro h; exfalso; first | omega | (revert h; decide)); intro _) | (refine ⟨fun _ => ?_, fun _ => ?_⟩) | (apply And.intro; · kernel_rfl) | (apply And.intro; · (show inK _ _; unfold inK; omega)) | (apply And.intro; · (show (_ : Int) ≤ 9223372036854775807; simp only [List.length_append, List.length_drop, List.length_take, List.length_cons, List.length_nil]; omega))) | ((with_reducible show CallN _ _ _ _ _ _ _ _); first | fail) | ((with_reducible show ∃ _ : SV, _); first | (refine ⟨_, ?ok, x_index (j := k) (by omega) Tryz.underlying54 (fun w => Tryz.sizeOf78 w) (by omega), ?_⟩; (case ok => exact fun _ _ => rfl)) | (refine ⟨.agg [.int .i64 κ, .int .i64 ν], fun _ _ => ⟨trivial, trivial, trivial⟩, x_loadAgg (fun w => Tryz.isAgg78 w) (fun w => Tryz.sizeOf78 w) (step_cells rfl h hs), ?_⟩)) | ((with_reducible show ∃ _, _); first | fail))
      all_goals first | (with_reducible show BackN _ _ _) | (rw [HA]; simp only [RfP.axErr, RfP.stepErr, SV.den]; congr 1; (repeat' split) <;> omega)
      all_goals have HN := ax_next HA hs (ax_zero (by omega))
      all_goals first | (refine hI _ ⟨(k + 1, O + ν, W + ν), by omega, by dsimp only; omega, by dsimp only; omega, by rw [if_neg (by omega : ¬ κ = 1), if_neg (by omega : ¬ κ = 2)] at HN; exact HN⟩ (by dsimp only; omega) (by ((with_reducible show wk _ _); repeat' (first | exact trivial | exact eqSV_refl _ | (refine eqI ?_) | (refine eqS ?_) | (with_reducible exact rfl) | apply And.intro | exact Nat.zero_lt_one | exact Nat.le_of_ble_eq_true rfl | (with_reducible assumption) | ((show (_ : Int) = _); (try dsimp only); omega) | ((show eqSV _ _); simp [eqSV, isB, bval, *]; done) | rfl)))) | (refine hI _ ⟨(k + 1, O, W + ν), by omega, by dsimp only; omega, by dsimp only; omega, by rw [if_pos (by omega : κ = 1), if_neg (by omega : ¬ κ = 2)] at HN; exact HN⟩ (by dsimp only; omega) (by ((with_reducible show wk _ _); repeat' (first | exact trivial | exact eqSV_refl _ | (refine eqI ?_) | (refine eqS ?_) | (with_reducible exact rfl) | apply And.intro | exact Nat.zero_lt_one | exact Nat.le_of_ble_eq_true rfl | (with_reducible assumption) | ((show (_ : Int) = _); (try dsimp only); omega) | ((show eqSV _ _); simp [eqSV, isB, bval, *]; done) | rfl)))) | (refine hI _ ⟨(k + 1, O + ν, W), by omega, by dsimp only; omega, by dsimp only; omega, by rw [if_neg (by omega : ¬ κ = 1), if_pos (by omega : κ = 2)] at HN; exact HN⟩ (by dsimp only; omega) (by ((with_reducible show wk _ _); repeat' (first | exact trivial | exact eqSV_refl _ | (refine eqI ?_) | (refine eqS ?_) | (with_reducible exact rfl) | apply And.intro | exact Nat.zero_lt_one | exact Nat.le_of_ble_eq_true rfl | (with_reducible assumption) | ((show (_ : Int) = _); (try dsimp only); omega) | ((show eqSV _ _); simp [eqSV, isB, bval, *]; done) | rfl))))
    · obtain ⟨⟨κp, νp⟩, hp⟩ : ∃ p : RfP.Step, L[k - 1]? = some p := ⟨L[k - 1], List.getElem?_eq_getElem (by omega)⟩
      rw [if_neg h0, hp] at HA
      repeat' (first | ((with_reducible first | show wpS _ _ _ _ | show putD _ _ _ _ | show putW _ _ _ _ | show splitG _ _ _ | show wpQ _ _ _ _ _ _ | show wpD _ _ _ _ _ _ _); conv => whnf) | ((with_reducible show RetN _ _ _); refine retB fun β => ?_) | ((with_reducible show _ ∧ _); first | (apply And.intro; (· intro h; exfalso; first | omega | (revert h; decide)); intro _) | (apply And.intro; rotate_left; (· intro h; exfalso; first | omega | (revert h; decide)); intro _) | (refine ⟨fun _ => ?_, fun _ => ?_⟩) | (apply And.intro; · kernel_rfl) | (apply And.intro; · (show inK _ _; unfold inK; omega)) | (apply And.intro; · (show (_ : Int) ≤ 9223372036854775807; simp only [List.length_append, List.length_drop, List.length_take, List.length_cons, List.length_nil]; omega))) | ((with_reducible show CallN _ _ _ _ _ _ _ _); first | fail) | ((with_reducible show ∃ _ : SV, _); first | (refine ⟨_, ?ok, x_index (j := k) (by omega) Tryz.underlying54 (fun w => Tryz.sizeOf78 w) (by omega), ?_⟩; (case ok => exact fun _ _ => rfl)) | (refine ⟨_, ?ok, x_index (j := k - 1) (by omega) Tryz.underlying54 (fun w => Tryz.sizeOf78 w) (by omega), ?_⟩; (case ok => exact fun _ _ => rfl)) | (refine ⟨.agg [.int .i64 κ, .int .i64 ν], fun _ _ => ⟨trivial, trivial, trivial⟩, x_loadAgg (fun w => Tryz.isAgg78 w) (fun w => Tryz.sizeOf78 w) (step_cells rfl h hs), ?_⟩) | (refine ⟨_, ?ok, x_field Tryz.underlying78 rfl (fun w => Tryz.sizeOf3 w) (by decide), ?_⟩; (case ok => exact fun _ _ => rfl)) | (refine ⟨.int .i64 κp, fun _ _ => trivial, x_load1 (fun w => Tryz.isAgg3 w) (fun w hw β => step_cells rfl h hp w hw β 0 _ rfl), ?_⟩)) | ((with_reducible show ∃ _, _); first | fail))
      all_goals first | (with_reducible show BackN _ _ _) | (rw [HA]; simp only [RfP.axErr, RfP.stepErr, SV.den]; congr 1; (repeat' split) <;> omega)
      all_goals have HN := ax_next HA hs (ax_some (by omega) (by omega))
      all_goals first | (refine hI _ ⟨(k + 1, O + ν, W + ν), by omega, by dsimp only; omega, by dsimp only; omega, by rw [if_neg (by omega : ¬ κ = 1), if_neg (by omega : ¬ κ = 2)] at HN; exact HN⟩ (by dsimp only; omega) (by ((with_reducible show wk _ _); repeat' (first | exact trivial | exact eqSV_refl _ | (refine eqI ?_) | (refine eqS ?_) | (with_reducible exact rfl) | apply And.intro | exact Nat.zero_lt_one | exact Nat.le_of_ble_eq_true rfl | (with_reducible assumption) | ((show (_ : Int) = _); (try dsimp only); omega) | ((show eqSV _ _); simp [eqSV, isB, bval, *]; done) | rfl)))) | (refine hI _ ⟨(k + 1, O, W + ν), by omega, by dsimp only; omega, by dsimp only; omega, by rw [if_pos (by omega : κ = 1), if_neg (by omega : ¬ κ = 2)] at HN; exact HN⟩ (by dsimp only; omega) (by ((with_reducible show wk _ _); repeat' (first | exact trivial | exact eqSV_refl _ | (refine eqI ?_) | (refine eqS ?_) | (with_reducible exact rfl) | apply And.intro | exact Nat.zero_lt_one | exact Nat.le_of_ble_eq_true rfl | (with_reducible assumption) | ((show (_ : Int) = _); (try dsimp only); omega) | ((show eqSV _ _); simp [eqSV, isB, bval, *]; done) | rfl)))) | (refine hI _ ⟨(k + 1, O + ν, W), by omega, by dsimp only; omega, by dsimp only; omega, by rw [if_neg (by omega : ¬ κ = 1), if_pos (by omega : κ = 2)] at HN; exact HN⟩ (by dsimp only; omega) (by ((with_reducible show wk _ _); repeat' (first | exact trivial | exact eqSV_refl _ | (refine eqI ?_) | (refine eqS ?_) | (with_reducible exact rfl) | apply And.intro | exact Nat.zero_lt_one | exact Nat.le_of_ble_eq_true rfl | (with_reducible assumption) | ((show (_ : Int) = _); (try dsimp only); omega) | ((show eqSV _ _); simp [eqSV, isB, bval, *]; done) | rfl))))
  · rw [List.drop_eq_nil_of_le (by omega)] at HA
    repeat' (first | ((with_reducible first | show wpS _ _ _ _ | show putD _ _ _ _ | show putW _ _ _ _ | show splitG _ _ _ | show wpQ _ _ _ _ _ _ | show wpD _ _ _ _ _ _ _); conv => whnf) | ((with_reducible show RetN _ _ _); refine retB fun β => ?_) | ((with_reducible show _ ∧ _); first | (apply And.intro; (· intro h; exfalso; first | omega | (revert h; decide)); intro _) | (apply And.intro; rotate_left; (· intro h; exfalso; first | omega | (revert h; decide)); intro _) | (refine ⟨fun _ => ?_, fun _ => ?_⟩) | (apply And.intro; · kernel_rfl) | (apply And.intro; · (show inK _ _; unfold inK; omega)) | (apply And.intro; · (show (_ : Int) ≤ 9223372036854775807; simp only [List.length_append, List.length_drop, List.length_take, List.length_cons, List.length_nil]; omega))) | ((with_reducible show CallN _ _ _ _ _ _ _ _); first | fail) | ((with_reducible show ∃ _ : SV, _); first | fail) | ((with_reducible show ∃ _, _); first | fail))
    all_goals (rw [HA]; simp only [RfP.axErr, SV.den]; congr 1; split <;> omega)
set_option maxRecDepth 100000 in
set_option maxHeartbeats 4000000 in
theorem axisError_any (la : Option Addr) (cap : Nat) (L : List RfP.Step) (w : World) (h : StepsAt la L w) (hlen : L.length ≤ 9223372036854775807) : Calls Tryz.prog 26 #[.slice la L.length cap] w fun e w' => e = .returned (.int .i64 (RfP.axErr none L 0 0)) ∧ Below w.heap.size w w' := by
  refine enter env_ok Tryz.func26 rfl Tryz.results26 Tryz.ntmps26 [] [] [.any (.slice la L.length cap)] ⟨rfl, trivial⟩ (Nat.le_of_ble_eq_true rfl) w _ 1000 ?_
  repeat' (first | ((with_reducible first | show wpS _ _ _ _ | show putD _ _ _ _ | show putW _ _ _ _ | show splitG _ _ _ | show wpQ _ _ _ _ _ _ | show wpD _ _ _ _ _ _ _); conv => whnf) | ((with_reducible show RetN _ _ _); refine retB fun β => ?_) | ((with_reducible show _ ∧ _); first | (apply And.intro; (· intro h; exfalso; first | omega | (revert h; decide)); intro _) | (apply And.intro; rotate_left; (· intro h; exfalso; first | omega | (revert h; decide)); intro _) | (refine ⟨fun _ => ?_, fun _ => ?_⟩) | (apply And.intro; · kernel_rfl) | (apply And.intro; · (show inK _ _; unfold inK; omega)) | (apply And.intro; · (show (_ : Int) ≤ 9223372036854775807; simp only [List.length_append, List.length_drop, List.length_take, List.length_cons, List.length_nil]; omega))) | ((with_reducible show CallN _ _ _ _ _ _ _ _); first | fail) | ((with_reducible show ∃ _ : SV, _); first | (refine ⟨_, ?ok, x_len Tryz.underlying54, ?_⟩; (case ok => exact fun _ _ => trivial))) | ((with_reducible show ∃ _, _); first | fail))
  refine loop env_ok rfl (T := AxT L) (fun t => ⟨[(0, .any (.slice la L.length cap)), (3, .int .i64 (min t.1.2.1 1099511627776)), (4, .int .i64 (min t.1.2.2 1099511627776)), (7, .any (.slice la L.length cap)), (8, .int .i64 (L.length : Nat)), (9, .int .i64 (t.1.1 : Nat))], [], 0, 83⟩) (fun t => L.length - t.1.1) ⟨(0, 0, 0), Nat.zero_le _, by decide, by decide, rfl⟩ 1000 [] [] (fun _ => Nat.zero_le _) (by ((with_reducible show wk _ _); repeat' (first | exact trivial | exact eqSV_refl _ | (refine eqI ?_) | (refine eqS ?_) | (with_reducible exact rfl) | apply And.intro | exact Nat.zero_lt_one | exact Nat.le_of_ble_eq_true rfl | (with_reducible assumption) | ((show (_ : Int) = _); (try dsimp only); omega) | ((show eqSV _ _); simp [eqSV, isB, bval, *]; done) | rfl))) (fun t I hI => ?_)
  obtain ⟨⟨k, O, W⟩, hk, hO, hW, HA⟩ := t
  dsimp only at hk hO hW HA ⊢
  by_cases hlt : k < L.length
  · obtain ⟨⟨κ, ν⟩, hs, hd⟩ := step_at hlt
    obtain ⟨a, rfl, -⟩ := h k _ hs
    rw [hd] at HA
    clear hd
    by_cases h0 : k = 0
    · rw [if_pos h0] at HA
      repeat' (first | ((with_reducible first | show wpS _ _ _ _ | show putD _ _ _ _ | show putW _ _ _ _ | show splitG _ _ _ | show wpQ _ _ _ _ _ _ | show wpD _ _ _ _ _ _ _); conv => whnf) | ((with_reducible show RetN _ _ _); refine retB fun β => ?_) | ((with_reducible show _ ∧ _); first | (apply And.intro; (· intro h; exfalso; first | omega | (revert h; decide)); intro _) | (apply And.intro; rotate_left; (· intro h; exfalso; first | omega | (revert h; decide)); intro _) | (refine ⟨fun _ => ?_, fun _ => ?_⟩) | (apply And.intro; · kernel_rfl) | (apply And.intro; · (show inK _ _; unfold inK; omega)) | (apply And.intro; · (show (_ : Int) ≤ 9223372036854775807; simp only [List.length_append, List.length_drop, List.length_take, List.length_cons, List.length_nil]; omega))) | ((with_reducible show CallN _ _ _ _ _ _ _ _); first | fail) | ((with_reducible show ∃ _ : SV, _); first | (refine ⟨_, ?ok, x_index (j := k) (by omega) Tryz.underlying54 (fun w => Tryz.sizeOf78 w) (by omega), ?_⟩; (case ok => exact fun _ _ => rfl)) | (refine ⟨.agg [.int .i64 κ, .int .i64 ν], fun _ _ => ⟨trivial, trivial, trivial⟩, x_loadAgg (fun w => Tryz.isAgg78 w) (fun w => Tryz.sizeOf78 w) (step_cells rfl h hs), ?_⟩)) | ((with_reducible show ∃ _, _); first | fail))
      all_goals first | (with_reducible show BackN _ _ _) | (rw [HA]; simp only [RfP.axErr, RfP.stepErr, SV.den]; congr 1; (repeat' split) <;> omega)
      all_goals have HN := ax_next HA hs (ax_zero (by omega))
      all_goals first | (refine hI _ ⟨(k + 1, O + ν, W + ν), by omega, by dsimp only; omega, by dsimp only; omega, by rw [if_neg (by omega : ¬ κ = 1), if_neg (by omega : ¬ κ = 2)] at HN; exact HN⟩ (by dsimp only; omega) (by ((with_reducible show wk _ _); repeat' (first | exact trivial | exact eqSV_refl _ | (refine eqI ?_) | (refine eqS ?_) | (with_reducible exact rfl) | apply And.intro | exact Nat.zero_lt_one | exact Nat.le_of_ble_eq_true rfl | (with_reducible assumption) | ((show (_ : Int) = _); (try dsimp only); omega) | ((show eqSV _ _); simp [eqSV, isB, bval, *]; done) | rfl)))) | (refine hI _ ⟨(k + 1, O, W + ν), by omega, by dsimp only; omega, by dsimp only; omega, by rw [if_pos (by omega : κ = 1), if_neg (by omega : ¬ κ = 2)] at HN; exact HN⟩ (by dsimp only; omega) (by ((with_reducible show wk _ _); repeat' (first | exact trivial | exact eqSV_refl _ | (refine eqI ?_) | (refine eqS ?_) | (with_reducible exact rfl) | apply And.intro | exact Nat.zero_lt_one | exact Nat.le_of_ble_eq_true rfl | (with_reducible assumption) | ((show (_ : Int) = _); (try dsimp only); omega) | ((show eqSV _ _); simp [eqSV, isB, bval, *]; done) | rfl)))) | (refine hI _ ⟨(k + 1, O + ν, W), by omega, by dsimp only; omega, by dsimp only; omega, by rw [if_neg (by omega : ¬ κ = 1), if_pos (by omega : κ = 2)] at HN; exact HN⟩ (by dsimp only; omega) (by ((with_reducible show wk _ _); repeat' (first | exact trivial | exact eqSV_refl _ | (refine eqI ?_) | (refine eqS ?_) | (with_reducible exact rfl) | apply And.intro | exact Nat.zero_lt_one | exact Nat.le_of_ble_eq_true rfl | (with_reducible assumption) | ((show (_ : Int) = _); (try dsimp only); omega) | ((show eqSV _ _); simp [eqSV, isB, bval, *]; done) | rfl))))
    · obtain ⟨⟨κp, νp⟩, hp⟩ : ∃ p : RfP.Step, L[k - 1]? = some p := ⟨L[k - 1], List.getElem?_eq_getElem (by omega)⟩
      rw [if_neg h0, hp] at HA
      repeat' (first | ((with_reducible first | show wpS _ _ _ _ | show putD _ _ _ _ | show putW _ _ _ _ | show splitG _ _ _ | show wpQ _ _ _ _ _ _ | show wpD _ _ _ _ _ _ _); conv => whnf) | ((with_reducible show RetN _ _ _); refine retB fun β => ?_) | ((with_reducible show _ ∧ _); first | (apply And.intro; (· intro h; exfalso; first | omega | (revert h; decide)); intro _) | (apply And.intro; rotate_left; (· intro h; exfalso; first | omega | (revert h; decide)); intro _) | (refine ⟨fun _ => ?_, fun _ => ?_⟩) | (apply And.intro; · kernel_rfl) | (apply And.intro; · (show inK _ _; unfold inK; omega)) | (apply And.intro; · (show (_ : Int) ≤ 9223372036854775807; simp only [List.length_append, List.length_drop, List.length_take, List.length_cons, List.length_nil]; omega))) | ((with_reducible show CallN _ _ _ _ _ _ _ _); first | fail) | ((with_reducible show ∃ _ : SV, _); first | (refine ⟨_, ?ok, x_index (j := k) (by omega) Tryz.underlying54 (fun w => Tryz.sizeOf78 w) (by omega), ?_⟩; (case ok => exact fun _ _ => rfl)) | (refine ⟨_, ?ok, x_index (j := k - 1) (by omega) Tryz.underlying54 (fun w => Tryz.sizeOf78 w) (by omega), ?_⟩; (case ok => exact fun _ _ => rfl)) | (refine ⟨.agg [.int .i64 κ, .int .i64 ν], fun _ _ => ⟨trivial, trivial, trivial⟩, x_loadAgg (fun w => Tryz.isAgg78 w) (fun w => Tryz.sizeOf78 w) (step_cells rfl h hs), ?_⟩) | (refine ⟨_, ?ok, x_field Tryz.underlying78 rfl (fun w => Tryz.sizeOf3 w) (by decide), ?_⟩; (case ok => exact fun _ _ => rfl)) | (refine ⟨.int .i64 κp, fun _ _ => trivial, x_load1 (fun w => Tryz.isAgg3 w) (fun w hw β => step_cells rfl h hp w hw β 0 _ rfl), ?_⟩)) | ((with_reducible show ∃ _, _); first | fail))
      all_goals first | (with_reducible show BackN _ _ _) | (rw [HA]; simp only [RfP.axErr, RfP.stepErr, SV.den]; congr 1; (repeat' split) <;> omega)
      all_goals have HN := ax_next HA hs (ax_some (by omega) (by omega))
      all_goals first | (refine hI _ ⟨(k + 1, O + ν, W + ν), by omega, by dsimp only; omega, by dsimp only; omega, by rw [if_neg (by omega : ¬ κ = 1), if_neg (by omega : ¬ κ = 2)] at HN; exact HN⟩ (by dsimp only; omega) (by ((with_reducible show wk _ _); repeat' (first | exact trivial | exact eqSV_refl _ | (refine eqI ?_) | (refine eqS ?_) | (with_reducible exact rfl) | apply And.intro | exact Nat.zero_lt_one | exact Nat.le_of_ble_eq_true rfl | (with_reducible assumption) | ((show (_ : Int) = _); (try dsimp only); omega) | ((show eqSV _ _); simp [eqSV, isB, bval, *]; done) | rfl)))) | (refine hI _ ⟨(k + 1, O, W + ν), by omega, by dsimp only; omega, by dsimp only; omega, by rw [if_pos (by omega : κ = 1), if_neg (by omega : ¬ κ = 2)] at HN; exact HN⟩ (by dsimp only; omega) (by ((with_reducible show wk _ _); repeat' (first | exact trivial | exact eqSV_refl _ | (refine eqI ?_) | (refine eqS ?_) | (with_reducible exact rfl) | apply And.intro | exact Nat.zero_lt_one | exact Nat.le_of_ble_eq_true rfl | (with_reducible assumption) | ((show (_ : Int) = _); (try dsimp only); omega) | ((show eqSV _ _); simp [eqSV, isB, bval, *]; done) | rfl)))) | (refine hI _ ⟨(k + 1, O + ν, W), by omega, by dsimp only; omega, by dsimp only; omega, by rw [if_neg (by omega : ¬ κ = 1), if_pos (by omega : κ = 2)] at HN; exact HN⟩ (by dsimp only; omega) (by ((with_reducible show wk _ _); repeat' (first | exact trivial | exact eqSV_refl _ | (refine eqI ?_) | (refine eqS ?_) | (with_reducible exact rfl) | apply And.intro | exact Nat.zero_lt_one | exact Nat.le_of_ble_eq_true rfl | (with_reducible assumption) | ((show (_ : Int) = _); (try dsimp only); omega) | ((show eqSV _ _); simp [eqSV, isB, bval, *]; done) | rfl))))
  · rw [List.drop_eq_nil_of_le (by omega)] at HA
    repeat' (first | ((with_reducible first | show wpS _ _ _ _ | show putD _ _ _ _ | show putW _ _ _ _ | show splitG _ _ _ | show wpQ _ _ _ _ _ _ | show wpD _ _ _ _ _ _ _); conv => whnf) | ((with_reducible show RetN _ _ _); refine retB fun β => ?_) | ((with_reducible show _ ∧ _); first | (apply And.intro; (· intro h; exfalso; first | omega | (revert h; decide)); intro _) | (apply And.intro; rotate_left; (· intro h; exfalso; first | omega | (revert h; decide)); intro _) | (refine ⟨fun _ => ?_, fun _ => ?_⟩) | (apply And.intro; · kernel_rfl) | (apply And.intro; · (show inK _ _; unfold inK; omega)) | (apply And.intro; · (show (_ : Int) ≤ 9223372036854775807; simp only [List.length_append, List.length_drop, List.length_take, List.length_cons, List.length_nil]; omega))) | ((with_reducible show CallN _ _ _ _ _ _ _ _); first | fail) | ((with_reducible show ∃ _ : SV, _); first | fail) | ((with_reducible show ∃ _, _); first | fail))
    all_goals (rw [HA]; simp only [RfP.axErr, SV.den]; congr 1; split <;> omega)
end Go.Proofs.YtmodjglbjempkaaGreatDoor
namespace Go.Proofs.YtmodjglbjempkaaGreatDoor
open Go.RowKit
open Sym
def sumN : List RfP.Step → Int
  | [] => 0
  | s :: r => s.2 + sumN r
theorem ax_sum : ∀ (r : List RfP.Step) (p : Option RfP.Step) (O W : Int), RfP.axErr p r O W = 0 → O + W + sumN r ≤ 4294967294
  | [], p, O, W, h => by
    unfold RfP.axErr at h
    unfold sumN
    by_cases e : 2147483647 < O ∨ 2147483647 < W
    · rw [if_pos e] at h; omega
    · omega
  | s :: r, p, O, W, h => by
    have hs := (RfP.axErr_ok (s :: r) p O W h s (by simp)).1
    unfold RfP.okS at hs
    unfold RfP.axErr at h
    by_cases e : RfP.stepErr p s ≠ 0
    · rw [if_pos e] at h; exact absurd h e
    · rw [if_neg e] at h
      have := ax_sum r _ _ _ h
      unfold sumN
      split at this <;> split at this <;> omega
theorem sumN_nonneg : ∀ (r : List RfP.Step), (∀ s ∈ r, RfP.okS s) → (r.length : Int) ≤ sumN r
  | [], _ => by simp [sumN]
  | s :: r, h => by
    have h1 := h s (by simp)
    unfold RfP.okS at h1
    have h2 := sumN_nonneg r (fun t ht => h t (by simp [ht]))
    unfold sumN
    simp only [List.length_cons]
    omega
/-- a change without an error -/
structure OKL (L : List RfP.Step) : Prop where
  ok : ∀ s ∈ L, RfP.okS s ∧ s.2 ≤ 2147483647
  sum : sumN L ≤ 4294967294
theorem okl_of {L : List RfP.Step} (h : RfP.axErr none L 0 0 = 0) : OKL L := ⟨RfP.axErr_ok L none 0 0 h, by have := ax_sum L none 0 0 h; omega⟩
theorem OKL.len {L : List RfP.Step} (h : OKL L) : L.length ≤ 4294967294 := by
  have := sumN_nonneg L (fun s hs => (h.ok s hs).1)
  have := h.sum
  omega
theorem OKL.step {L : List RfP.Step} (h : OKL L) {k : Nat} {κ ν : Int} (hd : L.drop k = (κ, ν) :: L.drop (k + 1)) : (0 ≤ κ ∧ κ ≤ 2 ∧ 1 ≤ ν) ∧ ν ≤ 2147483647 ∧ 0 ≤ sumN (L.drop (k + 1)) ∧ sumN (L.drop k) = ν + sumN (L.drop (k + 1)) := by
  have hm : (κ, ν) ∈ L := List.mem_of_mem_drop (i := k) (by rw [hd]; simp)
  have h1 := h.ok _ hm
  have h2 := sumN_nonneg (L.drop (k + 1)) (fun s hs => (h.ok s (List.mem_of_mem_drop hs)).1)
  unfold RfP.okS at h1
  refine ⟨h1.1, h1.2, by omega, ?_⟩
  conv => lhs; rw [hd]
  rfl
theorem OKL.nn {L : List RfP.Step} (h : OKL L) (k : Nat) : 0 ≤ sumN (L.drop k) := by
  have h2 := sumN_nonneg (L.drop k) (fun s hs => (h.ok s (List.mem_of_mem_drop hs)).1)
  omega
set_option maxRecDepth 100000 in
set_option maxHeartbeats 4000000 in
theorem Where_any (la : Option Addr) (cap : Nat) (L : List RfP.Step) (w : World) (h : StepsAt la L w) (ho : OKL L) (p : Int) (hp : 0 ≤ p ∧ p ≤ 4294967296) : Calls Tryz.prog 134 #[.slice la L.length cap, .int .i64 p] w fun e w' => e = .returned (.int .i64 (RfP.whr L p 0)) ∧ Below w.heap.size w w' := by
  have hlen := ho.len
  have hsum := ho.sum
  refine enter env_ok Tryz.func134 rfl Tryz.results134 Tryz.ntmps134 [] [] [.any (.slice la L.length cap), .int .i64 p] ⟨rfl, trivial, trivial⟩ (Nat.le_of_ble_eq_true rfl) w _ 1000 ?_
  repeat' (first | ((with_reducible first | show wpS _ _ _ _ | show putD _ _ _ _ | show putW _ _ _ _ | show splitG _ _ _ | show wpQ _ _ _ _ _ _ | show wpD _ _ _ _ _ _ _); conv => whnf) | ((with_reducible show RetN _ _ _); refine retB fun β => ?_) | ((with_reducible show _ ∧ _); first | (apply And.intro; (· intro h; exfalso; first | omega | (revert h; decide)); intro _) | (apply And.intro; rotate_left; (· intro h; exfalso; first | omega | (revert h; decide)); intro _) | (refine ⟨fun _ => ?_, fun _ => ?_⟩) | (apply And.intro; · kernel_rfl) | (apply And.intro; · (show inK _ _; unfold inK; omega)) | (apply And.intro; · (show (_ : Int) ≤ 9223372036854775807; simp only [List.length_append, List.length_drop, List.length_take, List.length_cons, List.length_nil]; omega))) | ((with_reducible show CallN _ _ _ _ _ _ _ _); first | fail) | ((with_reducible show ∃ _ : SV, _); first | (refine ⟨_, ?ok, x_len Tryz.underlying54, ?_⟩; (case ok => exact fun _ _ => trivial))) | ((with_reducible show ∃ _, _); first | fail))
  refine loop env_ok rfl (T := {t : Nat × Int × Int // t.1 ≤ L.length ∧ 0 ≤ t.2.1 ∧ t.2.1 ≤ 4294967296 ∧ 0 ≤ t.2.2 ∧ t.2.2 + sumN (L.drop t.1) ≤ 4294967294 ∧ RfP.whr L p 0 = RfP.whr (L.drop t.1) t.2.1 t.2.2}) (fun t => ⟨[(0, .any (.slice la L.length cap)), (1, .int .i64 t.1.2.1), (5, .int .i64 t.1.2.2), (8, .any (.slice la L.length cap)), (9, .int .i64 (L.length : Nat)), (10, .int .i64 (t.1.1 : Nat))], [], 0, 51⟩) (fun t => L.length - t.1.1) ⟨(0, p, 0), Nat.zero_le _, hp.1, hp.2, Int.le_refl _, by simpa using hsum, rfl⟩ 1000 [] [] (fun _ => Nat.zero_le _) (by ((with_reducible show wk _ _); repeat' (first | exact trivial | exact eqSV_refl _ | (refine eqI ?_) | (refine eqS ?_) | (with_reducible exact rfl) | apply And.intro | exact Nat.zero_lt_one | exact Nat.le_of_ble_eq_true rfl | (with_reducible assumption) | ((show (_ : Int) = _); (try dsimp only); omega) | ((show eqSV _ _); simp [eqSV, isB, bval, *]; done) | rfl))) (fun t I hI => ?_)
  obtain ⟨⟨k, P, O⟩, hk, hP, hP2, hO, hS, HA⟩ := t
  dsimp only at hk hP hP2 hO hS HA ⊢
  clear hp hsum
  by_cases hlt : k < L.length
  · obtain ⟨⟨κ, ν⟩, hs, hd⟩ := step_at hlt
    obtain ⟨a, rfl, -⟩ := h k _ hs
    obtain ⟨h1, h2, h3, h4⟩ := ho.step hd
    rw [h4] at hS
    rw [hd] at HA
    clear hd h4
    repeat' (first | ((with_reducible first | show wpS _ _ _ _ | show putD _ _ _ _ | show putW _ _ _ _ | show splitG _ _ _ | show wpQ _ _ _ _ _ _ | show wpD _ _ _ _ _ _ _); conv => whnf) | ((with_reducible show RetN _ _ _); refine retB fun β => ?_) | ((with_reducible show _ ∧ _); first | (apply And.intro; (· intro h; exfalso; first | omega | (revert h; decide)); intro _) | (apply And.intro; rotate_left; (· intro h; exfalso; first | omega | (revert h; decide)); intro _) | (refine ⟨fun _ => ?_, fun _ => ?_⟩) | (apply And.intro; · kernel_rfl) | (apply And.intro; · (show inK _ _; unfold inK; omega)) | (apply And.intro; · (show (_ : Int) ≤ 9223372036854775807; simp only [List.length_append, List.length_drop, List.length_take, List.length_cons, List.length_nil]; omega))) | ((with_reducible show CallN _ _ _ _ _ _ _ _); first | fail) | ((with_reducible show ∃ _ : SV, _); first | (refine ⟨_, ?ok, x_index (j := k) (by omega) Tryz.underlying54 (fun w => Tryz.sizeOf78 w) (by omega), ?_⟩; (case ok => exact fun _ _ => rfl)) | (refine ⟨.agg [.int .i64 κ, .int .i64 ν], fun _ _ => ⟨trivial, trivial, trivial⟩, x_loadAgg (fun w => Tryz.isAgg78 w) (fun w => Tryz.sizeOf78 w) (step_cells rfl h hs), ?_⟩)) | ((with_reducible show ∃ _, _); first | fail))
    all_goals first | (with_reducible show BackN _ _ _) | (rw [HA]; simp only [RfP.whr, SV.den]; congr 1; (repeat' split) <;> omega)
    all_goals first | (refine hI _ ⟨(k + 1, P, O + ν), by omega, by dsimp only; omega, by dsimp only; omega, by dsimp only; omega, by dsimp only; omega, by rw [HA]; simp only [RfP.whr]; rw [if_pos (by omega : κ = 1)]⟩ (by dsimp only; omega) (by ((with_reducible show wk _ _); repeat' (first | exact trivial | exact eqSV_refl _ | (refine eqI ?_) | (refine eqS ?_) | (with_reducible exact rfl) | apply And.intro | exact Nat.zero_lt_one | exact Nat.le_of_ble_eq_true rfl | (with_reducible assumption) | ((show (_ : Int) = _); (try dsimp only); omega) | ((show eqSV _ _); simp [eqSV, isB, bval, *]; done) | rfl)))) | (refine hI _ ⟨(k + 1, P - ν, O + ν), by omega, by dsimp only; omega, by dsimp only; omega, by dsimp only; omega, by dsimp only; omega, by rw [HA]; simp only [RfP.whr]; rw [if_neg (by omega : ¬ κ = 1), if_pos (by omega : κ = 0), if_neg (by omega : ¬ P < ν)]⟩ (by dsimp only; omega) (by ((with_reducible show wk _ _); repeat' (first | exact trivial | exact eqSV_refl _ | (refine eqI ?_) | (refine eqS ?_) | (with_reducible exact rfl) | apply And.intro | exact Nat.zero_lt_one | exact Nat.le_of_ble_eq_true rfl | (with_reducible assumption) | ((show (_ : Int) = _); (try dsimp only); omega) | ((show eqSV _ _); simp [eqSV, isB, bval, *]; done) | rfl)))) | (refine hI _ ⟨(k + 1, P - ν, O), by omega, by dsimp only; omega, by dsimp only; omega, by dsimp only; omega, by dsimp only; omega, by rw [HA]; simp only [RfP.whr]; rw [if_neg (by omega : ¬ κ = 1), if_neg (by omega : ¬ κ = 0), if_neg (by omega : ¬ P < ν)]⟩ (by dsimp only; omega) (by ((with_reducible show wk _ _); repeat' (first | exact trivial | exact eqSV_refl _ | (refine eqI ?_) | (refine eqS ?_) | (with_reducible exact rfl) | apply And.intro | exact Nat.zero_lt_one | exact Nat.le_of_ble_eq_true rfl | (with_reducible assumption) | ((show (_ : Int) = _); (try dsimp only); omega) | ((show eqSV _ _); simp [eqSV, isB, bval, *]; done) | rfl))))
  · rw [List.drop_eq_nil_of_le (by omega)] at HA hS
    simp only [sumN] at hS
    repeat' (first | ((with_reducible first | show wpS _ _ _ _ | show putD _ _ _ _ | show putW _ _ _ _ | show splitG _ _ _ | show wpQ _ _ _ _ _ _ | show wpD _ _ _ _ _ _ _); conv => whnf) | ((with_reducible show RetN _ _ _); refine retB fun β => ?_) | ((with_reducible show _ ∧ _); first | (apply And.intro; (· intro h; exfalso; first | omega | (revert h; decide)); intro _) | (apply And.intro; rotate_left; (· intro h; exfalso; first | omega | (revert h; decide)); intro _) | (refine ⟨fun _ => ?_, fun _ => ?_⟩) | (apply And.intro; · kernel_rfl) | (apply And.intro; · (show inK _ _; unfold inK; omega)) | (apply And.intro; · (show (_ : Int) ≤ 9223372036854775807; simp only [List.length_append, List.length_drop, List.length_take, List.length_cons, List.length_nil]; omega))) | ((with_reducible show CallN _ _ _ _ _ _ _ _); first | fail) | ((with_reducible show ∃ _ : SV, _); first | fail) | ((with_reducible show ∃ _, _); first | fail))
    rw [HA]; rfl
end Go.Proofs.YtmodjglbjempkaaGreatDoor
namespace Go.Proofs.YtmodjglbjempkaaGreatDoor
open Go.RowKit
open Sym
abbrev hullCaps : List SV := [.ptr 0 0, .ptr 5 0, .ptr 1 0, .ptr 4 0, .ptr 6 0, .ptr 2 0, .ptr 3 0]
abbrev hullRows (low high old now : Int) (x : RfP.Hu) (r : List (Nat × Bool × SRow)) : List (Nat × Bool × SRow) := (0, true, .cells 3 [.int .i64 low]) :: (1, true, .cells 3 [.int .i64 high]) :: (2, true, .cells 3 [.int .i64 x.1]) :: (3, true, .cells 3 [.int .i64 x.2.1]) :: (4, true, .cells 4 [.bool x.2.2]) :: (5, true, .cells 3 [.int .i64 old]) :: (6, true, .cells 3 [.int .i64 now]) :: r
set_option maxRecDepth 100000 in
set_option maxHeartbeats 4000000 in
theorem hull_any (la : Option Addr) (cap : Nat) (L : List RfP.Step) (w : World) (h : StepsAt la L w) (ho : OKL L) (low high : Int) (hl : 0 ≤ low ∧ low ≤ 1073741824) (hh : 0 ≤ high ∧ high ≤ 1073741824) : Calls Tryz.prog 107 #[.slice la L.length cap, .int .i64 low, .int .i64 high] w fun e w' => e = .returned (.tuple #[.int .i64 (RfP.hullP L low high).1, .int .i64 (RfP.hullP L low high).2.1, .bool (RfP.hullP L low high).2.2]) ∧ Below w.heap.size w w' := by
  have F1 := Tryz.func133
  have F2 := Tryz.results133
  have F3 := Tryz.ntmps133
  have hlen := ho.len
  have hsum := ho.sum
  have H0 : RfP.hullP L low high = RfP.hullG low high L 0 0 (0, 0, false) := rfl
  refine enter env_ok Tryz.func107 rfl Tryz.results107 Tryz.ntmps107 [] [] [.any (.slice la L.length cap), .int .i64 low, .int .i64 high] ⟨rfl, trivial, trivial, trivial⟩ (Nat.le_of_ble_eq_true rfl) w _ 1000 ?_
  repeat' (first | ((with_reducible first | show wpS _ _ _ _ | show putD _ _ _ _ | show putW _ _ _ _ | show splitG _ _ _ | show wpQ _ _ _ _ _ _ | show wpD _ _ _ _ _ _ _); conv => whnf) | ((with_reducible show RetN _ _ _); refine retB fun β => ?_) | ((with_reducible show _ ∧ _); first | (apply And.intro; (· intro h; exfalso; first | omega | (revert h; decide)); intro _) | (apply And.intro; rotate_left; (· intro h; exfalso; first | omega | (revert h; decide)); intro _) | (refine ⟨fun _ => ?_, fun _ => ?_⟩) | (apply And.intro; · kernel_rfl) | (apply And.intro; · (show inK _ _; unfold inK; omega)) | (apply And.intro; · (show (_ : Int) ≤ 9223372036854775807; simp only [List.length_append, List.length_drop, List.length_take, List.length_cons, List.length_nil]; omega))) | ((with_reducible show CallN _ _ _ _ _ _ _ _); first | fail) | ((with_reducible show ∃ _ : SV, _); first | (refine ⟨_, ?ok, x_len Tryz.underlying54, ?_⟩; (case ok => exact fun _ _ => trivial)) | (refine ⟨_, ?ok, x_func, ?_⟩; (case ok => exact fun n h => h))) | ((with_reducible show ∃ _, _); first | fail))
  refine loop env_ok rfl (T := {t : Nat × Int × Int × RfP.Hu // t.1 ≤ L.length ∧ 0 ≤ t.2.1 ∧ t.2.1 + sumN (L.drop t.1) ≤ 4294967294 ∧ 0 ≤ t.2.2.1 ∧ t.2.2.1 + sumN (L.drop t.1) ≤ 4294967294 ∧ RfP.hullP L low high = RfP.hullG low high (L.drop t.1) t.2.1 t.2.2.1 t.2.2.2}) (fun t => ⟨[(0, .any (.slice la L.length cap)), (9, .ptr 2 0), (10, .ptr 3 0), (11, .ptr 4 0), (12, .ptr 5 0), (13, .ptr 6 0), (14, .fn 133 hullCaps), (18, .any (.slice la L.length cap)), (19, .int .i64 (L.length : Nat)), (20, .int .i64 (t.1.1 : Nat))], hullRows low high t.1.2.1 t.1.2.2.1 t.1.2.2.2 [], 7, 51⟩) (fun t => L.length - t.1.1) ⟨(0, 0, 0, (0, 0, false)), Nat.zero_le _, Int.le_refl _, by simpa using hsum, Int.le_refl _, by simpa using hsum, H0⟩ 1000 [] [] (fun _ => Nat.zero_le _) (by ((with_reducible show wk _ _); repeat' (first | exact trivial | exact eqSV_refl _ | (refine eqI ?_) | (refine eqS ?_) | (with_reducible exact rfl) | apply And.intro | exact Nat.zero_lt_one | exact Nat.le_of_ble_eq_true rfl | (with_reducible assumption) | ((show (_ : Int) = _); (try dsimp only); omega) | ((show eqSV _ _); simp [eqSV, isB, bval, *]; done) | rfl))) (fun t I hI => ?_)
  obtain ⟨⟨k, old, now, f, l, b⟩, hk, hO, hOS, hN, hNS, HA⟩ := t
  dsimp only [hullRows] at hk hO hOS hN hNS HA ⊢
  clear hsum H0
  by_cases hlt : k < L.length
  · obtain ⟨⟨κ, ν⟩, hs, hd⟩ := step_at hlt
    obtain ⟨a, rfl, -⟩ := h k _ hs
    obtain ⟨h1, h2, h3, h4⟩ := ho.step hd
    rw [h4] at hOS hNS
    rw [hd] at HA
    clear hd h4
    repeat' (first | ((with_reducible first | show wpS _ _ _ _ | show putD _ _ _ _ | show putW _ _ _ _ | show splitG _ _ _ | show wpQ _ _ _ _ _ _ | show wpD _ _ _ _ _ _ _); conv => whnf) | ((with_reducible show RetN _ _ _); refine retB fun β => ?_) | ((with_reducible show _ ∧ _); first | (apply And.intro; (· intro h; exfalso; first | omega | (revert h; decide)); intro _) | (apply And.intro; rotate_left; (· intro h; exfalso; first | omega | (revert h; decide)); intro _) | (refine ⟨fun _ => ?_, fun _ => ?_⟩) | (apply And.intro; · kernel_rfl) | (apply And.intro; · (show inK _ _; unfold inK; omega)) | (apply And.intro; · (show (_ : Int) ≤ 9223372036854775807; simp only [List.length_append, List.length_drop, List.length_take, List.length_cons, List.length_nil]; omega))) | ((with_reducible show CallN _ _ _ _ _ _ _ _); first | (refine inline env_ok rfl F1 rfl F2 F3 (by kernel_rfl) rfl (by simp [SV.oks, SV.ok]) (Nat.le_of_ble_eq_true rfl) (T := {y : RfP.Hu // y = RfP.keepP low high old now ν (f, l, b)}) (fun _ => .tup []) (fun t => hullRows low high old now t.1 [(7, true, .cells 78 [.int .i64 κ, .int .i64 ν])]) [] [] 1000 1000 (fun R' β0 hR => ?_) (fun t => ?_))) | ((with_reducible show ∃ _ : SV, _); first | (refine ⟨_, ?ok, x_index (j := k) (by omega) Tryz.underlying54 (fun w => Tryz.sizeOf78 w) (by omega), ?_⟩; (case ok => exact fun _ _ => rfl)) | (refine ⟨.agg [.int .i64 κ, .int .i64 ν], fun _ _ => ⟨trivial, trivial, trivial⟩, x_loadAgg (fun w => Tryz.isAgg78 w) (fun w => Tryz.sizeOf78 w) (step_cells rfl h hs), ?_⟩)) | ((with_reducible show ∃ _, _); first | fail))
    · exact hR ⟨(now + max low old - old, now + min high (old + ν - 1) - old, true), by have hb : b = false := (by simpa using ‹(!b) = true›); simp only [RfP.keepP]; rw [if_pos ‹_›, hb]; simp⟩ _ _ (by unfold wkV; refine ⟨rfl, eqSV_refl _, trivial, ?_⟩; repeat' (first | exact trivial | exact eqSV_refl _ | (refine eqI ?_) | (refine eqS ?_) | (with_reducible exact rfl) | apply And.intro | exact Nat.zero_lt_one | exact Nat.le_of_ble_eq_true rfl | (with_reducible assumption) | ((show (_ : Int) = _); (try dsimp only); omega) | ((show eqSV _ _); simp [eqSV, isB, bval, *]; done) | rfl))
    · exact hR ⟨(f, now + min high (old + ν - 1) - old, b), by have hb : b = true := (by simpa using ‹(!b) = false›); simp only [RfP.keepP]; rw [if_pos ‹_›, hb]; simp⟩ _ _ (by unfold wkV; refine ⟨rfl, eqSV_refl _, trivial, ?_⟩; repeat' (first | exact trivial | exact eqSV_refl _ | (refine eqI ?_) | (refine eqS ?_) | (with_reducible exact rfl) | apply And.intro | exact Nat.zero_lt_one | exact Nat.le_of_ble_eq_true rfl | (with_reducible assumption) | ((show (_ : Int) = _); (try dsimp only); omega) | ((show eqSV _ _); simp [eqSV, isB, bval, *]; done) | rfl))
    · exact hR ⟨(f, l, b), by simp only [RfP.keepP]; rw [if_neg ‹_›]⟩ _ _ (by unfold wkV; refine ⟨rfl, eqSV_refl _, trivial, ?_⟩; repeat' (first | exact trivial | exact eqSV_refl _ | (refine eqI ?_) | (refine eqS ?_) | (with_reducible exact rfl) | apply And.intro | exact Nat.zero_lt_one | exact Nat.le_of_ble_eq_true rfl | (with_reducible assumption) | ((show (_ : Int) = _); (try dsimp only); omega) | ((show eqSV _ _); simp [eqSV, isB, bval, *]; done) | rfl))
    · refine hI _ ⟨(k + 1, old + ν, now + ν, t.1), by omega, by dsimp only; omega, by dsimp only; omega, by dsimp only; omega, by dsimp only; omega, ?_⟩ (by dsimp only; omega) (by ((with_reducible show wk _ _); repeat' (first | exact trivial | exact eqSV_refl _ | (refine eqI ?_) | (refine eqS ?_) | (with_reducible exact rfl) | apply And.intro | exact Nat.zero_lt_one | exact Nat.le_of_ble_eq_true rfl | (with_reducible assumption) | ((show (_ : Int) = _); (try dsimp only); omega) | ((show eqSV _ _); simp [eqSV, isB, bval, *]; done) | rfl)))
      rw [HA]; simp only [RfP.hullG]; rw [if_neg (by omega : ¬ κ = 1), if_neg (by omega : ¬ κ = 2), if_pos (by omega : κ = 0), show t.1 = _ from t.2]
    · refine hI _ ⟨(k + 1, old, now + ν, (f, l, b)), by omega, by dsimp only; omega, by dsimp only; omega, by dsimp only; omega, by dsimp only; omega, ?_⟩ (by dsimp only; omega) (by ((with_reducible show wk _ _); repeat' (first | exact trivial | exact eqSV_refl _ | (refine eqI ?_) | (refine eqS ?_) | (with_reducible exact rfl) | apply And.intro | exact Nat.zero_lt_one | exact Nat.le_of_ble_eq_true rfl | (with_reducible assumption) | ((show (_ : Int) = _); (try dsimp only); omega) | ((show eqSV _ _); simp [eqSV, isB, bval, *]; done) | rfl)))
      rw [HA]; simp only [RfP.hullG]; rw [if_pos (by omega : κ = 1), if_neg (by omega : ¬ κ = 2), if_neg (by omega : ¬ κ = 0)]
    · refine hI _ ⟨(k + 1, old + ν, now, (f, l, b)), by omega, by dsimp only; omega, by dsimp only; omega, by dsimp only; omega, by dsimp only; omega, ?_⟩ (by dsimp only; omega) (by ((with_reducible show wk _ _); repeat' (first | exact trivial | exact eqSV_refl _ | (refine eqI ?_) | (refine eqS ?_) | (with_reducible exact rfl) | apply And.intro | exact Nat.zero_lt_one | exact Nat.le_of_ble_eq_true rfl | (with_reducible assumption) | ((show (_ : Int) = _); (try dsimp only); omega) | ((show eqSV _ _); simp [eqSV, isB, bval, *]; done) | rfl)))
      rw [HA]; simp only [RfP.hullG]; rw [if_neg (by omega : ¬ κ = 1), if_pos (by omega : κ = 2), if_neg (by omega : ¬ κ = 0)]
  · rw [List.drop_eq_nil_of_le (by omega)] at HA hOS hNS
    simp only [sumN] at hOS hNS
    simp only [RfP.hullG] at HA
    repeat' (first | ((with_reducible first | show wpS _ _ _ _ | show putD _ _ _ _ | show putW _ _ _ _ | show splitG _ _ _ | show wpQ _ _ _ _ _ _ | show wpD _ _ _ _ _ _ _); conv => whnf) | ((with_reducible show RetN _ _ _); refine retB fun β => ?_) | ((with_reducible show _ ∧ _); first | (apply And.intro; (· intro h; exfalso; first | omega | (revert h; decide)); intro _) | (apply And.intro; rotate_left; (· intro h; exfalso; first | omega | (revert h; decide)); intro _) | (refine ⟨fun _ => ?_, fun _ => ?_⟩) | (apply And.intro; · kernel_rfl) | (apply And.intro; · (show inK _ _; unfold inK; omega)) | (apply And.intro; · (show (_ : Int) ≤ 9223372036854775807; simp only [List.length_append, List.length_drop, List.length_take, List.length_cons, List.length_nil]; omega))) | ((with_reducible show CallN _ _ _ _ _ _ _ _); first | (refine inline env_ok rfl F1 rfl F2 F3 (by kernel_rfl) rfl (by simp [SV.oks, SV.ok]) (Nat.le_of_ble_eq_true rfl) (T := {y : RfP.Hu // y = RfP.keepP low high old now 1073741824 (f, l, b)}) (fun _ => .tup []) (fun t => hullRows low high old now t.1 []) [] [] 1000 1000 (fun R' β0 hR => ?_) (fun t => ?_))) | ((with_reducible show ∃ _ : SV, _); first | fail) | ((with_reducible show ∃ _, _); first | fail))
    · exact hR ⟨(now + max low old - old, now + min high (old + 1073741824 - 1) - old, true), by have hb : b = false := (by simpa using ‹(!b) = true›); simp only [RfP.keepP]; rw [if_pos ‹_›, hb]; simp⟩ _ _ (by unfold wkV; refine ⟨rfl, eqSV_refl _, trivial, ?_⟩; repeat' (first | exact trivial | exact eqSV_refl _ | (refine eqI ?_) | (refine eqS ?_) | (with_reducible exact rfl) | apply And.intro | exact Nat.zero_lt_one | exact Nat.le_of_ble_eq_true rfl | (with_reducible assumption) | ((show (_ : Int) = _); (try dsimp only); omega) | ((show eqSV _ _); simp [eqSV, isB, bval, *]; done) | rfl))
    · exact hR ⟨(f, now + min high (old + 1073741824 - 1) - old, b), by have hb : b = true := (by simpa using ‹(!b) = false›); simp only [RfP.keepP]; rw [if_pos ‹_›, hb]; simp⟩ _ _ (by unfold wkV; refine ⟨rfl, eqSV_refl _, trivial, ?_⟩; repeat' (first | exact trivial | exact eqSV_refl _ | (refine eqI ?_) | (refine eqS ?_) | (with_reducible exact rfl) | apply And.intro | exact Nat.zero_lt_one | exact Nat.le_of_ble_eq_true rfl | (with_reducible assumption) | ((show (_ : Int) = _); (try dsimp only); omega) | ((show eqSV _ _); simp [eqSV, isB, bval, *]; done) | rfl))
    · exact hR ⟨(f, l, b), by simp only [RfP.keepP]; rw [if_neg ‹_›]⟩ _ _ (by unfold wkV; refine ⟨rfl, eqSV_refl _, trivial, ?_⟩; repeat' (first | exact trivial | exact eqSV_refl _ | (refine eqI ?_) | (refine eqS ?_) | (with_reducible exact rfl) | apply And.intro | exact Nat.zero_lt_one | exact Nat.le_of_ble_eq_true rfl | (with_reducible assumption) | ((show (_ : Int) = _); (try dsimp only); omega) | ((show eqSV _ _); simp [eqSV, isB, bval, *]; done) | rfl))
    · rw [HA, show t.1 = _ from t.2]; rfl
end Go.Proofs.YtmodjglbjempkaaGreatDoor
namespace Go.Proofs.YtmodjglbjempkaaGreatDoor
open Go.RowKit
open Sym
namespace RfP
/-- what the program makes of a reference -/
def thrP (x : Ref) (R C : List Step) : Ref :=
  if x.k = 4 then x else
  let y : Ref := if x.k = 0 then { x with r2 := x.r, c2 := x.c } else x
  let a : Hu := if x.k = 3 then (y.r, y.r2, true) else hullP R y.r y.r2
  let b : Hu := if x.k = 2 ∨ a.2.2 = false then (y.c, y.c2, a.2.2) else hullP C y.c y.c2
  if b.2.2 = false then badR else fittingP { y with r := a.1, r2 := a.2.1, c := b.1, c2 := b.2.1 }
def throughP (x : Ref) (R C : List Step) : Ref × Int :=
  if checkP x ≠ 0 then (zeroR, checkP x) else if axErr none R 0 0 ≠ 0 then (zeroR, axErr none R 0 0) else if axErr none C 0 0 ≠ 0 then (zeroR, axErr none C 0 0) else (thrP x R C, 0)
end RfP
attribute [local irreducible] Calls Sym.AggEq RfP.checkP RfP.fittingP RfP.axErr RfP.hullP
set_option maxRecDepth 100000 in
set_option maxHeartbeats 4000000 in
theorem Through_any (x : RfP.Ref) (la lb : Option Addr) (ca cb : Nat) (R C : List RfP.Step) (w : World) (hR : StepsAt la R w) (hC : StepsAt lb C w) (lR : R.length ≤ 9223372036854775807) (lC : C.length ≤ 9223372036854775807) :
    Calls Tryz.prog 53 #[.agg (refC x), .slice la R.length ca, .slice lb C.length cb] w (RefPost w (RfP.throughP x R C)) := by
  have HX : RfP.throughP x R C = if RfP.checkP x ≠ 0 then (RfP.zeroR, RfP.checkP x) else if RfP.axErr none R 0 0 ≠ 0 then (RfP.zeroR, RfP.axErr none R 0 0) else if RfP.axErr none C 0 0 ≠ 0 then (RfP.zeroR, RfP.axErr none C 0 0) else (RfP.thrP x R C, 0) := rfl
  by_cases h : RfP.checkP x = 0
  · have hx := ref_bounds h
    rw [if_neg (fun e => e h)] at HX
    obtain ⟨sh, k, rr, c, r2, c2, ar, ac, ar2, ac2⟩ := x
    dsimp only at hx
    refine enter env_ok Tryz.func53 rfl Tryz.results53 Tryz.ntmps53 [] [] [.agg [.str sh, .int .i64 k, .int .i64 rr, .int .i64 c, .int .i64 r2, .int .i64 c2, .bool ar, .bool ac, .bool ar2, .bool ac2], .any (.slice la R.length ca), .any (.slice lb C.length cb)] ⟨⟨trivial, trivial, trivial, trivial, trivial, trivial, trivial, trivial, trivial, trivial, trivial⟩, rfl, rfl, trivial⟩ (Nat.le_of_ble_eq_true rfl) w _ 1000 ?_
    have u77 := Tryz.underlying113
    have s48 := fun w => Tryz.sizeOf54 w
    have g48 := fun w => Tryz.isAgg54 w
    have z77 := fun w => Tryz.zeroValue113 w
    repeat' (first | ((with_reducible first | show wpS _ _ _ _ | show putD _ _ _ _ | show putW _ _ _ _ | show splitG _ _ _ | show wpQ _ _ _ _ _ _ | show wpD _ _ _ _ _ _ _); conv => whnf) | ((with_reducible show RetN _ _ _); refine retB fun β => ?_) | ((with_reducible show _ ∧ _); first | (apply And.intro; (· intro h; exfalso; first | omega | (revert h; decide)); intro _) | (apply And.intro; rotate_left; (· intro h; exfalso; first | omega | (revert h; decide)); intro _) | (refine ⟨fun _ => ?_, fun _ => ?_⟩) | (apply And.intro; · kernel_rfl) | (apply And.intro; · (show inK _ _; unfold inK; omega)) | (apply And.intro; · (show (_ : Int) ≤ 9223372036854775807; simp only [List.length_append, List.length_drop, List.length_take, List.length_cons, List.length_nil]; omega))) | ((with_reducible show CallN _ _ _ _ _ _ _ _); first | (refine call env_ok rfl (.int .i64 (RfP.checkP ⟨_, _, _, _, _, _, _, _, _, _⟩)) 1000 (by kernel_rfl) rfl (trivial) (fun β w hm => Check_any ⟨_, _, _, _, _, _, _, _, _, _⟩ w) ?_)) | ((with_reducible show ∃ _ : SV, _); first | (refine ⟨_, ?ok, x_pair u77 s48 z77 rfl, ?_⟩; (case ok => exact fun _ h => ⟨h.1, h.2.1, trivial⟩))) | ((with_reducible show ∃ _, _); first | fail))
    refine loop env_ok rfl (T := {i : Nat // i ≤ 2 ∧ (1 ≤ i → RfP.axErr none R 0 0 = 0) ∧ (2 ≤ i → RfP.axErr none C 0 0 = 0)}) (fun t => ⟨[(1, .any (.slice la R.length ca)), (2, .any (.slice lb C.length cb)), (3, .ptr 0 0), (6, .ptr 1 0), (7, .int .i64 0), (21, .agg [.any (.slice la R.length ca), .any (.slice lb C.length cb)]), (22, .int .i64 (t.1 : Nat))], [(0, true, .cells 35 [.str sh, .int .i64 k, .int .i64 rr, .int .i64 c, .int .i64 r2, .int .i64 c2, .bool ar, .bool ac, .bool ar2, .bool ac2]), (1, true, .cells 35 rZ)], 2, 83⟩) (fun t => 2 - t.1) ⟨0, by omega, fun h => absurd h (by omega), fun h => absurd h (by omega)⟩ 1000 [] [] (fun _ => Nat.zero_le _) (by ((with_reducible show wk _ _); repeat' (first | exact trivial | exact eqSV_refl _ | (refine eqI ?_) | (refine eqS ?_) | (with_reducible exact rfl) | apply And.intro | exact Nat.zero_lt_one | exact Nat.le_of_ble_eq_true rfl | (with_reducible assumption) | ((show (_ : Int) = _); (try dsimp only); omega) | ((show eqSV _ _); simp [eqSV, isB, bval, *]; done) | rfl))) (fun t I hI => ?_)
    obtain ⟨i, hi, h1, h2⟩ := t
    have hi3 : i = 0 ∨ i = 1 ∨ i = 2 := by omega
    rcases hi3 with rfl | rfl | rfl
    · dsimp only
      repeat' (first | ((with_reducible first | show wpS _ _ _ _ | show putD _ _ _ _ | show putW _ _ _ _ | show splitG _ _ _ | show wpQ _ _ _ _ _ _ | show wpD _ _ _ _ _ _ _); conv => whnf) | ((with_reducible show RetN _ _ _); refine retB fun β => ?_) | ((with_reducible show _ ∧ _); first | (apply And.intro; (· intro h; exfalso; first | omega | (revert h; decide)); intro _) | (apply And.intro; rotate_left; (· intro h; exfalso; first | omega | (revert h; decide)); intro _) | (refine ⟨fun _ => ?_, fun _ => ?_⟩) | (apply And.intro; · kernel_rfl) | (apply And.intro; · (show inK _ _; unfold inK; omega)) | (apply And.intro; · (show (_ : Int) ≤ 9223372036854775807; simp only [List.length_append, List.length_drop, List.length_take, List.length_cons, List.length_nil]; omega))) | ((with_reducible show CallN _ _ _ _ _ _ _ _); first | (refine call env_ok rfl (.int .i64 (RfP.axErr none R 0 0)) 1000 (by kernel_rfl) rfl (trivial) (fun β w hm => axisCheck_any la ca R w (hR.below hm.below) lR) ?_)) | ((with_reducible show ∃ _ : SV, _); first | (refine ⟨_, ?ok, x_indexAgg (j := 0) u77 s48 g48 (by decide) rfl, ?_⟩; (case ok => exact fun _ _ => rfl))) | ((with_reducible show ∃ _, _); first | fail))
      · rw [HX, if_pos ‹_›]; rfl
      · exact hI _ ⟨1, by omega, fun _ => by omega, fun h => absurd h (by omega)⟩ (by dsimp only; omega) (by ((with_reducible show wk _ _); repeat' (first | exact trivial | exact eqSV_refl _ | (refine eqI ?_) | (refine eqS ?_) | (with_reducible exact rfl) | apply And.intro | exact Nat.zero_lt_one | exact Nat.le_of_ble_eq_true rfl | (with_reducible assumption) | ((show (_ : Int) = _); (try dsimp only); omega) | ((show eqSV _ _); simp [eqSV, isB, bval, *]; done) | rfl)))
    · have e1 := h1 (Nat.le_refl _)
      rw [if_neg (fun e => e e1)] at HX
      dsimp only
      repeat' (first | ((with_reducible first | show wpS _ _ _ _ | show putD _ _ _ _ | show putW _ _ _ _ | show splitG _ _ _ | show wpQ _ _ _ _ _ _ | show wpD _ _ _ _ _ _ _); conv => whnf) | ((with_reducible show RetN _ _ _); refine retB fun β => ?_) | ((with_reducible show _ ∧ _); first | (apply And.intro; (· intro h; exfalso; first | omega | (revert h; decide)); intro _) | (apply And.intro; rotate_left; (· intro h; exfalso; first | omega | (revert h; decide)); intro _) | (refine ⟨fun _ => ?_, fun _ => ?_⟩) | (apply And.intro; · kernel_rfl) | (apply And.intro; · (show inK _ _; unfold inK; omega)) | (apply And.intro; · (show (_ : Int) ≤ 9223372036854775807; simp only [List.length_append, List.length_drop, List.length_take, List.length_cons, List.length_nil]; omega))) | ((with_reducible show CallN _ _ _ _ _ _ _ _); first | (refine call env_ok rfl (.int .i64 (RfP.axErr none C 0 0)) 1000 (by kernel_rfl) rfl (trivial) (fun β w hm => axisCheck_any lb cb C w (hC.below hm.below) lC) ?_)) | ((with_reducible show ∃ _ : SV, _); first | (refine ⟨_, ?ok, x_indexAgg (j := 1) u77 s48 g48 (by decide) rfl, ?_⟩; (case ok => exact fun _ _ => rfl))) | ((with_reducible show ∃ _, _); first | fail))
      · rw [HX, if_pos ‹_›]; rfl
      · exact hI _ ⟨2, by omega, fun _ => e1, fun _ => by omega⟩ (by dsimp only; omega) (by ((with_reducible show wk _ _); repeat' (first | exact trivial | exact eqSV_refl _ | (refine eqI ?_) | (refine eqS ?_) | (with_reducible exact rfl) | apply And.intro | exact Nat.zero_lt_one | exact Nat.le_of_ble_eq_true rfl | (with_reducible assumption) | ((show (_ : Int) = _); (try dsimp only); omega) | ((show eqSV _ _); simp [eqSV, isB, bval, *]; done) | rfl)))
    · have e1 := h1 (by omega)
      have e2 := h2 (Nat.le_refl _)
      have oR := okl_of e1
      have oC := okl_of e2
      rw [if_neg (fun e => e e1), if_neg (fun e => e e2)] at HX
      rw [HX]
      dsimp only
      clear HX u77 s48 g48 z77
      repeat' (first | ((with_reducible first | show wpS _ _ _ _ | show putD _ _ _ _ | show putW _ _ _ _ | show splitG _ _ _ | show wpQ _ _ _ _ _ _ | show wpD _ _ _ _ _ _ _); conv => whnf) | ((with_reducible show RetN _ _ _); refine retB fun β => ?_) | ((with_reducible show _ ∧ _); first | (apply And.intro; (· intro h; exfalso; first | omega | (revert h; decide)); intro _) | (apply And.intro; rotate_left; (· intro h; exfalso; first | omega | (revert h; decide)); intro _) | (refine ⟨fun _ => ?_, fun _ => ?_⟩) | (apply And.intro; · kernel_rfl) | (apply And.intro; · (show inK _ _; unfold inK; omega)) | (apply And.intro; · (show (_ : Int) ≤ 9223372036854775807; simp only [List.length_append, List.length_drop, List.length_take, List.length_cons, List.length_nil]; omega))) | ((with_reducible show CallN _ _ _ _ _ _ _ _); first | (refine call env_ok rfl (.tup [.int .i64 (RfP.hullP R _ _).1, .int .i64 (RfP.hullP R _ _).2.1, .bool (RfP.hullP R _ _).2.2]) 1000 (by kernel_rfl) rfl (⟨trivial, trivial, trivial, trivial⟩) (fun β w hm => hull_any la ca R w (hR.below hm.below) oR _ _ (by omega) (by omega)) ?_) | (refine call env_ok rfl (.tup [.int .i64 (RfP.hullP C _ _).1, .int .i64 (RfP.hullP C _ _).2.1, .bool (RfP.hullP C _ _).2.2]) 1000 (by kernel_rfl) rfl (⟨trivial, trivial, trivial, trivial⟩) (fun β w hm => hull_any lb cb C w (hC.below hm.below) oC _ _ (by omega) (by omega)) ?_) | (refine call env_ok rfl (rS (RfP.fittingP ⟨_, _, _, _, _, _, _, _, _, _⟩)) 1000 (by kernel_rfl) rfl (rS_ok _ _) (fun β w hm => fitting_any ⟨_, _, _, _, _, _, _, _, _, _⟩ w) ?_)) | ((with_reducible show ∃ _ : SV, _); first | fail) | ((with_reducible show ∃ _, _); first | fail))
      all_goals clear h1 h2 hI hR hC oR oC e1 e2
      all_goals simp_all [RfP.thrP, SV.den, SV.dens, refC, RfP.badR]
  · refine enter env_ok Tryz.func53 rfl Tryz.results53 Tryz.ntmps53 [] [] [rS x, .any (.slice la R.length ca), .any (.slice lb C.length cb)] ⟨rS_ok x 0, rfl, rfl, trivial⟩ (Nat.le_of_ble_eq_true rfl) w _ 1000 ?_
    repeat' (first | ((with_reducible first | show wpS _ _ _ _ | show putD _ _ _ _ | show putW _ _ _ _ | show splitG _ _ _ | show wpQ _ _ _ _ _ _ | show wpD _ _ _ _ _ _ _); conv => whnf) | ((with_reducible show RetN _ _ _); refine retB fun β => ?_) | ((with_reducible show _ ∧ _); first | (apply And.intro; (· intro h; exfalso; first | omega | (revert h; decide)); intro _) | (apply And.intro; rotate_left; (· intro h; exfalso; first | omega | (revert h; decide)); intro _) | (refine ⟨fun _ => ?_, fun _ => ?_⟩) | (apply And.intro; · kernel_rfl) | (apply And.intro; · (show inK _ _; unfold inK; omega)) | (apply And.intro; · (show (_ : Int) ≤ 9223372036854775807; simp only [List.length_append, List.length_drop, List.length_take, List.length_cons, List.length_nil]; omega))) | ((with_reducible show CallN _ _ _ _ _ _ _ _); first | (refine call env_ok rfl (.int .i64 (RfP.checkP x)) 1000 (by kernel_rfl) rfl (trivial) (fun β w hm => Check_any x w) ?_)) | ((with_reducible show ∃ _ : SV, _); first | fail) | ((with_reducible show ∃ _, _); first | fail))
    rw [HX, if_pos h]; rfl
end Go.Proofs.YtmodjglbjempkaaGreatDoor
