/- A walk that reckons: regions that draw their order and store. -/
import Derived.Test.YtnbahdnjcdimgaaDoorMSz2
set_option linter.unusedSimpArgs false
set_option linter.unusedVariables false
namespace Go.Proofs.YtnbahdnjcdimgaaDoor
open Go.RowKit
namespace Sym
theorem evs_det {fr : List (Nat × SV)} : ∀ (xs : List Operand) (K : List SV → Prop), evs fr xs K → ∃ vs, evs fr xs (· = vs) ∧ K vs
  | [], K, h => ⟨[], rfl, h⟩
  | x :: r, K, h => by
    simp only [evs] at h ⊢
    cases hx : ev fr x with
    | none => rw [hx] at h; exact h.elim
    | some v =>
      rw [hx] at h
      obtain ⟨vs, h1, h2⟩ := evs_det r _ h
      exact ⟨v :: vs, evs_mono r (fun us e => by rw [e]) h1, h2⟩
where evs_mono {fr : List (Nat × SV)} : ∀ (xs : List Operand) {K K' : List SV → Prop}, (∀ vs, K vs → K' vs) → evs fr xs K → evs fr xs K'
  | [], _, _, hk, h => hk _ h
  | x :: r, K, K', hk, h => by
    simp only [evs] at h ⊢
    cases hx : ev fr x with
    | none => rw [hx] at h; exact h.elim
    | some v => rw [hx] at h; exact evs_mono r (fun vs => hk (v :: vs)) h
theorem evParts_det {fr : List (Nat × SV)} : ∀ (xs : List (Nat × Operand)) (K : List (Nat × SV) → Prop), evParts fr xs K → ∃ vs, K vs ∧ ∀ K' : List (Nat × SV) → Prop, K' vs → evParts fr xs K'
  | [], K, h => ⟨[], h, fun _ h => h⟩
  | (i, x) :: r, K, h => by
    simp only [evParts] at h ⊢
    cases hx : ev fr x with
    | none => rw [hx] at h; exact h.elim
    | some v =>
      rw [hx] at h
      obtain ⟨vs, h1, h2⟩ := evParts_det r _ h
      exact ⟨(i, v) :: vs, h1, fun K' hk => h2 _ hk⟩
theorem loadV_det {E : Env} {rows : List (Nat × Bool × SRow)} {t i off : Nat} {K : SV → Prop} (h : loadV E rows t i off K) : ∃ v, K v ∧ ∀ K' : SV → Prop, K' v → loadV E rows t i off K' := by
  unfold loadV at h ⊢
  cases hi : get rows i with
  | none => simp only [hi] at h
  | some p =>
    obtain ⟨ow, r⟩ := p
    cases r with
    | blob Φ => simp only [hi] at h
    | cells t' cs =>
      cases ht : get E t with
      | none => simp only [hi, ht] at h
      | some ti =>
        obtain ⟨kd, sz, ag, z⟩ := ti
        simp only [hi, ht] at h ⊢
        cases ag with
        | true =>
          simp only at h ⊢
          cases hb : Nat.ble (off + sz) cs.length with
          | false => rw [hb] at h; exact h.elim
          | true => rw [hb] at h; exact ⟨_, forceL_eq _ _ h, fun K' hk => forceL_mk _ _ hk⟩
        | false =>
          simp only at h ⊢
          cases hc : cs[off]? with
          | none => rw [hc] at h; exact h.elim
          | some v => rw [hc] at h; exact ⟨v, h, fun K' hk => hk⟩
theorem br_det {v : SV} {T F : Prop} (h : br v T F) : (T ∧ ∀ T' F' : Prop, T' → br v T' F') ∨ (F ∧ ∀ T' F' : Prop, F' → br v T' F') := by
  cases v with
  | lit b => cases b with
    | true => exact .inl ⟨h, fun _ _ h => h⟩
    | false => exact .inr ⟨h, fun _ _ h => h⟩
  | bool b => cases b with
    | true => exact .inl ⟨h.1 rfl, fun _ _ h => ⟨fun _ => h, fun e => Bool.noConfusion e⟩⟩
    | false => exact .inr ⟨h.2 rfl, fun _ _ h => ⟨fun e => Bool.noConfusion e, fun _ => h⟩⟩
  | prop p hp =>
    by_cases hq : p
    · exact .inl ⟨h.1 hq, fun _ _ h => ⟨fun _ => h, fun e => (e hq).elim⟩⟩
    · exact .inr ⟨h.2 hq, fun _ _ h => ⟨fun e => (hq e).elim, fun _ => h⟩⟩
  | _ => exact h.elim
theorem evBin_det {op : BinOp} {u v : SV} {K : SV → Prop} (h : evBin op u v K) : ∃ r, K r ∧ ∀ K' : SV → Prop, K' r → evBin op u v K' := by
  cases u with
  | int k x =>
    cases v with
    | int k' y =>
      simp only [evBin] at h ⊢
      cases hk : ikEq k k' with
      | false => rw [hk] at h; exact h.elim
      | true =>
        rw [hk] at h
        cases op <;> simp only [arith, cond_true] at h ⊢ <;> first
          | exact h.elim
          | exact ⟨_, h.2, fun K' hk => ⟨h.1, hk⟩⟩
          | exact ⟨_, h, fun K' hk => hk⟩
    | _ => exact h.elim
  | str x =>
    cases v with
    | str y =>
      cases op <;> simp only [evBin] at h ⊢ <;> first
          | exact h.elim
          | exact ⟨_, h.2, fun K' hk => ⟨h.1, hk⟩⟩
          | exact ⟨_, h, fun K' hk => hk⟩
    | _ => exact h.elim
  | _ => exact h.elim
theorem evVal0_det {C : Ctx} {op : Op} {fr : List (Nat × SV)} {rows : List (Nat × Bool × SRow)} {K : SV → Prop} (h : evVal0 C op fr rows K) : ∃ v, K v ∧ ∀ K' : SV → Prop, K' v → evVal0 C op fr rows K' := by
  cases op <;> simp only [evVal0] at h ⊢
  case move x => cases hx : ev fr x <;> simp only [hx] at h ⊢; exact ⟨_, h, fun _ h => h⟩
  case assign x => cases hx : ev fr x <;> simp only [hx] at h ⊢; exact ⟨_, h, fun _ h => h⟩
  case pick c x y =>
    cases hc : ev fr c with
    | none => simp only [hc] at h
    | some cv =>
      simp only [hc] at h ⊢
      rcases br_det h with ⟨h1, h2⟩ | ⟨h1, h2⟩
      · cases hx : ev fr x with
        | none => simp only [hx] at h1
        | some v => simp only [hx] at h1 h2 ⊢; exact ⟨v, h1, fun K' hk => h2 _ _ hk⟩
      · cases hx : ev fr y with
        | none => simp only [hx] at h1
        | some v => simp only [hx] at h1 h2 ⊢; exact ⟨v, h1, fun K' hk => h2 _ _ hk⟩
  case build t ps =>
    obtain ⟨ps⟩ := ps
    cases ht : get C.E t with
    | none => simp only [ht] at h
    | some ti =>
      obtain ⟨kd, sz, ag, z⟩ := ti
      cases kd <;> simp only [ht] at h ⊢
      case struct flds =>
        obtain ⟨vs, h1, h2⟩ := evParts_det ps _ h
        cases hp : sizesOf C.E flds with
        | none => simp only [hp] at h1
        | some pl =>
          simp only [hp] at h1
          cases hf : fillS pl z vs with
          | none => simp only [hf] at h1
          | some cs =>
            simp only [hf] at h1
            refine ⟨_, forceL_eq _ _ h1, fun K' hk => h2 _ ?_⟩
            simp only [hf]
            exact forceL_mk _ _ hk
  case load t x =>
    cases hx : ev fr x with
    | none => simp only [hx] at h
    | some v => cases v <;> simp only [hx] at h ⊢; exact loadV_det h
  case fieldAddr t x f =>
    cases hx : ev fr x with
    | none => simp only [hx] at h
    | some u =>
      cases u <;> simp only [hx] at h ⊢
      case ptr i off =>
        cases ht : get C.E t with
        | none => simp only [ht] at h
        | some ti =>
          obtain ⟨kd, sz, ag, z⟩ := ti
          cases kd <;> simp only [ht] at h ⊢
          case struct flds =>
            cases hf : flds[f]? with
            | none => simp only [hf] at h
            | some q =>
              obtain ⟨of, ft⟩ := q
              simp only [hf] at h ⊢
              cases hft : get C.E ft with
              | none => simp only [hft] at h
              | some tj =>
                obtain ⟨kj, sj, aj, zj⟩ := tj
                simp only [hft] at h ⊢
                cases h0 : Nat.beq sj 0 with
                | true => rw [h0] at h; exact h.elim
                | false => rw [h0] at h; exact ⟨_, h, fun K' hk => hk⟩
  case binOp op t x y t' =>
    cases hx : ev fr x with
    | none => simp only [hx] at h
    | some u =>
      cases hy : ev fr y with
      | none => simp only [hx, hy] at h
      | some v =>
        cases u <;> cases v <;> simp only [hx, hy] at h ⊢ <;> first
          | exact evBin_det h
          | (cases op <;> simp only at h ⊢ <;> first | exact h.elim | (obtain ⟨b, hb, hK⟩ := h; exact ⟨_, hK, fun K' hk => ⟨b, hb, hk⟩⟩))
  case unOp op t x =>
    cases hx : ev fr x with
    | none => cases op <;> simp only [hx] at h
    | some v =>
      cases op <;> cases v <;> simp only [hx] at h ⊢ <;> first | exact ⟨_, h, fun K' hk => hk⟩ | exact ⟨_, h.2, fun K' hk => ⟨h.1, hk⟩⟩
  case extract x i =>
    cases hx : ev fr x with
    | none => simp only [hx] at h
    | some u =>
      cases u <;> simp only [hx] at h ⊢
      case tup vs =>
        cases hi : vs[i]? with
        | none => simp only [hi] at h
        | some v => simp only [hi] at h ⊢; exact ⟨_, h, fun K' hk => hk⟩
  case index t x y =>
    cases hx : ev fr x with
    | none => simp only [hx] at h
    | some u =>
      cases u <;> simp only [hx] at h ⊢
      case str s =>
        cases hy : ev fr y with
        | none => simp only [hy] at h
        | some v =>
          cases v <;> simp only [hy] at h ⊢
          case int k i =>
            cases ht : get C.E t with
            | none => simp only [ht] at h
            | some ti =>
              obtain ⟨kd, sz, ag, z⟩ := ti
              cases kd <;> simp only [ht] at h ⊢
              case str =>
                obtain ⟨j, e, hj, h⟩ := h
                exact ⟨_, h, fun K' hk => ⟨j, e, hj, hk⟩⟩
  case call c =>
    obtain ⟨cal, ⟨args⟩, ⟨tys⟩⟩ := c
    cases cal with
    | builtin b =>
      cases b <;> try exact h.elim
      case len =>
        match args, tys, h with
        | [x], [t], h =>
          simp only at h ⊢
          cases hx : ev fr x with
          | none => simp only [hx] at h
          | some u =>
            cases u <;> simp only [hx] at h ⊢
            case str s =>
              cases ht : get C.E t with
              | none => simp only [ht] at h
              | some ti =>
                obtain ⟨kd, sz, ag, z⟩ := ti
                cases kd <;> simp only [ht] at h ⊢
                case str => exact ⟨_, h, fun K' hk => hk⟩
      case max =>
        match args, h with
        | [x, y], h =>
          simp only at h ⊢
          cases hx : ev fr x with
          | none => simp only [hx] at h
          | some u =>
            cases u <;> simp only [hx] at h ⊢
            case int k m =>
              cases hy : ev fr y with
              | none => simp only [hy] at h
              | some v =>
                cases v <;> simp only [hy] at h ⊢
                case int k' m' =>
                  cases hk : ikEq k k' with
                  | false => rw [hk] at h; exact h.elim
                  | true => rw [hk] at h; exact ⟨_, h, fun K' hk => hk⟩
      case min =>
        match args, h with
        | [x, y], h =>
          simp only at h ⊢
          cases hx : ev fr x with
          | none => simp only [hx] at h
          | some u =>
            cases u <;> simp only [hx] at h ⊢
            case int k m =>
              cases hy : ev fr y with
              | none => simp only [hy] at h
              | some v =>
                cases v <;> simp only [hy] at h ⊢
                case int k' m' =>
                  cases hk : ikEq k k' with
                  | false => rw [hk] at h; exact h.elim
                  | true => rw [hk] at h; exact ⟨_, h, fun K' hk => hk⟩
    | value f => exact h.elim
    | invoke r m => exact h.elim
  case slice t x lo hi mx =>
    cases mx with
    | some _ => cases lo <;> cases hi <;> exact h.elim
    | none =>
      simp only at h ⊢
      cases hx : ev fr x with
      | none => simp only [hx] at h
      | some u =>
        cases u <;> simp only [hx] at h ⊢
        case str s =>
          cases ht : get C.E t with
          | none => simp only [ht] at h
          | some ti =>
            obtain ⟨kd, sz, ag, z⟩ := ti
            cases kd <;> simp only [ht] at h ⊢
            case str =>
              cases lo with
              | none =>
                cases hi with
                | none => exact ⟨_, h, fun K' hk => hk⟩
                | some b =>
                  simp only at h ⊢
                  cases hb : ev fr b with
                  | none => simp only [hb] at h
                  | some v =>
                    cases v <;> simp only [hb] at h ⊢
                    obtain ⟨q, e, hle, h⟩ := h
                    exact ⟨_, h, fun K' hk => ⟨q, e, hle, hk⟩⟩
              | some a' =>
                cases hi with
                | none =>
                  simp only at h ⊢
                  cases hb : ev fr a' with
                  | none => simp only [hb] at h
                  | some v =>
                    cases v <;> simp only [hb] at h ⊢
                    obtain ⟨q, e, hle, h⟩ := h
                    exact ⟨_, h, fun K' hk => ⟨q, e, hle, hk⟩⟩
                | some b =>
                  simp only at h ⊢
                  cases ha : ev fr a' with
                  | none => simp only [ha] at h
                  | some u =>
                    cases u <;> simp only [ha] at h ⊢
                    cases hb : ev fr b with
                    | none => simp only [hb] at h
                    | some v =>
                      cases v <;> simp only [hb] at h ⊢
                      obtain ⟨q, q', e, e', hl, hle, h⟩ := h
                      exact ⟨_, h, fun K' hk => ⟨q, q', e, e', hl, hle, hk⟩⟩
  case convert t u x =>
    cases hx : ev fr x with
    | none => simp only [hx] at h
    | some v =>
      cases v <;> simp only [hx] at h ⊢
      cases hu : get C.E u with
      | none => simp only [hu] at h
      | some ti =>
        obtain ⟨kd, sz, ag, z⟩ := ti
        cases kd <;> simp only [hu] at h ⊢
        cases ht : get C.E t with
        | none => simp only [ht] at h
        | some tj =>
          obtain ⟨ke, sz2, ag2, z2⟩ := tj
          cases ke <;> simp only [ht] at h ⊢
          exact ⟨_, h.2, fun K' hk => ⟨h.1, hk⟩⟩
/-! congruence: what an operation reckons hangs on what it looks at -/
theorem evVal_det {C : Ctx} {op : Op} {fr : List (Nat × SV)} {rows : List (Nat × Bool × SRow)} {K : SV → Prop} (h : evVal C op fr rows K) : ∃ v, K v ∧ ∀ K' : SV → Prop, K' v → evVal C op fr rows K' := by
  unfold evVal at h ⊢
  cases hx : isX C.E op fr with
  | false => rw [hx] at h; exact evVal0_det h
  | true =>
    rw [hx] at h
    unfold extV at h ⊢
    obtain ⟨us, h1, v, h2, h3, h4⟩ := evs_det _ _ h
    exact ⟨v, h4, fun K' k => evs_det.evs_mono _ (fun us' e => by subst e; exact ⟨v, h2, h3, k⟩) h1⟩
theorem evs_congr {fr fr' : List (Nat × SV)} : ∀ (xs : List Operand) (K : List SV → Prop), (∀ x ∈ xs, ev fr x = ev fr' x) → evs fr xs K → evs fr' xs K
  | [], _, _, h => h
  | x :: r, K, e, h => by
    simp only [evs] at h ⊢
    rw [← e x (by simp)]
    cases hx : ev fr x with
    | none => rw [hx] at h; exact h.elim
    | some v => rw [hx] at h; exact evs_congr r _ (fun y hy => e y (by simp [hy])) h
theorem evParts_congr {fr fr' : List (Nat × SV)} : ∀ (xs : List (Nat × Operand)) (K : List (Nat × SV) → Prop), (∀ p ∈ xs, ev fr p.2 = ev fr' p.2) → evParts fr xs K → evParts fr' xs K
  | [], _, _, h => h
  | (i, x) :: r, K, e, h => by
    simp only [evParts] at h ⊢
    rw [← e (i, x) (by simp)]
    cases hx : ev fr x with
    | none => rw [hx] at h; exact h.elim
    | some v => rw [hx] at h; exact evParts_congr r _ (fun y hy => e y (by simp [hy])) h
/-- two blocks tables of one shape -/
def sameRow : Option (Bool × SRow) → Option (Bool × SRow) → Prop
  | some (o, .cells t cs), some (o', .cells t' cs') => o = o' ∧ t = t' ∧ cs.length = cs'.length
  | x, y => x = y
theorem sameRow_refl : ∀ x, sameRow x x
  | none => rfl
  | some (_, .cells _ _) => ⟨rfl, rfl, rfl⟩
  | some (_, .blob _) => rfl
theorem sameRow_cells {o : Bool} {t : TypeId} {cs : List SV} {y : Option (Bool × SRow)} (h : sameRow (some (o, .cells t cs)) y) : ∃ cs', y = some (o, .cells t cs') ∧ cs.length = cs'.length := by
  match y, h with
  | some (o', .cells t' cs'), h => obtain ⟨rfl, rfl, e⟩ := h; exact ⟨cs', rfl, e⟩
  | none, h => cases h
  | some (_, .blob _), h => cases h
theorem sameRow_none {y : Option (Bool × SRow)} (h : sameRow none y) : y = none := by
  match y, h with
  | none, _ => rfl
  | some (_, .cells _ _), h => cases h
  | some (_, .blob _), h => cases h
theorem sameRow_ints {o : Bool} {Φ : Nat → Option Obj → Prop} {y : Option (Bool × SRow)} (h : sameRow (some (o, .blob Φ)) y) : y = some (o, .blob Φ) := by
  match y, h with
  | none, h => cases h
  | some (_, .cells _ _), h => cases h
  | some (_, .blob _), h => exact h.symm
theorem sameRow_trans {x y z : Option (Bool × SRow)} (h : sameRow x y) (k : sameRow y z) : sameRow x z := by
  match x, h with
  | some (o, .cells t cs), h =>
    obtain ⟨cs', rfl, e⟩ := sameRow_cells h
    obtain ⟨cs2, rfl, e2⟩ := sameRow_cells k
    exact ⟨rfl, rfl, e.trans e2⟩
  | none, h =>
    obtain rfl := sameRow_none h
    exact k
  | some (o, .blob Φ), h =>
    obtain rfl := sameRow_ints h
    exact k
theorem sameRow_symm {x y : Option (Bool × SRow)} (h : sameRow x y) : sameRow y x := by
  match x, h with
  | some (o, .cells t cs), h => obtain ⟨cs', rfl, e⟩ := sameRow_cells h; exact ⟨rfl, rfl, e.symm⟩
  | none, h =>
    obtain rfl := sameRow_none h
    rfl
  | some (o, .blob Φ), h =>
    obtain rfl := sameRow_ints h
    rfl
inductive Loc where
  | slot (t : Nat)
  | cell (r c : Nat)
def cellOf : Option (Bool × SRow) → Nat → Option SV
  | some (_, .cells _ cs), c => cs[c]?
  | _, _ => none
def val (st : St) : Loc → Option SV
  | .slot t => get st.fr t
  | .cell r c => cellOf (get st.rows r) c
theorem loadV_congr {E : Env} {rows rows' : List (Nat × Bool × SRow)} {t i off : Nat} {K : SV → Prop} (hs : sameRow (get rows i) (get rows' i)) (hc : ∀ ti, get E t = some ti → ∀ c, off ≤ c → c < off + ti.size → cellOf (get rows i) c = cellOf (get rows' i) c)
    (h1 : ∀ ti, get E t = some ti → ti.agg = false → ti.size ≠ 0) (h : loadV E rows t i off K) : loadV E rows' t i off K := by
  unfold loadV at h ⊢
  cases hi : get rows i with
  | none => simp only [hi] at h
  | some p =>
    obtain ⟨ow, r⟩ := p
    cases r with
    | blob Φ => simp only [hi] at h
    | cells t' cs =>
      rw [hi] at hs hc
      obtain ⟨cs', hi', el⟩ := sameRow_cells hs
      cases ht : get E t with
      | none => simp only [hi, ht] at h
      | some ti =>
        obtain ⟨kd, sz, ag, z⟩ := ti
        have hc := hc _ ht
        rw [hi'] at hc
        simp only [cellOf] at hc
        simp only [hi, ht, hi'] at h ⊢
        cases ag with
        | true =>
          simp only at h ⊢
          rw [← el]
          cases hb : Nat.ble (off + sz) cs.length with
          | false => rw [hb] at h; exact h.elim
          | true =>
            rw [hb] at h
            have e : (cs.drop off).take sz = (cs'.drop off).take sz := by
              apply List.ext_getElem?
              intro j
              rw [List.getElem?_take, List.getElem?_take]
              split
              · rw [List.getElem?_drop, List.getElem?_drop]; exact hc _ (by omega) (by omega)
              · rfl
            rw [e] at h; exact h
        | false =>
          simp only at h ⊢
          have := h1 _ ht rfl
          have e := hc off (Nat.le_refl _) (by simp at this ⊢; omega)
          rw [← e]; exact h
theorem evVal0_congr {C : Ctx} {op : Op} {fr fr' : List (Nat × SV)} {rows rows' : List (Nat × Bool × SRow)} {K : SV → Prop} (e : ∀ x ∈ op.operands.toList, ev fr x = ev fr' x)
    (hl : ∀ t i off K, (∃ x, op = .load t x ∧ ev fr x = some (.ptr i off)) → loadV C.E rows t i off K → loadV C.E rows' t i off K) (h : evVal0 C op fr rows K) : evVal0 C op fr' rows' K := by
  cases op <;> simp only [evVal0] at h ⊢
  case move x => rw [← e x (by simp [Op.operands])]; exact h
  case assign x => rw [← e x (by simp [Op.operands])]; exact h
  case pick c x y => rw [← e c (by simp [Op.operands]), ← e x (by simp [Op.operands]), ← e y (by simp [Op.operands])]; exact h
  case build t ps =>
    obtain ⟨ps⟩ := ps
    cases ht : get C.E t with
    | none => simp only [ht] at h
    | some ti =>
      obtain ⟨kd, sz, ag, z⟩ := ti
      cases kd <;> simp only [ht] at h ⊢
      case struct flds => exact evParts_congr ps _ (fun p hp => e p.2 (by simp [Op.operands]; exact ⟨p.1, hp⟩)) h
  case load t x =>
    have := e x (by simp [Op.operands])
    rw [← this]
    cases hx : ev fr x with
    | none => simp only [hx] at h
    | some v => cases v <;> simp only [hx] at h ⊢; exact hl _ _ _ _ ⟨x, rfl, hx⟩ h
  case fieldAddr t x f => rw [← e x (by simp [Op.operands])]; exact h
  case binOp op t x y t' => rw [← e x (by simp [Op.operands]), ← e y (by simp [Op.operands])]; exact h
  case unOp op t x => rw [← e x (by simp [Op.operands])]; exact h
  case extract x i => rw [← e x (by simp [Op.operands])]; exact h
  case index t x y => rw [← e x (by simp [Op.operands]), ← e y (by simp [Op.operands])]; exact h
  case call c =>
    obtain ⟨cal, ⟨args⟩, ⟨tys⟩⟩ := c
    cases cal with
    | builtin b =>
      cases b <;> try exact h.elim
      case len =>
        match args, tys, h, e with
        | [x], [t], h, e => simp only at h ⊢; rw [← e x (by simp [Op.operands, Call.operands])]; exact h
      case max =>
        match args, h, e with
        | [x, y], h, e => simp only at h ⊢; rw [← e x (by simp [Op.operands, Call.operands]), ← e y (by simp [Op.operands, Call.operands])]; exact h
      case min =>
        match args, h, e with
        | [x, y], h, e => simp only at h ⊢; rw [← e x (by simp [Op.operands, Call.operands]), ← e y (by simp [Op.operands, Call.operands])]; exact h
    | value f => exact h.elim
    | invoke r m => exact h.elim
  case slice t x lo hi mx =>
    cases mx with
    | some _ => cases lo <;> cases hi <;> exact h.elim
    | none =>
      simp only at h ⊢
      rw [← e x (by simp [Op.operands])]
      cases lo <;> cases hi
      · exact h
      · rename_i b; simp only [← e b (by simp [Op.operands])]; exact h
      · rename_i b; simp only [← e b (by simp [Op.operands])]; exact h
      · rename_i b c; simp only [← e b (by simp [Op.operands]), ← e c (by simp [Op.operands])]; exact h
  case convert t u x => rw [← e x (by simp [Op.operands])]; exact h
theorem lenX_congr {fr fr' : List (Nat × SV)} {c : Call} (e : ∀ x ∈ c.args.toList, ev fr x = ev fr' x) : lenX fr c = lenX fr' c := by
  obtain ⟨cal, ⟨xs⟩, tys⟩ := c
  cases cal with
  | builtin b =>
    cases b <;> try rfl
    match xs, e with
    | [], _ => rfl
    | [x], e => simp only [lenX]; rw [e x (by simp)]
    | x :: y :: r, _ => rfl
  | _ => rfl
theorem isX_congr {E : Env} {op : Op} {fr fr' : List (Nat × SV)} (e : ∀ x ∈ op.operands.toList, ev fr x = ev fr' x) : isX E op fr = isX E op fr' := by
  cases op <;> try rfl
  case load t x => simp only [isX]; rw [e x (by simp [Op.operands])]
  case fieldAddr t x f => simp only [isX]; rw [e x (by simp [Op.operands])]
  case index t x y => simp only [isX]; rw [e x (by simp [Op.operands])]
  case binOp b t x y u => simp only [isX]; rw [e x (by simp [Op.operands])]
  case slice t x lo hi mx => simp only [isX]; rw [e x (by simp [Op.operands])]
  case convert t u x => simp only [isX]; rw [e x (by simp [Op.operands])]
  case call c => simp only [isX]; exact lenX_congr fun x hx => e x (by simp [Op.operands, Call.operands]; exact .inr (by simpa using hx))
theorem opsX_mem {op : Op} {E : Env} {fr : List (Nat × SV)} (hx : isX E op fr = true) : ∀ x ∈ opsX op, x ∈ op.operands.toList := by
  cases op <;> simp only [isX] at hx <;> first | (cases hx; done) | skip
  case call c =>
    obtain ⟨cal, ⟨xs⟩, tys⟩ := c
    intro x h
    simp [Op.operands, Call.operands]; exact .inr h
  all_goals intro x h
  all_goals first | (simpa [opsX, Op.operands] using h) | skip
  case slice t y lo hi mx =>
    cases lo <;> cases hi <;> cases mx <;> simpa [opsX, optL, Op.operands] using h
theorem evVal_congr {C : Ctx} {op : Op} {fr fr' : List (Nat × SV)} {rows rows' : List (Nat × Bool × SRow)} {K : SV → Prop} (e : ∀ x ∈ op.operands.toList, ev fr x = ev fr' x)
    (hl : ∀ t i off K, (∃ x, op = .load t x ∧ ev fr x = some (.ptr i off)) → loadV C.E rows t i off K → loadV C.E rows' t i off K) (hG : blobG rows = blobG rows') (h : evVal C op fr rows K) : evVal C op fr' rows' K := by
  unfold evVal at h ⊢
  rw [← isX_congr e]
  cases hx : isX C.E op fr with
  | false => rw [hx] at h; exact evVal0_congr e hl h
  | true =>
    rw [hx] at h
    rw [← hG]
    exact evs_congr _ _ (fun x hm => e x (opsX_mem hx x hm)) h
/-- what one operation needs of a state -/
structure Agree (C : Ctx) (all : List Oper) (o : Oper) (st st' : St) : Prop where
  n : st.n = st'.n
  next : st.next = st'.next
  slot : ∀ t ∈ o.looksAt all.toArray, get st.fr t = get st'.fr t
  row : ∀ r, sameRow (get st.rows r) (get st'.rows r)
  cell : ∀ i off sz, rdOf C.E o.op st.fr = some (i, off, sz) → ∀ c, off ≤ c → c < off + sz → val st (.cell i c) = val st' (.cell i c)
theorem Agree.ev {C : Ctx} {all : List Oper} {o : Oper} {st st' : St} (h : Agree C all o st st') : ∀ x ∈ o.op.operands.toList, ev st.fr x = ev st'.fr x := fun x hx => by
  cases x with
  | tmp t => exact h.slot t (List.mem_append_left _ (List.mem_filterMap.2 ⟨.tmp t, hx, rfl⟩))
  | const v => rfl
  | global g => rfl
  | func f => rfl
theorem szOK_get : ∀ {E : Env} {t : Nat} {ti : TI}, szOK E = true → get E t = some ti → ti.agg = false → ti.size ≠ 0
  | [], _, _, _, h, _ => by simp [get] at h
  | (u, ⟨kd, sz, ag, z⟩) :: r, t, ti, hz, h, ha => by
    simp only [szOK, Bool.and_eq_true] at hz
    rw [get_cons] at h
    by_cases e : u = t
    · rw [if_pos e] at h; cases h
      simp only at ha ⊢
      subst ha
      have := hz.1
      intro e; subst e; simp at this
    · rw [if_neg e] at h; exact szOK_get hz.2 h ha
theorem blobG_same {rows rows' : List (Nat × Bool × SRow)} (h : ∀ r, sameRow (get rows r) (get rows' r)) : blobG rows = blobG rows' := by
  funext i
  have := h i
  unfold blobG
  cases hg : get rows i with
  | none => rw [hg] at this; rw [sameRow_none this]
  | some p =>
    obtain ⟨o, r⟩ := p
    rw [hg] at this
    cases r with
    | cells t cs => obtain ⟨cs', e, _⟩ := sameRow_cells this; rw [e]
    | blob Φ => rw [sameRow_ints this]
theorem goD_congr {C : Ctx} (hz : szOK C.E = true) {all : List Oper} {o : Oper} {st st' : St} {K : Wr → Prop} (h : Agree C all o st st') (hg : goD C o.dst o.op st K) : goD C o.dst o.op st' K := by
  obtain ⟨dst, op, ty, pos, after, g⟩ := o
  have hev := h.ev
  have hrd := h.cell
  obtain ⟨fr, rows, nx, n⟩ := st
  obtain ⟨fr', rows', nx', n'⟩ := st'
  obtain rfl : n = n' := h.n
  obtain rfl : nx = nx' := h.next
  have hrow : ∀ r, sameRow (get rows r) (get rows' r) := h.row
  have hval : evVal C op fr rows (fun v => putW dst v n K) → evVal C op fr' rows' (fun v => putW dst v n K) := fun hh => evVal_congr hev (fun t i off K2 hx hl => loadV_congr (hrow i) (fun ti hti c c1 c2 => by
    obtain ⟨x, rfl, hx⟩ := hx
    exact hrd i off ti.size (by simp only [rdOf, hx, hti]) c c1 c2) (fun ti hti ha => szOK_get hz hti ha) hl) (blobG_same hrow) hh
  cases op <;> try exact hval hg
  case store t x y =>
    simp only [goD] at hg ⊢
    rw [← hev x (by simp [Op.operands]), ← hev y (by simp [Op.operands])]
    cases hx : Sym.ev fr x with
    | none => simp only [hx] at hg
    | some u =>
      cases u <;> simp only [hx] at hg ⊢
      case ptr i off =>
        cases hy : Sym.ev fr y with
        | none => simp only [hy] at hg
        | some v =>
          cases ht : get C.E t with
          | none => simp only [hy, ht] at hg
          | some ti =>
            obtain ⟨kd, sz, ag, z⟩ := ti
            simp only [hy, ht] at hg ⊢
            cases hv : cellsSV v with
            | none => simp only [hv] at hg
            | some vs =>
              have hr := hrow i
              cases hi : get rows i with
              | none => simp only [hv, hi] at hg
              | some p =>
                obtain ⟨ow, r⟩ := p
                rw [hi] at hr
                cases ow with
                | false => simp only [hv, hi] at hg
                | true =>
                  cases r with
                  | blob Φ => simp only [hv, hi] at hg
                  | cells t' cs =>
                    obtain ⟨cs', hi', el⟩ := sameRow_cells hr
                    simp only [hv, hi, hi'] at hg ⊢
                    cases dst with
                    | some d => exact hg
                    | none => simp only at hg ⊢; rw [← el]; exact hg
  case call c =>
    obtain ⟨cal, ⟨args⟩, tys⟩ := c
    cases cal with
    | builtin b => exact hval hg
    | invoke r m => exact hval hg
    | value fo =>
      simp only [goD] at hg ⊢
      rw [← hev fo (by simp [Op.operands, Call.operands])]
      cases hf : Sym.ev fr fo with
      | none => simp only [hf] at hg
      | some u =>
        cases u <;> simp only [hf] at hg ⊢
        rename_i fid cs
        cases cs with
        | cons _ _ => simp only at hg
        | nil =>
        exact evs_congr args _ (fun x hx => hev x (by simp [Op.operands, Call.operands, hx])) hg
theorem guardV_congr {C : Ctx} {all : List Oper} {o : Oper} {st st' : St} (h : Agree C all o st st') {j : Nat} {w : Bool} (hg : o.guard = some (j, w)) : guardV all st.fr j = guardV all st'.fr j := by
  unfold guardV
  split
  · rename_i t _ _ _ _ _ heq
    have hm : t ∈ o.looksAt all.toArray := by
      unfold Oper.looksAt
      refine List.mem_append_right _ ?_
      rw [hg]
      simp [heq]
    rw [h.slot t hm]
  · rfl
theorem stepD_congr {C : Ctx} (hz : szOK C.E = true) {all : List Oper} {o : Oper} {st st' : St} {K : Wr → Prop} (h : Agree C all o st st') (hg : stepD C all o st K) : stepD C all o st' K := by
  obtain ⟨dst, op, ty, pos, after, g⟩ := o
  unfold stepD at hg ⊢
  cases g with
  | none => exact goD_congr hz (o := ⟨dst, op, ty, pos, after, none⟩) h hg
  | some p =>
    obtain ⟨j, want⟩ := p
    simp only at hg ⊢
    have hn := h.n
    have hgo := fun hh => goD_congr (K := K) hz (o := ⟨dst, op, ty, pos, after, some (j, want)⟩) h hh
    rw [← guardV_congr h rfl, ← hn]
    cases hv : guardV all st.fr j with
    | none => simp only [hv] at hg
    | some q =>
      obtain ⟨t, v⟩ := q
      cases v <;> simp only [hv] at hg ⊢
      · rename_i b
        cases hb : b == want with
        | true => rw [hb] at hg; exact hgo hg
        | false => rw [hb] at hg; exact hg
      · exact hg
theorem goD_det {C : Ctx} {dst : Option Nat} {op : Op} {st : St} {K : Wr → Prop} (h : goD C dst op st K) : ∃ W, K W ∧ goD C dst op st (· = W) := by
  obtain ⟨fr, rows, nx, n⟩ := st
  have put : ∀ {v : SV} {K : Wr → Prop}, putW dst v n K → ∃ W, K W ∧ putW dst v n (· = W) := fun {v K} h => by
    unfold putW at h ⊢
    cases dst with
    | none => exact h.elim
    | some d =>
      simp only at h ⊢
      cases hb : Nat.blt d n with
      | false => rw [hb] at h; exact h.elim
      | true => rw [hb] at h; exact ⟨_, h, rfl⟩
  have hval : evVal C op fr rows (fun v => putW dst v n K) → ∃ W, K W ∧ evVal C op fr rows (fun v => putW dst v n (· = W)) := fun h => by
    obtain ⟨v, h1, h2⟩ := evVal_det h
    obtain ⟨W, k1, k2⟩ := put h1
    exact ⟨W, k1, h2 _ k2⟩
  cases op <;> try exact hval h
  case store t x y =>
    simp only [goD] at h ⊢
    cases hx : Sym.ev fr x with
    | none => simp only [hx] at h
    | some u =>
      cases u <;> simp only [hx] at h ⊢
      case ptr i off =>
        cases hy : Sym.ev fr y with
        | none => simp only [hy] at h
        | some v =>
          cases ht : get C.E t with
          | none => simp only [hy, ht] at h
          | some ti =>
            obtain ⟨kd, sz, ag, z⟩ := ti
            simp only [hy, ht] at h ⊢
            cases hv : cellsSV v with
            | none => simp only [hv] at h
            | some vs =>
              cases hi : get rows i with
              | none => simp only [hv, hi] at h
              | some p =>
                obtain ⟨ow, r⟩ := p
                cases ow with
                | false => simp only [hv, hi] at h
                | true =>
                  cases r with
                  | blob Φ => simp only [hv, hi] at h
                  | cells t' cs =>
                    cases dst with
                    | some d => simp only [hv, hi] at h
                    | none =>
                      simp only [hv, hi] at h ⊢
                      cases hb : (Nat.beq vs.length sz && Nat.ble (off + sz) cs.length) && allOne vs with
                      | false => rw [hb] at h; exact h.elim
                      | true => rw [hb] at h; exact ⟨_, h, rfl⟩
  case call c =>
    obtain ⟨cal, ⟨args⟩, tys⟩ := c
    cases cal with
    | builtin b => exact hval h
    | invoke r m => exact hval h
    | value fo =>
      simp only [goD] at h ⊢
      cases hf : Sym.ev fr fo with
      | none => simp only [hf] at h
      | some u =>
        cases u <;> simp only [hf] at h ⊢
        rename_i fid cs
        cases cs with
        | cons _ _ => simp only at h
        | nil =>
        obtain ⟨vs, h1, v, a1, a2, a3, a4⟩ := evs_det args _ h
        obtain ⟨W, k1, k2⟩ := put a4
        exact ⟨W, k1, evs_det.evs_mono args (fun us e => by subst e; exact ⟨v, a1, a2, a3, k2⟩) h1⟩
theorem stepD_det {C : Ctx} {all : List Oper} {o : Oper} {st : St} {K : Wr → Prop} (h : stepD C all o st K) : ∃ W, K W ∧ stepD C all o st (· = W) := by
  obtain ⟨dst, op, ty, pos, after, g⟩ := o
  have sk : ∀ {K : Wr → Prop}, skipD dst st.n K → ∃ W, K W ∧ skipD dst st.n (· = W) := fun {K} h => by
    unfold skipD at h ⊢
    cases dst with
    | none => exact ⟨_, h, rfl⟩
    | some d =>
      simp only at h ⊢
      cases hb : Nat.blt d st.n with
      | false => rw [hb] at h; exact h.elim
      | true => rw [hb] at h; exact ⟨_, h, rfl⟩
  unfold stepD at h ⊢
  cases g with
  | none => exact goD_det h
  | some p =>
    obtain ⟨j, want⟩ := p
    simp only at h ⊢
    cases hv : guardV all st.fr j with
    | none => simp only [hv] at h
    | some q =>
      obtain ⟨t, v⟩ := q
      cases v <;> simp only [hv] at h ⊢
      · rename_i b
        cases hb : b == want with
        | true => rw [hb] at h; exact goD_det h
        | false => rw [hb] at h; exact sk h
      · exact sk h
def rowW (W : Wr) (st : St) : Prop := match W with
  | .cells r off vs => ∃ t cs, get st.rows r = some (true, .cells t cs) ∧ off + vs.length ≤ cs.length
  | _ => True
theorem Mem.nil {base : Nat} {w0 : Base} {rows : List (Nat × Bool × SRow)} {nx : Nat} {β : Nat → Nat} {w : World} (h : Mem base w0 rows nx β w) : Mem base w0 [] nx β w :=
  ⟨h.below, h.base_le, fun i o r hi => by simp [get] at hi, h.lt, fun i j r o r' hi => by simp [get] at hi, h.n0, h.ext, h.pr.same fun i r hi => by simp [get] at hi⟩
section
variable {β : Nat → Nat} {a : Act} {w : World}
theorem putW_sound {d : Option Nat} {v : SV} {st : St} {base : Nat} {w0 : Base} {W : Wr} (hs : Sat base w0 st β a w) (hv : v.ok st.next) (h : putW d v st.n (· = W)) : W = .slot (d.getD 0) v ∧ Sat base w0 (applyW W st) β (a.put d (v.den β)) w := by
  unfold putW at h
  cases d with
  | none => exact h.elim
  | some d =>
    simp only at h
    cases hb : Nat.blt d st.n with
    | false => rw [hb] at h; exact h.elim
    | true =>
      rw [hb] at h
      subst h
      exact ⟨rfl, hs.put (d := d) (by simpa [Nat.blt_eq] using hb) hv⟩
theorem store_same {C : Ctx} (hE : EnvOK C.P C.E) {t : TypeId} {x y : Operand} {i off sz : Nat} {v : SV} {vs : List SV} {t' : TypeId} {cs : List SV} {kd : TK} {ag : Bool} {z : List SV} {fr : List (Nat × SV)} {rows : List (Nat × Bool × SRow)} {nx n : Nat} {ty : TypeId} {pos : String} {after : Array Edge} {g : Option (Nat × Bool)}
    (hs : Sat C.base C.w0 ⟨fr, rows, nx, n⟩ β a w) (hx : ev fr x = some (.ptr i off)) (hy : ev fr y = some v) (ht : get C.E t = some ⟨kd, sz, ag, z⟩)
    (hv : cellsSV v = some vs) (hi : get rows i = some (true, .cells t' cs)) (hl : vs.length = sz) (hle : off + sz ≤ cs.length) (h1 : allOne vs = true) {next : Act → World → Prop} {Q : Exit → Act → World → Prop}
    (hn : ∀ a' w', Sat C.base C.w0 (applyW (.cells i off vs) ⟨fr, rows, nx, n⟩) β a' w' → next a' w') : Oper.wp C.P ⟨none, .store t x y, ty, pos, after, g⟩ a w next Q := by
  have ht' := env_get hE ht
  obtain ⟨ex, _⟩ := ev_sound hs hx
  obtain ⟨ey, oy⟩ := ev_sound hs hy
  obtain ⟨ec, oc⟩ := cells_sound (β := β) hv oy
  obtain ⟨k1, k2, k3, k4⟩ := hs.mem.row i true _ hi
  simp only [RowIs] at k1
  have hap : applyW (.cells i off vs) ⟨fr, rows, nx, n⟩ = ⟨fr, (i, true, .cells t' (splice cs off vs)) :: rows, nx, n⟩ := by simp only [applyW, hi]
  rw [hap] at hn
  have hst := run_storeCells_at (P := C.P) (β i) off t' (SV.dens β vs) 0 _ w k1 (by simp [SV.dens_len]; omega) (allOne_sound h1 oc)
  have hst2 : (storeVar t ⟨β i, off, none⟩ (v.den β)).run C.P w = .ok () (w.setRow (β i) (SV.dens β (splice cs off vs)).toArray) := by
    simp only [storeVar, Sem.run_bind, ht'.size, Result.andThen_ok, ec]
    rw [if_neg (by simp [SV.dens_len, hl])]
    rw [hst]
    congr 2
    unfold splice
    rw [SV.dens_append, SV.dens_append, SV.dens_take, SV.dens_drop]
    simp [SV.dens_len]
  unfold Oper.wp
  have : (execOp a.eval ⟨none, .store t x y, ty, pos, after, g⟩).run C.P w = .ok .skip (w.setRow (β i) (SV.dens β (splice cs off vs)).toArray) := by
    simp [execOp, Instr.storeAt, ex, ey, SV.den, Instr.sureAddr, hst2]
  rw [this]
  show next (a.put none undef) _
  exact hn _ _ (hs.setRow hi (splice_ok k2 oc))
theorem goD_sound {C : Ctx} (hE : EnvOK C.P C.E) {o : Oper} {st : St} {W : Wr} (hs : Sat C.base C.w0 st β a w) (h : goD C o.dst o.op st (· = W)) {next : Act → World → Prop} {Q : Exit → Act → World → Prop}
    (hn : ∀ a' w', Sat C.base C.w0 (applyW W st) β a' w' → next a' w') : o.wp C.P a w next Q := by
  obtain ⟨dst, op, ty, pos, after, g⟩ := o
  obtain ⟨fr, rows, nx, n⟩ := st
  have hval : evVal C op fr rows (fun v => putW dst v n (· = W)) → Oper.wp C.P ⟨dst, op, ty, pos, after, g⟩ a w next Q := fun h => by
    obtain ⟨v, hK, ho, hr⟩ := evVal_sound hE (o := ⟨dst, op, ty, pos, after, g⟩) hs h
    obtain ⟨_, hs'⟩ := putW_sound hs ho hK
    unfold Oper.wp
    rw [hr w hs.mem.l]
    exact hn _ _ hs'
  cases op <;> try exact hval h
  case store t x y =>
    simp only [goD] at h
    cases hx : ev fr x with
    | none => simp only [hx] at h
    | some u =>
      cases u <;> simp only [hx] at h
      case ptr i off =>
        cases hy : ev fr y with
        | none => simp only [hy] at h
        | some v =>
          cases ht : get C.E t with
          | none => simp only [hy, ht] at h
          | some ti =>
            obtain ⟨kd, sz, ag, z⟩ := ti
            simp only [hy, ht] at h
            cases hv : cellsSV v with
            | none => simp only [hv] at h
            | some vs =>
              cases hi : get rows i with
              | none => simp only [hv, hi] at h
              | some p =>
                obtain ⟨ow, r⟩ := p
                cases ow with
                | false => simp only [hv, hi] at h
                | true =>
                  cases r with
                  | blob Φ => simp only [hv, hi] at h
                  | cells t' cs =>
                    cases dst with
                    | some d => simp only [hv, hi] at h
                    | none =>
                      simp only [hv, hi] at h
                      cases hb : (Nat.beq vs.length sz && Nat.ble (off + sz) cs.length) && allOne vs with
                      | false => rw [hb] at h; exact h.elim
                      | true =>
                        rw [hb] at h
                        simp only [Bool.and_eq_true] at hb
                        have h : Wr.cells i off vs = W := h
                        subst h
                        exact store_same hE hs hx hy ht hv hi (Nat.eq_of_beq_eq_true hb.1.1) (Nat.le_of_ble_eq_true hb.1.2) hb.2 hn
  case call c =>
    obtain ⟨cal, ⟨args⟩, tys⟩ := c
    cases cal with
    | builtin b => exact hval h
    | invoke r m => exact hval h
    | value fo =>
      simp only [goD] at h
      cases hfo : ev fr fo with
      | none => simp only [hfo] at h
      | some u =>
        cases u <;> simp only [hfo] at h
        case fn fid cs =>
          cases cs with
          | cons _ _ => simp only at h
          | nil =>
          obtain ⟨vs, ⟨v, hen, hok, hc, hp⟩, e⟩ := evs_sound hs _ _ h
          obtain ⟨ef, _⟩ := ev_sound hs hfo
          have hr : (execOp a.eval ⟨dst, .call ⟨.value fo, ⟨args⟩, tys⟩, ty, pos, after, g⟩).run C.P w = .ok (.enter fid (SV.dens β vs).toArray) w := by
            simp only [execOp, resolve, ef, SV.den, SV.dens, Deferred.ofValue, Sem.run_bind, Sem.run_pure, Result.andThen_ok, invoke]
            have e2 : (#[] ++ Array.map a.eval ⟨args⟩ ++ #[] : Array Value) = (SV.dens β vs).toArray := by
              rw [← e]; simp
            rw [e2]
            exact enters_b hen _ _
          unfold Oper.wp
          rw [hr]
          refine (hc β w hs.mem.nil).mono ?_
          rintro e' w' ⟨rfl, hb⟩
          have hs2 : Sat C.base C.w0 ⟨fr, rows, nx, n⟩ β a w' := hs.world (hs.mem.belowNext hb)
          exact hn _ _ (putW_sound hs2 hok hp).2

theorem stepD_sound {C : Ctx} (hE : EnvOK C.P C.E) {all : List Oper} {o : Oper} {st : St} {W : Wr} (hs : Sat C.base C.w0 st β a w) (h : stepD C all o st (· = W)) :
    (Region.wanted o (yielded all.toArray a.tmps) = true ∧ ∀ (next : Act → World → Prop) (Q : Exit → Act → World → Prop), (∀ a' w', Sat C.base C.w0 (applyW W st) β a' w' → next a' w') → o.wp C.P a w next Q) ∨
    (Region.wanted o (yielded all.toArray a.tmps) = false ∧ Sat C.base C.w0 (applyW W st) β (a.put o.dst undef) w) := by
  obtain ⟨dst, op, ty, pos, after, g⟩ := o
  have sk : skipD dst st.n (· = W) → Sat C.base C.w0 (applyW W st) β (a.put dst undef) w := fun h => by
    unfold skipD at h
    cases dst with
    | none => have h : Wr.nop = W := h; subst h; exact hs
    | some d =>
      simp only at h
      cases hb : Nat.blt d st.n with
      | false => rw [hb] at h; exact h.elim
      | true =>
        rw [hb] at h
        have h : Wr.slot d (.tup []) = W := h
        subst h
        exact hs.put (d := d) (v := .tup []) (by simpa [Nat.blt_eq] using hb) trivial
  unfold stepD at h
  cases g with
  | none => exact .inl ⟨rfl, fun next Q hn => goD_sound hE (o := ⟨dst, op, ty, pos, after, none⟩) hs h hn⟩
  | some p =>
    obtain ⟨j, want⟩ := p
    simp only at h
    cases hg : guardV all st.fr j with
    | none => simp only [hg] at h
    | some q =>
      obtain ⟨t, v⟩ := q
      obtain ⟨y1, y2⟩ := guard_sound hs hg
      simp only [hg] at h
      cases v <;> simp only at h
      case lit b =>
        have hwant : Region.wanted ⟨dst, op, ty, pos, after, some (j, want)⟩ (yielded all.toArray a.tmps) = (b == want) := by
          simp only [Region.wanted, y1 b rfl]; cases b <;> cases want <;> rfl
        cases hb : b == want with
        | true => rw [hb] at h; exact .inl ⟨hwant.trans hb, fun next Q hn => goD_sound hE (o := ⟨dst, op, ty, pos, after, some (j, want)⟩) hs h hn⟩
        | false => rw [hb] at h; exact .inr ⟨hwant.trans hb, sk h⟩
      case tup vs => exact .inr ⟨by simp only [Region.wanted, y2 (fun b e => by simp [SV.den] at e)]; rfl, sk h⟩
/-- two things written are one -/
def wEq : Wr → Wr → Prop
  | .slot d v, .slot d' v' => d = d' ∧ (∀ β, v.den β = v'.den β) ∧ (∀ n, v.ok n → v'.ok n)
  | .cells r off vs, W => Wr.cells r off vs = W
  | .nop, W => Wr.nop = W
  | .slot _ _, _ => False
theorem wEq_refl : ∀ W, wEq W W
  | .slot _ _ => ⟨rfl, fun _ => rfl, fun _ h => h⟩
  | .cells _ _ _ => rfl
  | .nop => rfl
theorem wEq_sat {base : Nat} {w0 : Base} {W W' : Wr} {st : St} (h : wEq W W') (hs : Sat base w0 (applyW W st) β a w) : Sat base w0 (applyW W' st) β a w := by
  cases W with
  | cells r off vs => have h : Wr.cells r off vs = W' := h; subst h; exact hs
  | nop => have h : Wr.nop = W' := h; subst h; exact hs
  | slot d v =>
    cases W' with
    | cells _ _ _ => exact False.elim h
    | nop => exact False.elim h
    | slot d' v' =>
      obtain ⟨rfl, h2, h3⟩ := h
      obtain ⟨fr, rows, nx, n⟩ := st
      obtain ⟨k1, k2, k3, k4⟩ := hs
      refine ⟨k1, k2, fun s u hu => ?_, k4⟩
      have hu' : get ((d, v') :: fr) s = some u := hu
      rw [get_cons] at hu'
      by_cases e : d = s
      · rw [if_pos e] at hu'
        cases hu'
        obtain ⟨m1, m2⟩ := k3 s v (show get ((d, v) :: fr) s = some v by rw [get_cons, if_pos e])
        exact ⟨by rw [m1, h2], h3 _ m2⟩
      · rw [if_neg e] at hu'
        exact k3 s u (show get ((d, v) :: fr) s = some u by rw [get_cons, if_neg e]; exact hu')
/-- the region's record, in the text's order -/
def Canon (C : Ctx) (all : List Oper) : List Oper → List Rec → St → Prop
  | [], [], _ => True
  | o :: l, (W, rd) :: r, st => (∃ W0, stepD C all o st (· = W0) ∧ wEq W0 W) ∧ rd = rdOf C.E o.op st.fr ∧ Canon C all l r (applyW W st)
  | _, _, _ => False
def runW : List Rec → St → St
  | [], st => st
  | (W, _) :: r, st => runW r (applyW W st)
theorem splitG_spec {g : Bool} {W : Wr} {K : Wr → Prop} (h : splitG g W K) : ∃ W', K W' ∧ wEq W W' := by
  unfold splitG at h
  split at h
  · rename_i d b
    cases b with
    | true => exact ⟨_, h.1 rfl, rfl, fun _ => rfl, fun _ _ => trivial⟩
    | false => exact ⟨_, h.2 rfl, rfl, fun _ => rfl, fun _ _ => trivial⟩
  · rename_i d p hp
    by_cases hq : p
    · exact ⟨_, h.1 hq, rfl, fun _ => by simp [SV.den, hq], fun _ _ => trivial⟩
    · exact ⟨_, h.2 hq, rfl, fun _ => by simp [SV.den, hq], fun _ _ => trivial⟩
  · exact ⟨_, h, wEq_refl _⟩
theorem applyF_eq {W : Wr} {st : St} {K : St → Prop} (h : applyF W st K) : K (applyW W st) := by
  obtain ⟨fr, rows, nx, n⟩ := st
  cases W with
  | slot d v => exact h
  | nop => exact h
  | cells r off vs =>
    cases hr : get rows r with
    | none => simp only [applyF, applyW, hr] at h ⊢; exact h
    | some p =>
      obtain ⟨o, q⟩ := p
      cases q with
      | blob Φ => simp only [applyF, applyW, hr] at h ⊢; exact h
      | cells t cs => simp only [applyF, applyW, hr] at h ⊢; exact forceL_eq _ _ h
theorem wpD_canon {C : Ctx} {all : List Oper} : ∀ (l : List Oper) (j : Nat) (st : St) (acc : List Rec) (K : List Rec → St → Prop), wpD C all l j st acc K → ∃ Rs, Canon C all l Rs st ∧ K (Rs.reverse ++ acc) (runW Rs st)
  | [], j, st, acc, K, h => ⟨[], trivial, h⟩
  | ⟨dst, op, ty, pos, after, g⟩ :: l, j, st, acc, K, h => by
    simp only [wpD] at h
    obtain ⟨W0, h1, h2⟩ := stepD_det h
    obtain ⟨W, h3, h4⟩ := splitG_spec h1
    obtain ⟨Rs, h5, h6⟩ := wpD_canon l (j + 1) _ _ K (applyF_eq h3)
    refine ⟨(W, rdOf C.E op st.fr) :: Rs, ⟨⟨W0, h2, h4⟩, rfl, h5⟩, ?_⟩
    simpa [runW] using h6
theorem goD_row {C : Ctx} {dst : Option Nat} {op : Op} {st : St} {W : Wr} (put : ∀ {v : SV}, putW dst v st.n (· = W) → rowW W st) (h : goD C dst op st (· = W)) : rowW W st := by
  obtain ⟨fr, rows, nx, n⟩ := st
  have hval : evVal C op fr rows (fun v => putW dst v n (· = W)) → rowW W ⟨fr, rows, nx, n⟩ := fun h => by
    obtain ⟨v, h1, _⟩ := evVal_det h
    exact put h1
  cases op <;> try exact hval h
  case store t x y =>
    simp only [goD] at h
    cases hx : ev fr x with
    | none => simp only [hx] at h
    | some u =>
      cases u <;> simp only [hx] at h
      case ptr i off =>
        cases hy : ev fr y with
        | none => simp only [hy] at h
        | some v =>
          cases ht : get C.E t with
          | none => simp only [hy, ht] at h
          | some ti =>
            obtain ⟨kd, sz, ag, z⟩ := ti
            simp only [hy, ht] at h
            cases hv : cellsSV v with
            | none => simp only [hv] at h
            | some vs =>
              cases hi : get rows i with
              | none => simp only [hv, hi] at h
              | some p =>
                obtain ⟨ow, r⟩ := p
                cases ow with
                | false => simp only [hv, hi] at h
                | true =>
                  cases r with
                  | blob Φ => simp only [hv, hi] at h
                  | cells t' cs =>
                    cases dst with
                    | some d => simp only [hv, hi] at h
                    | none =>
                      simp only [hv, hi] at h
                      cases hb : (Nat.beq vs.length sz && Nat.ble (off + sz) cs.length) && allOne vs with
                      | false => rw [hb] at h; exact h.elim
                      | true =>
                        rw [hb] at h
                        simp only [Bool.and_eq_true] at hb
                        have h : Wr.cells i off vs = W := h
                        subst h
                        have e1 := Nat.eq_of_beq_eq_true hb.1.1
                        have e2 := Nat.le_of_ble_eq_true hb.1.2
                        exact ⟨t', cs, hi, by omega⟩
  case call c =>
    obtain ⟨cal, ⟨args⟩, tys⟩ := c
    cases cal with
    | builtin b => exact hval h
    | invoke r m => exact hval h
    | value fo =>
      simp only [goD] at h
      cases hf : ev fr fo with
      | none => simp only [hf] at h
      | some u =>
        cases u <;> simp only [hf] at h
        rename_i fid cs
        cases cs with
        | cons _ _ => simp only at h
        | nil =>
        obtain ⟨vs, _, v, _, _, _, a4⟩ := evs_det args _ h
        exact put a4
theorem stepD_row {C : Ctx} {all : List Oper} {o : Oper} {st : St} {W : Wr} (h : stepD C all o st (· = W)) : rowW W st := by
  obtain ⟨dst, op, ty, pos, after, g⟩ := o
  have put : ∀ {v : SV}, putW dst v st.n (· = W) → rowW W st := fun {v} h => by
    unfold putW at h
    cases dst with
    | none => exact h.elim
    | some d =>
      simp only at h
      cases hb : Nat.blt d st.n with
      | false => rw [hb] at h; exact h.elim
      | true => rw [hb] at h; have h : Wr.slot d v = W := h; subst h; trivial
  have sk : skipD dst st.n (· = W) → rowW W st := fun h => by
    unfold skipD at h
    cases dst with
    | none => have h : Wr.nop = W := h; subst h; trivial
    | some d =>
      simp only at h
      cases hb : Nat.blt d st.n with
      | false => rw [hb] at h; exact h.elim
      | true => rw [hb] at h; have h : Wr.slot d (.tup []) = W := h; subst h; trivial
  have go : goD C dst op st (· = W) → rowW W st := goD_row put
  unfold stepD at h
  cases g with
  | none => exact go h
  | some p =>
    obtain ⟨j, want⟩ := p
    simp only at h
    cases hv : guardV all st.fr j with
    | none => simp only [hv] at h
    | some q =>
      obtain ⟨t, v⟩ := q
      cases v <;> simp only [hv] at h
      · rename_i b
        cases hb : b == want with
        | true => rw [hb] at h; exact go h
        | false => rw [hb] at h; exact sk h
      · exact sk h
theorem wEq_row {W W' : Wr} {st : St} (h : wEq W W') (k : rowW W st) : rowW W' st := by
  cases W with
  | cells r off vs => have h : Wr.cells r off vs = W' := h; subst h; exact k
  | nop => have h : Wr.nop = W' := h; subst h; exact k
  | slot d v => cases W' <;> first | exact False.elim h | trivial
/-- one shape -/
structure Shape (st st' : St) : Prop where
  n : st.n = st'.n
  next : st.next = st'.next
  row : ∀ r, sameRow (get st.rows r) (get st'.rows r)
theorem Shape.refl (st : St) : Shape st st := ⟨rfl, rfl, fun _ => sameRow_refl _⟩
theorem Shape.trans {a b c : St} (h : Shape a b) (k : Shape b c) : Shape a c := ⟨h.n.trans k.n, h.next.trans k.next, fun r => sameRow_trans (h.row r) (k.row r)⟩
theorem Shape.symm {a b : St} (h : Shape a b) : Shape b a := ⟨h.n.symm, h.next.symm, fun r => sameRow_symm (h.row r)⟩
theorem rowW_shape {W : Wr} {st st' : St} (h : Shape st st') (k : rowW W st) : rowW W st' := by
  cases W with
  | cells r off vs =>
    obtain ⟨t, cs, h1, h2⟩ := k
    have := h.row r
    rw [h1] at this
    obtain ⟨cs', e1, e2⟩ := sameRow_cells this
    exact ⟨t, cs', e1, by omega⟩
  | _ => trivial
theorem splice_len {cs vs : List SV} {off : Nat} (h : off + vs.length ≤ cs.length) : (splice cs off vs).length = cs.length := by
  unfold splice; simp; omega
theorem splice_get {cs vs : List SV} {off : Nat} (h : off + vs.length ≤ cs.length) (c : Nat) : (splice cs off vs)[c]? = if off ≤ c ∧ c < off + vs.length then vs[c - off]? else cs[c]? := by
  unfold splice
  rw [List.getElem?_append, List.getElem?_append]
  have h1 : (cs.take off).length = off := by simp; omega
  rw [h1]
  by_cases h2 : c < off
  · rw [if_pos h2, if_neg (by omega), List.getElem?_take, if_pos h2]
  · rw [if_neg h2]
    by_cases h3 : c - off < vs.length
    · rw [if_pos h3, if_pos (by omega)]
    · rw [if_neg h3, if_neg (by omega), List.getElem?_drop]
      congr 1; omega
theorem shape_apply {W : Wr} {st : St} (h : rowW W st) : Shape st (applyW W st) := by
  obtain ⟨fr, rows, nx, n⟩ := st
  cases W with
  | slot d v => exact ⟨rfl, rfl, fun _ => sameRow_refl _⟩
  | nop => exact Shape.refl _
  | cells r off vs =>
    obtain ⟨t, cs, h1, h2⟩ := h
    have h1 : get rows r = some (true, .cells t cs) := h1
    have e : applyW (.cells r off vs) ⟨fr, rows, nx, n⟩ = ⟨fr, (r, true, .cells t (splice cs off vs)) :: rows, nx, n⟩ := by simp only [applyW, h1]
    rw [e]
    refine ⟨rfl, rfl, fun q => ?_⟩
    show sameRow (get rows q) (get ((r, true, .cells t (splice cs off vs)) :: rows) q)
    rw [get_cons]
    by_cases e' : r = q
    · subst e'; rw [if_pos rfl, h1]; exact ⟨rfl, rfl, (splice_len h2).symm⟩
    · rw [if_neg e']; exact sameRow_refl _
/-- what is written at a place -/
def wv : Wr → Loc → Option SV
  | .slot d v, .slot t => if d = t then some v else none
  | .cells r off vs, .cell r' c => if r = r' ∧ off ≤ c ∧ c < off + vs.length then vs[c - off]? else none
  | _, _ => none
theorem val_apply {W : Wr} {st : St} (h : rowW W st) (ℓ : Loc) : val (applyW W st) ℓ = match wv W ℓ with | some v => some v | none => val st ℓ := by
  obtain ⟨fr, rows, nx, n⟩ := st
  cases W with
  | nop => cases ℓ <;> rfl
  | slot d v =>
    cases ℓ with
    | slot t =>
      simp only [wv, val]
      show get ((d, v) :: fr) t = _
      rw [get_cons]
      by_cases e : d = t
      · rw [if_pos e, if_pos e]
      · rw [if_neg e, if_neg e]
    | cell r c => rfl
  | cells r off vs =>
    obtain ⟨t, cs, h1, h2⟩ := h
    have h1 : get rows r = some (true, .cells t cs) := h1
    have e : applyW (.cells r off vs) ⟨fr, rows, nx, n⟩ = ⟨fr, (r, true, .cells t (splice cs off vs)) :: rows, nx, n⟩ := by simp only [applyW, h1]
    rw [e]
    cases ℓ with
    | slot t => rfl
    | cell q c =>
      show cellOf (get ((r, true, .cells t (splice cs off vs)) :: rows) q) c = match wv (.cells r off vs) (.cell q c) with | some v => some v | none => cellOf (get rows q) c
      rw [get_cons]
      simp only [wv]
      by_cases e' : r = q
      · subst e'
        rw [if_pos rfl, h1]
        simp only [cellOf, splice_get h2]
        by_cases hc : off ≤ c ∧ c < off + vs.length
        · rw [if_pos hc, if_pos (by first | exact ⟨rfl, hc⟩ | exact ⟨trivial, hc⟩)]
          rw [List.getElem?_eq_getElem (by omega)]
        · rw [if_neg hc, if_neg (fun h => hc h.2)]
      · rw [if_neg e', if_neg (fun h => e' h.1)]
def stAt (D : Nat → Bool) : List Rec → Nat → St → St
  | [], _, st => st
  | (W, _) :: r, k, st => stAt D r (k + 1) (if D k = true then applyW W st else st)
def foldV (D : Nat → Bool) (ℓ : Loc) : List Rec → Nat → Option SV → Option SV
  | [], _, x => x
  | (W, _) :: r, k, x => foldV D ℓ r (k + 1) (if D k = true then (match wv W ℓ with | some v => some v | none => x) else x)
theorem stAt_spec {D : Nat → Bool} : ∀ (Rs : List Rec) (k : Nat) (st : St), (∀ R ∈ Rs, rowW R.1 st) → Shape st (stAt D Rs k st) ∧ ∀ ℓ, val (stAt D Rs k st) ℓ = foldV D ℓ Rs k (val st ℓ)
  | [], k, st, _ => ⟨Shape.refl _, fun _ => rfl⟩
  | (W, rd) :: r, k, st, h => by
    have hW : rowW W st := h (W, rd) (by simp)
    have hs : Shape st (if D k = true then applyW W st else st) := by split; exact shape_apply hW; exact Shape.refl _
    obtain ⟨h1, h2⟩ := stAt_spec r (k + 1) (if D k = true then applyW W st else st) (fun R hR => rowW_shape hs (h R (by simp [hR])))
    refine ⟨hs.trans h1, fun ℓ => ?_⟩
    show val (stAt D r (k + 1) _) ℓ = foldV D ℓ r (k + 1) _
    rw [h2 ℓ]
    congr 1
    split
    · exact val_apply hW ℓ
    · rfl
/-- states of one shape that hold the same are one to the walk -/
theorem sat_val {base : Nat} {w0 : Base} {st st' : St} (hsh : Shape st st') (hv : ∀ ℓ, val st ℓ = val st' ℓ) (hs : Sat base w0 st β a w) : Sat base w0 st' β a w := by
  obtain ⟨k1, k2, k3, k4⟩ := hs
  have hrow : ∀ r, get st.rows r = get st'.rows r := fun r => by
    have h1 := hsh.row r
    have h2 := fun c => hv (.cell r c)
    simp only [val] at h2
    cases hg : get st.rows r with
    | none => rw [hg] at h1; exact (sameRow_none h1).symm
    | some p =>
      obtain ⟨o, q⟩ := p
      cases q with
      | blob Φ => rw [hg] at h1; exact (sameRow_ints h1).symm
      | cells t cs =>
        rw [hg] at h1 h2
        obtain ⟨cs', e1, e2⟩ := sameRow_cells h1
        rw [e1] at h2 ⊢
        simp only [cellOf] at h2
        rw [List.ext_getElem? h2]
  refine ⟨k1, k2.trans hsh.n, fun s v hv' => ?_, k4.below, k4.base_le, fun i o r hi => ?_, fun i hi => k4.lt i (by rw [hsh.next]; exact hi), fun i j r o r' hi hj => k4.inj i j r o r' (by rw [hrow]; exact hi) (by rw [hrow]; exact hj), by rw [← hsh.next]; exact k4.n0, k4.ext, k4.pr.same fun i r hi => ⟨i, r, by rw [hrow]; exact hi, rfl⟩⟩
  · have := hv (.slot s)
    simp only [val] at this
    rw [← hsh.next]
    exact k3 s v (by rw [this]; exact hv')
  · rw [← hsh.next]; exact k4.row i o r (by rw [hrow]; exact hi)

theorem canon_rows {C : Ctx} {all : List Oper} : ∀ (l : List Oper) (Rs : List Rec) (st : St), Canon C all l Rs st → l.length = Rs.length ∧ ∀ R ∈ Rs, rowW R.1 st
  | [], [], _, _ => ⟨rfl, fun _ h => by simp at h⟩
  | [], _ :: _, _, h => h.elim
  | _ :: _, [], _, h => h.elim
  | o :: l, (W, rd) :: r, st, h => by
    obtain ⟨⟨W0, h1, h2⟩, _, h3⟩ := h
    have hW := wEq_row h2 (stepD_row h1)
    obtain ⟨k1, k2⟩ := canon_rows l r _ h3
    refine ⟨by simp [k1], fun R hR => ?_⟩
    rcases List.mem_cons.1 hR with rfl | hR
    · exact hW
    · exact rowW_shape (shape_apply hW).symm (k2 R hR)
theorem canon_at {C : Ctx} {all : List Oper} : ∀ (l : List Oper) (Rs : List Rec) (st : St), Canon C all l Rs st → ∀ (i : Nat) (o : Oper), l[i]? = some o → ∃ R, Rs[i]? = some R ∧ (∃ W0, stepD C all o (runW (Rs.take i) st) (· = W0) ∧ wEq W0 R.1) ∧ R.2 = rdOf C.E o.op (runW (Rs.take i) st).fr
  | [], _, _, _, i, o, h => by simp at h
  | _ :: _, [], _, h, _, _, _ => h.elim
  | o :: l, (W, rd) :: r, st, h, 0, o', e => by
    obtain ⟨h1, h2, _⟩ := h
    have e : o = o' := by simpa using e
    subst e
    exact ⟨(W, rd), rfl, h1, h2⟩
  | o :: l, (W, rd) :: r, st, h, i + 1, o', e => by
    obtain ⟨_, _, h3⟩ := h
    exact canon_at l r _ h3 i o' (by simpa using e)
theorem stAt_take : ∀ (Rs : List Rec) (k i : Nat) (st : St), stAt (fun j => decide (j < k + i)) Rs k st = runW (Rs.take i) st
  | [], k, i, st => by simp [stAt, runW]
  | (W, rd) :: r, k, 0, st => by
    simp only [stAt, Nat.add_zero, List.take_zero, runW]
    rw [if_neg (by simp)]
    exact stAt_none r (k + 1) st _ (fun j hj => by simp; omega)
  | (W, rd) :: r, k, i + 1, st => by
    simp only [stAt, List.take_succ_cons, runW]
    rw [if_pos (by simp)]
    rw [show k + (i + 1) = k + 1 + i by omega]
    exact stAt_take r (k + 1) i _
where stAt_none : ∀ (Rs : List Rec) (k : Nat) (st : St) (D : Nat → Bool), (∀ j, k ≤ j → D j = false) → stAt D Rs k st = st
  | [], _, _, _, _ => rfl
  | (W, rd) :: r, k, st, D, h => by
    simp only [stAt]
    rw [if_neg (by rw [h k (Nat.le_refl _)]; simp)]
    exact stAt_none r (k + 1) st D (fun j hj => h j (by omega))
theorem stAt_all : ∀ (Rs : List Rec) (k : Nat) (st : St) (D : Nat → Bool), (∀ j, k ≤ j → j < k + Rs.length → D j = true) → stAt D Rs k st = runW Rs st
  | [], _, _, _, _ => rfl
  | (W, rd) :: r, k, st, D, h => by
    simp only [stAt, runW]
    rw [if_pos (h k (Nat.le_refl _) (by simp))]
    exact stAt_all r (k + 1) _ D (fun j h1 h2 => h j (by omega) (by simp; omega))
theorem foldV_congr {D D' : Nat → Bool} {ℓ : Loc} : ∀ (Rs : List Rec) (k : Nat) (x : Option SV), (∀ j R, Rs[j]? = some R → wv R.1 ℓ ≠ none → D (k + j) = D' (k + j)) → foldV D ℓ Rs k x = foldV D' ℓ Rs k x
  | [], _, _, _ => rfl
  | (W, rd) :: r, k, x, h => by
    simp only [foldV]
    have e : (if D k = true then (match wv W ℓ with | some v => some v | none => x) else x) = (if D' k = true then (match wv W ℓ with | some v => some v | none => x) else x) := by
      cases hw : wv W ℓ with
      | none => simp
      | some v =>
        have := h 0 (W, rd) rfl (by rw [hw]; simp)
        rw [show k + 0 = k from rfl] at this
        rw [this]
    rw [e]
    exact foldV_congr r (k + 1) _ (fun j R hR hne => by have := h (j + 1) R (by simpa using hR) hne; rwa [show k + (j + 1) = k + 1 + j by omega] at this)
theorem foldV_none {D : Nat → Bool} {ℓ : Loc} : ∀ (Rs : List Rec) (k : Nat) (x : Option SV), (∀ j R, Rs[j]? = some R → wv R.1 ℓ ≠ none → D (k + j) = false) → foldV D ℓ Rs k x = x
  | [], _, _, _ => rfl
  | (W, rd) :: r, k, x, h => by
    simp only [foldV]
    have e : (if D k = true then (match wv W ℓ with | some v => some v | none => x) else x) = x := by
      cases hw : wv W ℓ with
      | none => simp
      | some v =>
        have := h 0 (W, rd) rfl (by rw [hw]; simp)
        rw [show k + 0 = k from rfl] at this
        rw [this]; simp
    rw [e]
    exact foldV_none r (k + 1) _ (fun j R hR hne => by have := h (j + 1) R (by simpa using hR) hne; rwa [show k + (j + 1) = k + 1 + j by omega] at this)
/-- one more operation is done: at each place it is as if it had been the last -/
theorem foldV_add {D : Nat → Bool} {ℓ : Loc} {i : Nat} {R : Rec} : ∀ (Rs : List Rec) (k : Nat) (x : Option SV), k ≤ i → Rs[i - k]? = some R → D i = false → (∀ j R', Rs[j]? = some R' → i < k + j → wv R.1 ℓ ≠ none → wv R'.1 ℓ ≠ none → D (k + j) = false) →
    foldV (fun j => D j || decide (j = i)) ℓ Rs k x = match wv R.1 ℓ with | some v => some v | none => foldV D ℓ Rs k x
  | [], k, x, _, h, _, _ => by simp at h
  | (W, rd) :: r, k, x, hk, h, hD, hl => by
    simp only [foldV]
    by_cases e : k = i
    · subst e
      have e2 : (W, rd) = R := by simpa using h
      subst e2
      rw [if_pos (by simp), if_neg (by rw [hD]; simp)]
      cases hw : wv W ℓ with
      | none =>
        simp only
        refine foldV_congr r (k + 1) x (fun j R' _ _ => ?_)
        have : ¬ k + 1 + j = k := by omega
        simp [this]
      | some v =>
        simp only
        refine foldV_none r (k + 1) (some v) (fun j R' hR' hne => ?_)
        have := hl (j + 1) R' (by simpa using hR') (by omega) (by simp [hw]) hne
        have h3 : ¬ k + 1 + j = k := by omega
        simp only [Bool.or_eq_false_iff, decide_eq_false_iff_not]
        exact ⟨by rwa [show k + (j + 1) = k + 1 + j by omega] at this, h3⟩
    · have ei : i - k = (i - (k + 1)) + 1 := by omega
      rw [ei] at h
      have h : r[i - (k + 1)]? = some R := by simpa using h
      have ih := fun x => foldV_add (R := R) r (k + 1) x (by omega) h hD (fun j R' hR' hlt h1 h2 => by have := hl (j + 1) R' (by simpa using hR') (by omega) h1 h2; rwa [show k + (j + 1) = k + 1 + j by omega] at this)
      rw [ih]
      simp [e]

theorem goD_dst {C : Ctx} {dst : Option Nat} {op : Op} {st : St} {d : Nat} {v : SV} (h : goD C dst op st (· = .slot d v)) : dst = some d := by
  obtain ⟨fr, rows, nx, n⟩ := st
  have put : ∀ {u : SV}, putW dst u n (· = .slot d v) → dst = some d := fun {u} h => by
    unfold putW at h
    cases dst with
    | none => exact h.elim
    | some d' =>
      simp only at h
      cases hb : Nat.blt d' n with
      | false => rw [hb] at h; exact h.elim
      | true => rw [hb] at h; have h : Wr.slot d' u = Wr.slot d v := h; cases h; rfl
  have hval : evVal C op fr rows (fun u => putW dst u n (· = .slot d v)) → dst = some d := fun h => by
    obtain ⟨u, h1, _⟩ := evVal_det h
    exact put h1
  cases op <;> try exact hval h
  case store t x y =>
    simp only [goD] at h
    split at h
    · split at h
      · have no : ∀ {b : Bool} {r off : Nat} {vs : List SV}, (bif b then Wr.cells r off vs = Wr.slot d v else False) → False := fun {b} {r off vs} h => by
          cases b with
          | false => exact h
          | true => cases h
        exact (no h).elim
      · exact h.elim
    · exact h.elim
  case call c =>
    obtain ⟨cal, ⟨args⟩, tys⟩ := c
    cases cal with
    | builtin b => exact hval h
    | invoke r m => exact hval h
    | value fo =>
      simp only [goD] at h
      cases hf : Sym.ev fr fo with
      | none => simp only [hf] at h
      | some u =>
        cases u <;> simp only [hf] at h
        rename_i fid cs
        cases cs with
        | cons _ _ => simp only at h
        | nil =>
        obtain ⟨vs, _, v, _, _, _, a4⟩ := evs_det args _ h
        exact put a4

theorem stepD_dst {C : Ctx} {all : List Oper} {o : Oper} {st : St} {d : Nat} {v : SV} (h : stepD C all o st (· = .slot d v)) : o.dst = some d := by
  obtain ⟨dst, op, ty, pos, after, g⟩ := o
  have sk : skipD dst st.n (· = .slot d v) → dst = some d := fun h => by
    unfold skipD at h
    cases dst with
    | none => cases h
    | some d' =>
      simp only at h
      cases hb : Nat.blt d' st.n with
      | false => rw [hb] at h; exact h.elim
      | true => rw [hb] at h; have h : Wr.slot d' (.tup []) = Wr.slot d v := h; cases h; rfl
  show dst = some d
  unfold stepD at h
  cases g with
  | none => exact goD_dst h
  | some p =>
    obtain ⟨j, want⟩ := p
    simp only at h
    cases hv : guardV all st.fr j with
    | none => simp only [hv] at h
    | some q =>
      obtain ⟨t, u⟩ := q
      cases u <;> simp only [hv] at h
      · rename_i b
        cases hb : b == want with
        | true => rw [hb] at h; exact goD_dst h
        | false => rw [hb] at h; exact sk h
      · exact sk h
theorem rec_dst {C : Ctx} {all : List Oper} {o : Oper} {st : St} {W0 W : Wr} {d : Nat} {v : SV} (h : stepD C all o st (· = W0)) (e : wEq W0 W) (hw : W = .slot d v) : o.dst = some d := by
  subst hw
  cases W0 with
  | cells r off vs => cases e
  | nop => cases e
  | slot d' v' => obtain ⟨rfl, _⟩ := e; exact stepD_dst h
theorem allB_spec {p : Nat → Bool} : ∀ {m : Nat}, allB m p = true → ∀ i, i < m → p i = true
  | 0, _, i, h => by omega
  | m + 1, h, i, hi => by
    simp only [allB, Bool.and_eq_true] at h
    by_cases e : i = m
    · subst e; exact h.1
    · exact allB_spec h.2 i (by omega)
theorem anc_closed {all : List Oper} {D : Nat → Bool} (hD : ∀ j o, all[j]? = some o → D j = true → ∀ e ∈ o.after, Region.binds .any e = true → D e.on = true) {i : Nat} : ∀ (f j : Nat), ancB all f i j = true → D j = true → D i = true
  | 0, _, h, _ => by simp [ancB] at h
  | f + 1, j, h, hj => by
    simp only [ancB] at h
    cases ho : all[j]? with
    | none => rw [ho] at h; cases h
    | some o =>
      rw [ho] at h
      simp only [List.any_eq_true, Bool.and_eq_true, Bool.or_eq_true] at h
      obtain ⟨e, he, hb, h⟩ := h
      have h1 := hD j o ho hj e (by simpa using he) hb
      rcases h with h | h
      · rw [Nat.eq_of_beq_eq_true h] at h1; exact h1
      · exact anc_closed hD f e.on h h1
theorem apart_symm {ops : Array Oper} {x y : Oper} : x.apart ops y = true → y.apart ops x = true := fun h => by
  obtain ⟨h1, h2, h3⟩ := Oper.apart_spec h
  unfold Oper.apart
  simp only [Bool.and_eq_true]
  constructor
  · cases hy : y.dst with
    | none => rfl
    | some d =>
      simp only [Bool.and_eq_true, Bool.not_eq_true', bne_iff_ne, ne_eq]
      refine ⟨by simpa using h3 d hy, fun e => h2 d e hy⟩
  · cases hx : x.dst with
    | none => rfl
    | some d => simp only [Bool.not_eq_true']; simpa using h1 d hx
theorem not_apart {ops : Array Oper} {x y : Oper} {t : Nat} (hx : x.dst = some t) (hy : t ∈ y.looksAt ops ∨ y.dst = some t) : x.apart ops y = false := by
  cases h : x.apart ops y with
  | false => rfl
  | true =>
    obtain ⟨h1, h2, h3⟩ := Oper.apart_spec h
    rcases hy with hy | hy
    · exact (h1 t hx hy).elim
    · exact (h2 t hx hy).elim
theorem not_apart' {ops : Array Oper} {x y : Oper} {t : Nat} (hx : x.dst = some t) (hy : t ∈ y.looksAt ops ∨ y.dst = some t) : y.apart ops x = false := by
  cases h : y.apart ops x with
  | false => rfl
  | true => have := not_apart hx hy; rw [apart_symm h] at this; cases this
/-- all that is needed of a region's record -/
structure Region1 (C : Ctx) (all : List Oper) (Rs : List Rec) (st0 : St) : Prop where
  len : all.length = Rs.length
  rows : ∀ R ∈ Rs, rowW R.1 st0
  at_ : ∀ (i : Nat) (o : Oper), all[i]? = some o → ∃ R, Rs[i]? = some R ∧ (∃ W0, stepD C all o (stAt (fun j => decide (j < i)) Rs 0 st0) (· = W0) ∧ wEq W0 R.1) ∧ R.2 = rdOf C.E o.op (stAt (fun j => decide (j < i)) Rs 0 st0).fr
  pair : ∀ i j, i < j → j < all.length → pairB all Rs i j = true
  edge : ∀ j o, all[j]? = some o → ∀ e ∈ o.after, Region.binds .any e = true → e.on < j
theorem region1 {C : Ctx} {all : List Oper} {Rs : List Rec} {st0 : St} (h : Canon C all all Rs st0) (hc : chk all Rs = true) : Region1 C all Rs st0 := by
  obtain ⟨h1, h2⟩ := canon_rows all Rs st0 h
  have hp := allB_spec hc
  refine ⟨h1, h2, fun i o hi => ?_, fun i j hij hj => ?_, fun j o ho e he hb => ?_⟩
  · obtain ⟨R, k1, k2, k3⟩ := canon_at all Rs st0 h i o hi
    have e := stAt_take Rs 0 i st0
    simp only [Nat.zero_add] at e
    rw [e]
    exact ⟨R, k1, k2, k3⟩
  · have := hp j hj
    simp only [Bool.and_eq_true] at this
    exact allB_spec this.2 i hij
  · have hj : j < all.length := (List.getElem?_eq_some_iff.1 ho).1
    have := hp j hj
    simp only [Bool.and_eq_true] at this
    have := this.1
    unfold edgesB at this
    rw [ho] at this
    simp only [List.all_eq_true] at this
    have := this e (by simpa using he)
    rw [hb] at this
    simpa [Nat.blt_eq] using this
theorem wv_slot {W : Wr} {t : Nat} (h : wv W (.slot t) ≠ none) : ∃ v, W = .slot t v := by
  cases W with
  | slot d v =>
    simp only [wv] at h
    by_cases e : d = t
    · subst e; exact ⟨v, rfl⟩
    · rw [if_neg e] at h; exact (h rfl).elim
  | _ => exact (h rfl).elim
theorem wv_cell {W : Wr} {r c : Nat} (h : wv W (.cell r c) ≠ none) : ∃ off vs, W = .cells r off vs ∧ off ≤ c ∧ c < off + vs.length := by
  cases W with
  | cells q off vs =>
    simp only [wv] at h
    by_cases e : q = r ∧ off ≤ c ∧ c < off + vs.length
    · obtain ⟨rfl, h1, h2⟩ := e; exact ⟨off, vs, rfl, h1, h2⟩
    · rw [if_neg e] at h; exact (h rfl).elim
  | _ => exact (h rfl).elim
/-- two operations that touch one place are ordered by the region's edges -/
theorem ordered {C : Ctx} {all : List Oper} {Rs : List Rec} {st0 : St} (hR : Region1 C all Rs st0) {D : Nat → Bool} (hD : ∀ j o, all[j]? = some o → D j = true → ∀ e ∈ o.after, Region.binds .any e = true → D e.on = true)
    {i j : Nat} {a b : Oper} {A B : Rec} (hij : i < j) (ha : all[i]? = some a) (hb : all[j]? = some b) (hA : Rs[i]? = some A) (hB : Rs[j]? = some B) (hc : conf all a b A B = true) : D j = true → D i = true := by
  have := hR.pair i j hij (List.getElem?_eq_some_iff.1 hb).1
  unfold pairB at this
  rw [ha, hb, hA, hB] at this
  simp only [hc, Bool.not_true, Bool.false_or] at this
  exact anc_closed hD 12 j this
end
section
variable {C : Ctx} {all : List Oper} {Rs : List Rec} {st0 : St} {D : Nat → Bool}
theorem ovl_mk {r off l off' l' c : Nat} (h1 : off ≤ c) (h2 : c < off + l) (h3 : off' ≤ c) (h4 : c < off' + l') : ovl (some (r, off, l)) (some (r, off', l')) = true := by
  simp [ovl, Nat.blt_eq]; omega
theorem conf_cells1 {a b : Oper} {A B : Rec} (h : ovl (wr A.1) B.2 = true) : conf all a b A B = true := by simp [conf, h]
theorem conf_cells2 {a b : Oper} {A B : Rec} (h : ovl (wr B.1) A.2 = true) : conf all a b A B = true := by simp [conf, h]
theorem conf_cells3 {a b : Oper} {A B : Rec} (h : ovl (wr A.1) (wr B.1) = true) : conf all a b A B = true := by simp [conf, h]
theorem conf_apart {a b : Oper} {A B : Rec} (h : a.apart all.toArray b = false) : conf all a b A B = true := by simp [conf, h]
theorem rec_of (hR : Region1 C all Rs st0) {j : Nat} {R : Rec} (h : Rs[j]? = some R) : ∃ o, all[j]? = some o ∧ (∀ t v, R.1 = .slot t v → o.dst = some t) := by
  have hj : j < all.length := by rw [hR.len]; exact (List.getElem?_eq_some_iff.1 h).1
  refine ⟨all[j], List.getElem?_eq_getElem hj, fun t v e => ?_⟩
  obtain ⟨R', k1, ⟨W0, k2, k3⟩, _⟩ := hR.at_ j _ (List.getElem?_eq_getElem hj)
  rw [h] at k1
  cases k1
  exact rec_dst k2 k3 e
/-- what the operation sees is what it sees in the text's order -/
theorem agree (hR : Region1 C all Rs st0) (hD : ∀ j o, all[j]? = some o → D j = true → ∀ e ∈ o.after, Region.binds .any e = true → D e.on = true)
    {i : Nat} {o : Oper} (ho : all[i]? = some o) (hi : D i = false) (haf : ∀ e ∈ o.after, Region.binds .any e = true → D e.on = true) : Agree C all o (stAt (fun j => decide (j < i)) Rs 0 st0) (stAt D Rs 0 st0) := by
  obtain ⟨s1, v1⟩ := stAt_spec (D := fun j => decide (j < i)) Rs 0 st0 hR.rows
  obtain ⟨s2, v2⟩ := stAt_spec (D := D) Rs 0 st0 hR.rows
  have sh := s1.symm.trans s2
  obtain ⟨A, hA, _, hrd⟩ := hR.at_ i o ho
  -- the closure with i put in
  have hD2 : ∀ j p, all[j]? = some p → (D j || decide (j = i)) = true → ∀ e ∈ p.after, Region.binds .any e = true → (D e.on || decide (e.on = i)) = true := fun j p hp hj e he hb => by
    simp only [Bool.or_eq_true, decide_eq_true_eq] at hj ⊢
    rcases hj with hj | rfl
    · exact .inl (hD j p hp hj e he hb)
    · rw [ho] at hp; cases hp; exact .inl (haf e he hb)
  have key : ∀ (j : Nat) (R : Rec) (b : Oper), Rs[j]? = some R → all[j]? = some b → j ≠ i → (j < i → conf all b o R A = true) → (i < j → conf all o b A R = true) → decide (j < i) = D j := fun j R b hj hb hne h1 h2 => by
    by_cases hlt : j < i
    · have := ordered hR hD2 hlt hb ho hj hA (h1 hlt) (by simp)
      simp only [Bool.or_eq_true, decide_eq_true_eq] at this
      rw [decide_eq_true hlt]
      rcases this with h | h
      · exact h.symm
      · exact (hne h).elim
    · have hlt' : i < j := by omega
      rw [decide_eq_false hlt]
      cases hd : D j with
      | false => rfl
      | true => have := ordered hR hD hlt' ho hb hA hj (h2 hlt') hd; rw [hi] at this; cases this
  refine ⟨sh.n, sh.next, fun t ht => ?_, sh.row, fun r off sz hr c c1 c2 => ?_⟩
  · have e1 := v1 (.slot t)
    have e2 := v2 (.slot t)
    simp only [val] at e1 e2
    rw [e1, e2]
    refine foldV_congr Rs 0 _ (fun j R hj hne => ?_)
    simp only [Nat.zero_add]
    obtain ⟨v, hv⟩ := wv_slot hne
    obtain ⟨b, hb, hbd⟩ := rec_of hR hj
    have hd := hbd t v hv
    by_cases hji : j = i
    · subst hji; simp [hi]
    · exact key j R b hj hb hji (fun _ => conf_apart (not_apart hd (.inl ht))) (fun _ => conf_apart (not_apart' hd (.inl ht)))
  · rw [v1, v2]
    refine foldV_congr Rs 0 _ (fun j R hj hne => ?_)
    simp only [Nat.zero_add]
    obtain ⟨off', vs, hv, k1, k2⟩ := wv_cell hne
    obtain ⟨b, hb, _⟩ := rec_of hR hj
    by_cases hji : j = i
    · subst hji; simp [hi]
    · have ho2 : ovl (wr R.1) A.2 = true := by rw [hv, hrd, hr]; exact ovl_mk k1 k2 c1 c2
      exact key j R b hj hb hji (fun _ => conf_cells1 ho2) (fun _ => conf_cells2 ho2)
theorem stAt_add (hR : Region1 C all Rs st0) (hD : ∀ j o, all[j]? = some o → D j = true → ∀ e ∈ o.after, Region.binds .any e = true → D e.on = true)
    {i : Nat} {o : Oper} {A : Rec} (ho : all[i]? = some o) (hA : Rs[i]? = some A) (hi : D i = false) :
    Shape (applyW A.1 (stAt D Rs 0 st0)) (stAt (fun j => D j || decide (j = i)) Rs 0 st0) ∧ ∀ ℓ, val (applyW A.1 (stAt D Rs 0 st0)) ℓ = val (stAt (fun j => D j || decide (j = i)) Rs 0 st0) ℓ := by
  obtain ⟨s1, v1⟩ := stAt_spec (D := fun j => D j || decide (j = i)) Rs 0 st0 hR.rows
  obtain ⟨s2, v2⟩ := stAt_spec (D := D) Rs 0 st0 hR.rows
  have hrA : rowW A.1 (stAt D Rs 0 st0) := rowW_shape s2 (hR.rows A (List.mem_of_getElem? hA))
  refine ⟨(shape_apply hrA).symm.trans (s2.symm.trans s1), fun ℓ => ?_⟩
  rw [val_apply hrA, v1, v2]
  have := foldV_add (D := D) (ℓ := ℓ) (i := i) (R := A) Rs 0 (val st0 ℓ) (Nat.zero_le _) (by simpa using hA) hi (fun j R hj hlt h1 h2 => by
    simp only [Nat.zero_add] at hlt ⊢
    obtain ⟨b, hb, hbd⟩ := rec_of hR hj
    obtain ⟨a', ha', had⟩ := rec_of hR hA
    rw [ho] at ha'; cases ha'
    have hc : conf all o b A R = true := by
      cases ℓ with
      | slot t =>
        obtain ⟨v, hv⟩ := wv_slot h1
        obtain ⟨u, hu⟩ := wv_slot h2
        exact conf_apart (not_apart (had t v hv) (.inr (hbd t u hu)))
      | cell r c =>
        obtain ⟨off, vs, hv, k1, k2⟩ := wv_cell h1
        obtain ⟨off', vs', hv', k1', k2'⟩ := wv_cell h2
        exact conf_cells3 (by rw [hv, hv']; exact ovl_mk k1 k2 k1' k2')
    cases hd : D j with
    | false => rfl
    | true => have := ordered hR hD hlt ho hb hA hj hc hd; rw [hi] at this; cases this)
  rw [this]
theorem count_set : ∀ (l : List Bool) (i : Nat), l[i]? = some false → (l.set i true).count false + 1 = l.count false
  | [], i, h => by simp at h
  | b :: r, 0, h => by
    have : b = false := by simpa using h
    subst this; simp
  | b :: r, i + 1, h => by
    have ih := count_set r i (by simpa using h)
    cases b <;> simp [List.count_cons] at ih ⊢ <;> omega
theorem any_sound {β : Nat → Nat} (hE : EnvOK C.P C.E) (hz : szOK C.E = true) (hR : Region1 C all Rs st0) {Q : Exit → Act → World → Prop} (hQ : ∀ a w, Sat C.base C.w0 (runW Rs st0) β a w → Q .normal a w) :
    ∀ (fuel : Nat) (listed : Array Bool) (a : Act) (w : World), listed.size = all.length → listed.toList.count false = fuel →
      (∀ j o, all[j]? = some o → listed.getD j false = true → ∀ e ∈ o.after, Region.binds .any e = true → listed.getD e.on false = true) →
      Sat C.base C.w0 (stAt (fun j => listed.getD j false) Rs 0 st0) β a w → wpAny C.P .any all.toArray Q fuel listed a w := by
  have done : ∀ (listed : Array Bool) (a : Act) (w : World), listed.size = all.length → (∀ j, j < all.length → listed.getD j false = true) → Sat C.base C.w0 (stAt (fun j => listed.getD j false) Rs 0 st0) β a w → Q .normal a w := fun listed a w hs hl h => by
    rw [stAt_all Rs 0 st0 _ (fun j _ hj => hl j (by rw [hR.len]; omega))] at h
    exact hQ a w h
  have stuck : ∀ (listed : Array Bool), listed.size = all.length → Region.ready .any all.toArray listed = [] → ∀ j, j < all.length → listed.getD j false = true := fun listed hs hr j => by
    induction j using Nat.strongRecOn with
    | _ j ih =>
      intro hj
      cases hd : listed.getD j false with
      | true => rfl
      | false =>
        have : j ∈ Region.ready .any all.toArray listed := mem_ready.2 ⟨by rw [← hd]; simp [hs, hj], all[j], by simp [hj], fun e he hb => by
          have hlt := hR.edge j _ (List.getElem?_eq_getElem hj) e he hb
          exact ih e.on hlt (by omega)⟩
        rw [hr] at this; cases this
  intro fuel
  induction fuel with
  | zero =>
    intro listed a w hs hc hcl hsat
    have hl : ∀ j, j < all.length → listed.getD j false = true := fun j hj => by
      have hnot : false ∉ listed.toList := List.count_eq_zero.1 hc
      have hj' : j < listed.size := by omega
      have : listed[j] ≠ false := fun e => hnot (by rw [← e]; simp)
      simp [hj']
      cases h : listed[j] <;> simp_all
    refine ⟨?_, done listed a w hs hl hsat⟩
    rw [List.eq_nil_iff_forall_not_mem]
    intro j hj
    obtain ⟨h1, o, h2, _⟩ := mem_ready.1 hj
    have hj' : j < all.length := by
      have := (Array.getElem?_eq_some_iff.1 h2).1
      simpa using this
    have := hl j hj'
    have hj2 : j < listed.size := by omega
    simp [hj2] at h1 this
    rw [h1] at this; cases this
  | succ fuel ih =>
    intro listed a w hs hc hcl hsat
    refine ⟨fun hr => done listed a w hs (stuck listed hs hr) hsat, fun i hi => ?_⟩
    obtain ⟨hun, o, ho, haf⟩ := mem_ready.1 hi
    have ho2 : all[i]? = some o := by simpa using ho
    have hil : i < all.length := (List.getElem?_eq_some_iff.1 ho2).1
    have hi2 : i < listed.size := by omega
    have hdi : listed.getD i false = false := by simp [hi2] at hun ⊢; exact hun
    obtain ⟨A, hA, ⟨W0, hst, hw⟩, _⟩ := hR.at_ i o ho2
    have hag := agree (D := fun j => listed.getD j false) hR hcl ho2 hdi haf
    have hst2 := stepD_congr hz hag hst
    have hD' : (fun j => (listed.setIfInBounds i true).getD j false) = fun j => listed.getD j false || decide (j = i) := by
      funext j
      by_cases e : j = i
      · subst e; simp [hi2]
      · rw [getD_set_ne false (Ne.symm e)]; simp [e]
    have next : ∀ a' w', Sat C.base C.w0 (applyW W0 (stAt (fun j => listed.getD j false) Rs 0 st0)) β a' w' → wpAny C.P .any all.toArray Q fuel (listed.setIfInBounds i true) a' w' := fun a' w' h => by
      have h := wEq_sat hw h
      obtain ⟨k1, k2⟩ := stAt_add (D := fun j => listed.getD j false) hR hcl ho2 hA hdi
      have h := sat_val k1 k2 h
      rw [← hD'] at h
      refine ih _ a' w' (by simp [hs]) ?_ ?_ h
      · have hg : listed.toList[i]? = some false := by
          simp [hi2] at hdi ⊢
          exact hdi
        have := count_set listed.toList i hg
        rw [Array.toList_setIfInBounds]
        omega
      · intro j p hp hj e he hb
        by_cases e' : j = i
        · subst e'
          rw [ho2] at hp; cases hp
          exact getD_set_true (haf e he hb)
        · rw [getD_set_ne false (Ne.symm e')] at hj
          exact getD_set_true (hcl j p hp hj e he hb)
    unfold wpOp
    rw [ho]
    simp only
    rcases stepD_sound hE hsat hst2 with ⟨h1, h2⟩ | ⟨h1, h2⟩
    · rw [if_pos h1]; exact .inl (h2 _ _ next)
    · rw [if_neg (by rw [h1]; simp)]; exact next _ _ h2
/-- a region that draws its order and stores -/
theorem region_sound {β : Nat → Nat} {a : Act} {w : World} (hE : EnvOK C.P C.E) {l : List Oper} {st : St} {K : St → Prop} {id : Nat} {Q : Exit → Act → World → Prop} (h : wpD C l l 0 st [] (fun acc st' => (chk l acc.reverse && szOK C.E) = true ∧ K st')) (hs : Sat C.base C.w0 st β a w)
    (hQ : ∀ st' a w, K st' → Sat C.base C.w0 st' β a w → Q .normal a w) : (Code.region id l.toArray true).wp C.P Q a w := by
  obtain ⟨Rs, h1, h2, h3⟩ := wpD_canon l 0 st [] _ h
  simp only [List.append_nil, List.reverse_reverse, Bool.and_eq_true] at h2
  obtain ⟨h2, hz⟩ := h2
  have hR := region1 h1 h2
  have rep : ∀ j, (Array.replicate l.toArray.size false).getD j false = false := fun j => by
    simp [Array.getElem?_replicate]
    split <;> rfl
  refine wp_region_any (env_mixed hE) (any_sound hE hz hR (fun a w h => hQ _ a w h3 h) _ _ a _ (by simp) (by simp) (fun j o _ hj => ?_) ?_)
  · rw [rep] at hj; cases hj
  · have : stAt (fun j => (Array.replicate l.toArray.size false).getD j false) Rs 0 st = st := stAt_take.stAt_none Rs 0 st _ (fun j _ => rep j)
    rw [this]
    exact hs.world hs.mem.drew
end
end Sym
end Go.Proofs.YtnbahdnjcdimgaaDoor
