/- Marked-down texts: the law. The frame of a law's proof: what was read below the heap's old size is read so again. -/
import Derived.Test.YtnbahdnjcdimgaaDoorMMkR8
import Derived.KernelRfl
import Derived.ProofKit
import Derived.OpenShut
import Derived.ShutString
import Derived.Below
import Derived.Carry
set_option linter.unusedSimpArgs false
set_option linter.unusedVariables false
namespace Go.Proofs.YtnbahdnjcdimgaaDoor
open Go.RowKit
open Sym
attribute [local irreducible] Calls Sym.AggEq
namespace MkP
theorem pl_att : ∀ (n : Nat) (p : PS), ∀ x ∈ pl n p, x.2.2.length ≤ 5
  | 0, p, x, h => by simp [pl] at h
  | n + 1, p, x, h => by
    unfold pl at h
    split at h
    · cases h
    split at h
    · exact pl_att n _ x h
    split at h
    · rcases List.mem_cons.1 h with rfl | h
      · exact ats_len _ _ _ _ _
      · exact pl_att n _ x h
    split at h
    · exact pl_att n _ x h
    split at h
    · exact pl_att n _ x h
    split at h
    · exact pl_att n _ x h
    split at h
    · exact pl_att n _ x h
    split at h
    · exact pl_att n _ x h
    · rcases List.mem_cons.1 h with rfl | h
      · exact ats_len _ _ _ _ _
      · exact pl_att n _ x h
theorem mk_att (l : Str) : (mk l).2.length ≤ 5 := by
  unfold mk mkG lev
  repeat' split
  all_goals simp
theorem doc_att : ∀ (L : List Str), ∀ p ∈ doc L, p.2.length ≤ 5
  | [], p, h => by cases h
  | l :: L, p, h => by
    have e : doc (l :: L) = para l ++ doc L := by simp [doc]
    rw [e] at h
    rcases List.mem_append.1 h with h | h
    · unfold para at h
      rcases List.mem_append.1 h with h | h
      · obtain ⟨x, hx, rfl⟩ := List.mem_map.1 h
        exact pl_att _ _ x hx
      · rw [List.mem_singleton.1 h]; exact mk_att l
    · exact doc_att L p h
theorem ec_att {E : List El} {L : List Str} (h : E.map ec = doc L) {x : El} (hx : x ∈ E) : x.at_.length ≤ 1000 := by
  have := doc_att L (ec x) (by rw [← h]; exact List.mem_map_of_mem hx)
  have : x.at_.length ≤ 5 := this
  omega
def smp : Str := [45, 32, 42, 97, 42]
set_option maxRecDepth 100000 in
theorem smp_doc : doc (lines smp) = [(97, [(nItalic, vOn)]), (10, [(nList, vBullet)])] := by kernel_rfl
structure SM where
  a : Option Addr
  cap : Nat
  b : Option Addr
  k : Nat
  lcap : Nat
  xa : Option Addr
  xc : Nat
  y : El
end MkP
abbrev smL (t : MkP.SM) : List (Option Addr × List Value) := [(t.a, MkP.elvs [⟨97, t.xa, t.xc, [(MkP.nItalic, MkP.vOn)]⟩, t.y]), (t.xa, MkP.atv [(MkP.nItalic, MkP.vOn)])]
theorem impS (w : World) (hW : XM w) (β : Nat → Nat) : Calls Tryd.prog 4 #[.string (bstr [45, 32, 42, 97, 42])] w fun e w' => Below w.heap.size w w' ∧ ∃ t : MkP.SM, e = .returned ((SV.tup [.any (.slice t.a 2 t.cap), .any (.slice t.b t.k t.lcap), .int .i64 0]).den β) ∧ ∀ p ∈ smL t, SlAt p.1 p.2 w' ∧ FreshX p.1 p.2 w := by
  refine (import_any MkP.smp w hW (by decide)).mono ?_
  rintro e w' ⟨hb, ⟨ob, a, n, cap, els, lb, b, k, lcap, ls, o0, o1, o2, o3, link⟩, rfl, hF, h1, -⟩
  rw [MkP.smp_doc] at h1
  dsimp only at h1
  obtain ⟨x, y, rfl⟩ : ∃ x y, els = [x, y] := by
    rcases els with _ | ⟨x, _ | ⟨y, _ | ⟨z, r⟩⟩⟩
    · cases h1
    · simp at h1
    · exact ⟨x, y, rfl⟩
    · simp at h1
  simp only [List.map_cons, List.map_nil, List.cons.injEq, and_true] at h1
  obtain ⟨h1, -⟩ := h1
  obtain ⟨xc, xa, xcap, xat⟩ := x
  unfold MkP.ec at h1
  injection h1 with q1 q2
  dsimp only at q1 q2
  subst q1 q2
  obtain rfl : n = 2 := hF.n
  refine ⟨hb, ⟨a, cap, b, k, lcap, xa, xcap, y⟩, rfl, fun p hp => ?_⟩
  rcases List.mem_cons.1 hp with rfl | hp
  · exact ⟨hF.a, hF.fa⟩
  · rw [List.mem_singleton.1 hp]
    exact hF.x _ (List.mem_cons_self)
theorem impP (s : List UInt8) (w : World) (hW : XM w) (hs : s.length ≤ 400) (β : Nat → Nat) : Calls Tryd.prog 4 #[.string (bstr s)] w fun e w' => ∃ t : MkP.RT, e = .returned ((SV.tup [.any (.slice t.a t.n t.cap), .any (.slice t.b t.k t.lcap), .int .i64 0]).den β) ∧ Below w.heap.size w w' ∧ (MkP.FlowAt w w' t ∧ t.els.map MkP.ec = MkP.doc (MkP.lines s) ∧ t.ls = MkP.lossL 0 (MkP.lines s)) := by
  refine (import_any s w hW hs).mono ?_
  rintro e w' ⟨hb, t, rfl, h⟩
  exact ⟨t, rfl, hb, h⟩
theorem rmkP (s : List UInt8) (w : World) (hw0 : 0 < w.heap.size) (hs : s.length ≤ 400) (β : Nat → Nat) : Calls Tryd.prog 6 #[.string (bstr s)] w fun e w' => ∃ t : MkP.RT, e = .returned ((SV.tup [.any (.slice t.a t.n t.cap), .any (.slice t.b t.k t.lcap)]).den β) ∧ Below w.heap.size w w' ∧ (MkP.FlowAt w w' t ∧ t.els.map MkP.ec = MkP.doc (MkP.lines s) ∧ t.ls = MkP.lossL 0 (MkP.lines s)) := by
  refine (rmarked_any s w hw0 hs).mono ?_
  rintro e w' ⟨hb, t, rfl, h⟩
  exact ⟨t, rfl, hb, h⟩
theorem x_loadFF {C : Ctx} {G : Blobs} {x : Operand} {t : TypeId} {a : Addr} {i0 j bs : Nat} {xs : List Value} (i : Nat) (v : SV) (hag : ∀ w, (isAgg t).run C.P w = .ok false w) (ri : G i = some (SlF bs (some a) xs)) (hv : ∀ β, xs[i0 + j]? = some (v.den β)) : ExtN C G (.load t x) [.any (.pointer (some ((a.add i0).add j)))] v := by
  rw [Go.Deep.add_add]
  exact x_loadF i v hag ri hv
theorem len_id {α β : Type} {f : α → β} {a : List α} {b : List β} (h : a.map f = b) : a.length = b.length := by rw [← h, List.length_map]
set_option maxRecDepth 100000 in
set_option maxHeartbeats 4000000 in
theorem markLaw_any (s : List UInt8) (w : World) (hs : s.length ≤ 9223372036854775807) (hW : XM w) : QC 3 #[.string (bstr s)] w (.bool true) := by
  have hw0 : 0 < w.heap.size := Nat.lt_of_le_of_lt (Nat.zero_le _) (World.block_lt_of_cell? _ _ (hW.tog 0 _ rfl))
  have hu := Tryd.underlying22
  have hsz := fun w => Tryd.sizeOf30 w
  have hu2 := Tryd.underlying28
  have hsz2 := fun w => Tryd.sizeOf32 w
  have hzv2 := fun w => Tryd.zeroValue32 w
  have IS := fun (w' : World) (hb : Below w.heap.size w w') β => impS w' (hW.below hb) β
  refine yE Tryd.func3 rfl Tryd.results3 Tryd.ntmps3 [32] [] [.str s] w ?_
  have SA := fun (xa : Option Addr) (g xc : Nat) (w : World) (h1 : SlAt xa (MkP.atv [(MkP.nItalic, MkP.vOn)]) w) (h2 : SlAt (some ⟨g, 0, none⟩) (MkP.atv [(MkP.nItalic, MkP.vOn)]) w) => sameA_any [(MkP.nItalic, MkP.vOn)] xa (some ⟨g, 0, none⟩) xc 1 w h1 h2 (by decide)
  repeat' (first | ((with_reducible first | show wpS _ _ _ _ | show putD _ _ _ _ | show putW _ _ _ _ | show splitG _ _ _ | show wpQ _ _ _ _ _ _ | show wpD _ _ _ _ _ _ _ | show wpX _ _ _ _ _ _ _ | show expX _ _ _ _ _ _ | show stepX _ _ _ _ | show keepR _ _ _ | show wpY _ _ _ _); conv => whnf) | ((with_reducible show RetN _ _ _); refine retB fun β => ?_) | ((with_reducible show _ ∧ _); first | (apply And.intro; (· intro h; exfalso; first | omega | (revert h; decide)); intro _) | (apply And.intro; rotate_left; (· intro h; exfalso; first | omega | (revert h; decide)); intro _) | (refine ⟨fun _ => ?_, fun _ => ?_⟩) | (apply And.intro; · kernel_rfl) | (apply And.intro; · (show inK _ _; unfold inK; omega)) | (apply And.intro; · (show (_ : Int) ≤ 9223372036854775807; (try simp only [List.length_append, List.length_drop, List.length_take, List.length_cons, List.length_nil]); omega))) | ((with_reducible show AllBe _); refine allBe fun βe => ?_; conv => whnf) | ((with_reducible show bothX _ _); refine bothI ?_ ?_; conv => whnf) | (with_reducible exact trivial) | ((with_reducible show CallN _ _ _ _ _ _ _ _); first | fail | refine call_of env_ok rfl 1000 ?_) | ((with_reducible show XopN _ _ _ _ _ _); refine xop_of env_ok rfl 1000 ?_) | ((with_reducible show CallX _ _ _ _ _ _); first | (refine callSls (T := MkP.SM) (fun t => .tup [.any (.slice t.a 2 t.cap), .any (.slice t.b t.k t.lcap), .int .i64 0]) smL hw0 (by kernel_rfl) rfl (fun _ => ⟨rfl, rfl, trivial, trivial⟩) (fun β w hm => IS w hm.below β) (fun t ht => ?_); obtain ⟨a, cap, b, k, lcap, xa, xc, y⟩ := t; obtain ⟨ad, rfl⟩ : ∃ ad, a = some ad := ht (a, _) List.mem_cons_self (fun e => by cases e); dsimp only [addR, smL]) | (refine callX (.lit true) (by kernel_rfl) rfl trivial (fun β w hm => SA xa g1 xc w (hm.slF 1 rfl) (hm.own 2 rfl).1) ?_)) | ((with_reducible show OpX _ _ _ _); first | (refine opx_build1 (sz := 2) rfl rfl rfl (xs := MkP.atv [(MkP.nItalic, MkP.vOn)]) (fun β => rfl) rfl (by omega) (by omega) hu2 hsz2 hzv2 (fun g1 => ?_))) | ((with_reducible show ∃ _ : SV, _); first | fail) | ((with_reducible show ∃ _, _); first | (refine ⟨_, ?ok, x_len Tryd.underlying22, ?_⟩; (case ok => exact fun _ _ => trivial)) | (refine ⟨_, ?ok, x_index (j := 0) (by omega) Tryd.underlying22 (fun w => Tryd.sizeOf30 w) (by omega), ?_⟩; (case ok => exact fun _ _ => rfl)) | (refine ⟨_, ?ok, x_field Tryd.underlying30 rfl (fun w => Tryd.sizeOf28 w) (by decide), ?_⟩; (case ok => exact fun _ _ => rfl)) | (refine ⟨.any (.slice xa 1 xc), ?ok, x_loadFF 0 (.any (.slice xa 1 xc)) (fun w => Tryd.isAgg28 w) rfl (fun β => rfl), ?_⟩; (case ok => exact fun _ _ => rfl))))
  refine go env_ok rfl 1000 [] [] ?_
  obtain ⟨s', hs'⟩ : ∃ s', s.take (min s.length 400) = s' := ⟨_, rfl⟩
  have hl' : s'.length ≤ 400 := by rw [← hs', List.length_take]; omega
  have IP := fun (w' : World) (hb : Below w.heap.size w w') β => impP s' w' (hW.below hb) hl' β
  have RP := fun (w' : World) (h : 0 < w'.heap.size) β => rmkP s' w' h hl' β
  have htl := MkP.tot_lines s'
  have hdl := MkP.doc_len (MkP.lines s')
  have hll := MkP.lossL_len (MkP.lines s') 0
  repeat' (first | ((with_reducible first | show wpS _ _ _ _ | show putD _ _ _ _ | show putW _ _ _ _ | show splitG _ _ _ | show wpQ _ _ _ _ _ _ | show wpD _ _ _ _ _ _ _ | show wpX _ _ _ _ _ _ _ | show expX _ _ _ _ _ _ | show stepX _ _ _ _ | show keepR _ _ _ | show wpY _ _ _ _); conv => whnf) | ((with_reducible show RetN _ _ _); refine retB fun β => ?_) | ((with_reducible show _ ∧ _); first | (apply And.intro; (· intro h; exfalso; first | omega | (revert h; decide)); intro _) | (apply And.intro; rotate_left; (· intro h; exfalso; first | omega | (revert h; decide)); intro _) | (refine ⟨fun _ => ?_, fun _ => ?_⟩) | (apply And.intro; · kernel_rfl) | (apply And.intro; · (show inK _ _; unfold inK; omega)) | (apply And.intro; · (show (_ : Int) ≤ 9223372036854775807; (try simp only [List.length_append, List.length_drop, List.length_take, List.length_cons, List.length_nil]); omega))) | ((with_reducible show AllBe _); refine allBe fun βe => ?_; conv => whnf) | ((with_reducible show bothX _ _); refine bothI ?_ ?_; conv => whnf) | (with_reducible exact trivial) | ((with_reducible show CallN _ _ _ _ _ _ _ _); first | (refine callP env_ok Tryd.results3 (T := MkP.RT) (fun t => .tup [.any (.slice t.a t.n t.cap), .any (.slice t.b t.k t.lcap), .int .i64 0]) (fun t w w' => MkP.FlowAt w w' t ∧ t.els.map MkP.ec = MkP.doc (MkP.lines s') ∧ t.ls = MkP.lossL 0 (MkP.lines s')) 1000 (by kernel_rfl) rfl (fun _ => ⟨rfl, rfl, trivial, trivial⟩) (fun β w hm => IP w hm.below β) (fun t1 w1 hx1 hq1 => ?_)) | (refine callP env_ok Tryd.results3 (T := MkP.RT) (fun t => .tup [.any (.slice t.a t.n t.cap), .any (.slice t.b t.k t.lcap)]) (fun t w w' => MkP.FlowAt w w' t ∧ t.els.map MkP.ec = MkP.doc (MkP.lines s') ∧ t.ls = MkP.lossL 0 (MkP.lines s')) 1000 (by kernel_rfl) rfl (fun _ => ⟨rfl, rfl, trivial⟩) (fun β w hm => RP w (Nat.lt_of_lt_of_le hw0 hm.base_le) β) (fun t2 w2 hx2 hq2 => ?_); obtain ⟨w3, b1, b2, ⟨hF, f1, f2⟩, b5⟩ := hq1; obtain ⟨w4, c1, c2, ⟨hG, g1, g2⟩, c5⟩ := hq2; have hKa := (Kept.new b1 hF.a hF.fa b5).ext hx2; have hKb := (Kept.new b1 hF.b hF.fb b5).ext hx2; have hKx := fun (x : MkP.El) (hx' : x ∈ t1.els) => (Kept.new b1 (hF.x x hx').1 (hF.x x hx').2 b5).ext hx2; have hKc := Kept.new c1 hG.a hG.fa c5; have hKd := Kept.new c1 hG.b hG.fb c5; have hKy := fun (x : MkP.El) (hx' : x ∈ t2.els) => Kept.new c1 (hG.x x hx').1 (hG.x x hx').2 c5; have hln := len_id f1; have hls := f2.trans g2.symm; have SF := fun (w : World) (h1 : SlAt t1.a (MkP.elvs t1.els) w) (h2 : SlAt t2.a (MkP.elvs t2.els) w) (h3 : ∀ x ∈ t1.els, SlAt x.a (MkP.atv x.at_) w) (h4 : ∀ x ∈ t2.els, SlAt x.a (MkP.atv x.at_) w) => sameF_any t1.els t2.els t1.a t2.a t1.cap t2.cap w h1 h2 (fun x hx => ⟨h3 x hx, MkP.ec_att f1 hx⟩) h4 (f1.trans g1.symm) (by omega); have EQ := fun (w : World) (h1 : SlAt t1.b (MkP.lovs t1.ls) w) (h2 : SlAt t2.b (MkP.lovs t2.ls) w) => requal_any t1.ls t1.b t2.b t1.lcap t2.lcap w h1 (hls ▸ h2) (by rw [f2]; omega); have hk2 : t2.k = t1.ls.length := hG.k.trans (congrArg List.length hls.symm); rw [← hF.n, ← hG.n] at SF; rw [← hF.k] at EQ hk2; rw [hk2]) | refine call_of env_ok rfl 1000 ?_) | ((with_reducible show XopN _ _ _ _ _ _); refine xop_of env_ok rfl 1000 ?_) | ((with_reducible show CallX _ _ _ _ _ _); first | (refine callX (.lit true) (by kernel_rfl) rfl trivial (fun β w hm => SF w (hKa.mem hm) (hKc.mem hm) (fun x hx => (hKx x hx).mem hm) (fun x hx => (hKy x hx).mem hm)) ?_) | (refine callX (.lit true) (by kernel_rfl) rfl trivial (fun β w hm => EQ w (hKb.mem hm) (hKd.mem hm)) ?_)) | ((with_reducible show OpX _ _ _ _); first | fail) | ((with_reducible show ∃ _ : SV, _); first | fail) | ((with_reducible show ∃ _, _); first | (refine ⟨min s.length 400, by omega, by omega, ?_⟩; rw [hs'])))
  all_goals exact ret fun β w' hm => ⟨rfl, hx1.below.trans (hx2.below.trans hm.below)⟩
end Go.Proofs.YtnbahdnjcdimgaaDoor
namespace Go.Proofs.YtnbahdnjcdimgaaDoor
open Go.ChangeShapes Go.WideShapes Go.ChangeAt Go.RowKit
theorem below_trodAll {H : Type} {enc : TypeId × Value → H} {P : Program} (hl : laidOutB P = true) {W W' : World} (hb : Below W.heap.size W W') :
    ∀ {ts : List TypeId} {vs : List Value} {ds : List (DataW H)} {ps : List MemPlace}, (ts.all fun t => P.readableRec t && decide (t < P.types.size)) = true →
      DataW.TrodAll enc P W 0 (fun _ => true) true ts vs ds ps → DataW.TrodAll enc P W' 0 (fun b => decide (b < W.heap.size)) true ts vs ds ps
  | [], [], [], _, _, h => h
  | [], _ :: _, _, _, _, h => h.elim
  | [], [], _ :: _, _, _, h => h.elim
  | _ :: _, [], _, _, _, h => h.elim
  | _ :: _, _ :: _, [], _, _, h => h.elim
  | t :: ts, v :: vs, d :: ds, ps, hr, h => by
    have hlt := h.lt
    obtain ⟨p, q, h1, h2, e⟩ := h
    simp only [List.all_cons, Bool.and_eq_true, decide_eq_true_eq] at hr
    exact ⟨p, q, Below.trod hl hr.1.1 hr.1.2 h1 hb (fun x hx => hlt x (by rw [e]; exact List.mem_append_left _ hx)), below_trodAll hl hb (by simpa using hr.2) h2, e⟩
end Go.Proofs.YtnbahdnjcdimgaaDoor
