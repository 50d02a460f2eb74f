/-
  What a callee may read of the caller's heap, and what it hands back.
  Calls of the abstract machine answer for the model's.
  Calls of the abstract machine answer for the model's: by view, and in the caller's heap.
  Regions of the abstract machine answer for the model's.
  What an operation looks at and what it may turn.
  Regions that draw their order: every order leads to what the walk in the given order leads to.
  Regions that draw their order: the walk.
-/
import Derived.Test.YtnbbhbbhgcipjaaMb
import Derived.RangeFuncLeaves
import Derived.OrdersIn
set_option linter.unusedVariables false
set_option linter.unnecessarySimpa false
set_option linter.unusedSimpArgs false
set_option linter.unusedSectionVars false
namespace Go.Proofs.Ytnbbhbbhgcipjaa.Am
variable [LFit]
section
variable {P : Program} {X B : Nat → Prop} {ρ : List (Option Nat)} {w : World} {H : AHeap}

theorem mapM_back {α β : Type} {f : α → Option β} {l : List α} {r : List β} (h : l.mapM f = some r) {i : Nat} {b : β} (hb : r[i]? = some b) : ∃ a, l[i]? = some a ∧ f a = some b := by
  obtain ⟨hl, hg⟩ := mapM_get h
  have hi : i < l.length := by rw [hl]; exact (List.getElem?_eq_some_iff.1 hb).1
  obtain ⟨b', hb', hf⟩ := hg i l[i] (by simp [hi])
  rw [hb] at hb'; cases hb'
  exact ⟨l[i], by simp [hi], hf⟩
theorem rows_view {N Nq N' Nq' : Nat → Prop} {f : AV → Option Imm} (ih : ∀ v d cv, f v = some d → RepA w ρ H N Nq v cv → RepI w N' Nq' d cv) {es : List (List AV)} {ds : List (List Imm)} {b o z : Nat}
    (h : es.mapM (fun c : List AV => c.mapM f) = some ds) (hs : ∀ (i : Nat) (e : List AV), es[i]? = some e → e.length = z ∧ Stretch w ρ H N Nq b (o + i * z) e) : RepRows w N' Nq' b o z ds := by
  refine RepRows.of_get fun j e hj => ?_
  obtain ⟨e0, he0, hf⟩ := mapM_back h hj
  obtain ⟨h1, h2⟩ := hs j e0 he0
  obtain ⟨h3, _⟩ := mapM_get hf
  refine ⟨by omega, RepCells.of_get fun i c hi => ?_⟩
  obtain ⟨c0, hc0, hfc⟩ := mapM_back hf hi
  obtain ⟨u, hu, h1u, hr⟩ := h2 i c0 hc0
  exact ⟨u, hu, h1u, ih _ _ _ hfc hr⟩
theorem list_view {N Nq N' Nq' : Nat → Prop} {f : AV → Option Imm} (ih : ∀ v d cv, f v = some d → RepA w ρ H N Nq v cv → RepI w N' Nq' d cv) {vs : List AV} {ds : List Imm} {cvs : List Value}
    (h : vs.mapM f = some ds) (hs : RepAL w ρ H N Nq vs cvs) : RepL w N' Nq' ds cvs := by
  obtain ⟨h1, _⟩ := mapM_get h
  refine RepL.of_get (by rw [← h1]; exact hs.length) fun i d cv hd hcv => ?_
  obtain ⟨v, hv, hf⟩ := mapM_back h hd
  obtain ⟨cv', hcv', hr⟩ := hs.get hv
  rw [hcv] at hcv'; cases hcv'
  exact ih _ _ _ hf hr
/-- What is seen of a value stands for the same. -/
theorem view_gen {q : Bool} {N Nq N' Nq' : Nat → Prop} (hobj : ∀ l o, H[l]? = some o → RepO w ρ H N Nq l o) (hlt : ∀ b, Own ρ H b → b < w.heap.size) (hle : ∀ b, Nq b → N b)
    (hN : ∀ b, N' b → N b) (hNq : ∀ b, Nq' b → Nq b) (hown : ∀ b, Own ρ H b → ¬ (if q then Nq' b else N' b)) :
    ∀ (k : Nat) (v : AV) (d : Imm) (cv : Value), view q k H v = some d → RepA w ρ H N Nq v cv → RepI w N' Nq' d cv := by
  have hS : Stay w w N Nq N' Nq' := ⟨Nat.le_refl _, fun _ _ _ => rfl, fun b _ h => hN b h, fun b _ h => hNq b h, hle⟩
  intro k
  induction k with
  | zero =>
    intro v d cv h hv
    cases v <;> simp only [view] at h <;> cases h
    exact RepI.mono hS _ _ hv
  | succ k ih =>
    intro v d cv h hv
    have hlive : ∀ {l : Nat} {o : AObj} {b : Nat}, H[l]? = some o → o.live = true → look ρ l = some b → b < w.heap.size ∧ ¬ (if q then Nq' b else N' b) := fun {l o b} ho hl hb => ⟨hlt b ⟨l, o, ho, hl, hb⟩, hown b ⟨l, o, ho, hl, hb⟩⟩
    cases v with
    | im d0 =>
      simp only [view] at h; cases h
      exact RepI.mono hS _ _ hv
    | top => simp only [view] at h; cases h
    | ptr l st j off =>
      simp only [view, Option.bind_eq_bind, Option.bind_eq_some_iff, Option.map_eq_some_iff] at h
      obtain ⟨⟨es, z⟩, hr, ds, hds, rfl⟩ := h
      obtain ⟨t', ho, hst⟩ := rdr_row hr
      obtain ⟨b, hb, rfl⟩ := ptr_at ho hst hv
      obtain ⟨arr, harr, _, hlen, hs⟩ := (hobj l _ ho).row hb
      refine ⟨b, 0, by simp, hlive ho rfl hb, rows_view ih hds fun i e hi => ⟨hlen i e hi, ?_⟩⟩
      rw [Nat.zero_add]; exact hs i e hi
    | sl l st j n =>
      simp only [view, Option.bind_eq_bind, Option.bind_eq_some_iff, Option.map_eq_some_iff] at h
      obtain ⟨⟨es, z⟩, hr, es', hes', ds, hds, rfl⟩ := h
      obtain ⟨t', ho, hst⟩ := rdr_row hr
      obtain ⟨hl', hg⟩ := sub_get hes'
      obtain ⟨hdl, _⟩ := mapM_get hds
      rcases (hv.2.2 es z t' ho).2 hst with ⟨_, rfl, rfl⟩ | ⟨rfl, _, b, o, rfl⟩ | ⟨b, c, arr, hb, rfl, hnc, harr, hsz⟩
      · have : ds = [] := List.eq_nil_of_length_eq_zero (by omega)
        subst this
        exact ⟨0, by simp, by simp, .inl ⟨rfl, rfl, rfl⟩⟩
      · have : ds = [] := List.eq_nil_of_length_eq_zero (by omega)
        subst this
        exact ⟨0, by simp, by simp, .inr ⟨b, o, none, rfl, fun h => absurd rfl h, trivial⟩⟩
      · obtain ⟨_, _, _, hlen, hs⟩ := (hobj l _ ho).row hb
        refine ⟨c, by omega, by simp, .inr ⟨b, j * z, none, by rw [← hdl, hl'], fun _ => ⟨rfl, hlive ho rfl hb⟩, rows_view ih hds fun i e hi => ?_⟩⟩
        have := hg i e hi
        refine ⟨hlen _ _ this, ?_⟩
        have h2 := hs _ _ this
        rwa [Nat.add_mul] at h2
    | map l =>
      simp only [view] at h
      split at h
      · rename_i ks vs ho
        simp only [Option.map_eq_some_iff] at h
        obtain ⟨ds, hds, rfl⟩ := h
        obtain ⟨b, hb, rfl⟩ := hv.2.2 _ _ ho
        obtain ⟨b', es, c, hb', hbb, h1, h2⟩ := hobj l _ ho
        rw [hb] at hb'; cases hb'
        exact ⟨b, es, c, rfl, hbb, (hlive ho rfl hb).2, RepL.mono hS _ _ (RepAL.im.1 h1), list_view ih hds h2⟩
      · cases h
    | fn f cap =>
      cases f with
      | func g =>
        simp only [view, Option.map_eq_some_iff] at h
        obtain ⟨ds, hds, rfl⟩ := h
        obtain ⟨f', l, rfl, hf, hl⟩ := hv
        cases hf
        exact ⟨l, rfl, list_view ih hds hl⟩
      | _ => simp only [view] at h; cases h
    | agg cs =>
      simp only [view, Option.map_eq_some_iff] at h
      obtain ⟨ds, hds, rfl⟩ := h
      obtain ⟨l, rfl, hl, h1⟩ := hv
      exact ⟨l, rfl, list_view ih hds hl, h1⟩
    | tup cs =>
      simp only [view, Option.map_eq_some_iff] at h
      obtain ⟨ds, hds, rfl⟩ := h
      obtain ⟨l, rfl, hl⟩ := hv
      exact ⟨l, rfl, list_view ih hds hl⟩
    | ifc t x =>
      simp only [view, Option.map_eq_some_iff] at h
      obtain ⟨d', hd', rfl⟩ := h
      obtain ⟨u, rfl, hu⟩ := hv
      exact ⟨u, rfl, ih _ _ _ hd' hu⟩

theorem view_ok {q : Bool} {N' Nq' : Nat → Prop} (R : HRel X B ρ w H) (hN : ∀ b, N' b → Nof ρ H X B b) (hNq : ∀ b, Nq' b → Nqof ρ H X b) (hown : ∀ b, Own ρ H b → ¬ (if q then Nq' b else N' b))
    (k : Nat) (v : AV) (d : Imm) (cv : Value) (h : view q k H v = some d) (hv : Rp X B ρ w H v cv) : RepI w N' Nq' d cv :=
  view_gen R.obj (fun b h => (R.own b h).1) (fun b h => h.imp id .inl) hN hNq hown k v d cv h hv

/-! ### Nothing lent in it -/
mutual
theorem clean_rep {N Nq Nq' : Nat → Prop} : ∀ (d : Imm) (v : Value), d.clean = true → RepI w N Nq d v → RepI w N Nq' d v
  | .und, v, _, h | .b _, v, _, h | .i _ _, v, _, h | .s _, v, _, h | .nilp, v, _, h | .nilm, v, _, h | .nilf, v, _, h | .nili, v, _, h => h
  | .sl z q tight es, v, hc, h => by
    simp only [Imm.clean, Bool.and_eq_true, Bool.not_eq_true'] at hc
    obtain ⟨hq, hes⟩ := hc
    subst hq
    obtain ⟨c, h1, h2, h3⟩ := h
    refine ⟨c, h1, h2, h3.imp id ?_⟩
    rintro ⟨b, o, sp, hv, hb, hr⟩
    exact ⟨b, o, sp, hv, hb, cleanR_rep _ _ _ _ hes hr⟩
  | .ip z q es j off, v, hc, h => by
    simp only [Imm.clean, Bool.and_eq_true, Bool.not_eq_true'] at hc
    obtain ⟨hq, hes⟩ := hc
    subst hq
    obtain ⟨b, o, hv, hb, hr⟩ := h
    exact ⟨b, o, hv, hb, cleanR_rep _ _ _ _ hes hr⟩
  | .mp q ks vs, v, hc, h => by
    simp only [Imm.clean, Bool.and_eq_true, Bool.not_eq_true'] at hc
    obtain ⟨⟨hq, hk⟩, hvs⟩ := hc
    subst hq
    obtain ⟨r, es, clock, hv, hh, hn, h1, h2⟩ := h
    exact ⟨r, es, clock, hv, hh, hn, cleanL_rep _ _ hk h1, cleanL_rep _ _ hvs h2⟩
  | .agg cs, v, hc, h => by
    obtain ⟨l, hv, hl, h1⟩ := h
    exact ⟨l, hv, cleanL_rep _ _ hc hl, h1⟩
  | .tup cs, v, hc, h => by
    obtain ⟨l, hv, hl⟩ := h
    exact ⟨l, hv, cleanL_rep _ _ hc hl⟩
  | .fn f cap, v, hc, h => by
    obtain ⟨l, hv, hl⟩ := h
    exact ⟨l, hv, cleanL_rep _ _ hc hl⟩
  | .ifc t x, v, hc, h => by
    obtain ⟨u, hv, hu⟩ := h
    exact ⟨u, hv, clean_rep _ _ hc hu⟩
theorem cleanL_rep {N Nq Nq' : Nat → Prop} : ∀ (d : List Imm) (v : List Value), Imm.cleanL d = true → RepL w N Nq d v → RepL w N Nq' d v
  | [], v, _, h => h
  | c :: cs, v, hc, h => by
    simp only [Imm.cleanL, Bool.and_eq_true] at hc
    obtain ⟨x, xs, e, hx, hxs⟩ := h
    exact ⟨x, xs, e, clean_rep _ _ hc.1 hx, cleanL_rep _ _ hc.2 hxs⟩
theorem cleanC_rep {N Nq Nq' : Nat → Prop} (b : Nat) : ∀ (o : Nat) (d : List Imm), Imm.cleanL d = true → RepCells w N Nq b o d → RepCells w N Nq' b o d
  | _, [], _, _ => trivial
  | o, c :: cs, hc, h => by
    simp only [Imm.cleanL, Bool.and_eq_true] at hc
    obtain ⟨⟨u, hu, h1, hr⟩, hs⟩ := h
    exact ⟨⟨u, hu, h1, clean_rep _ _ hc.1 hr⟩, cleanC_rep b (o + 1) cs hc.2 hs⟩
theorem cleanR_rep {N Nq Nq' : Nat → Prop} (b : Nat) : ∀ (o z : Nat) (d : List (List Imm)), Imm.cleanLL d = true → RepRows w N Nq b o z d → RepRows w N Nq' b o z d
  | _, _, [], _, _ => trivial
  | o, z, e :: es, hc, h => by
    simp only [Imm.cleanLL, Bool.and_eq_true] at hc
    exact ⟨h.1, cleanC_rep b o e hc.1 h.2.1, cleanR_rep b (o + z) z es hc.2 h.2.2⟩
end
theorem flat_rep {N Nq N' Nq' : Nat → Prop} {w' : World} {d : Imm} {v : Value} (hf : d.flat = true) (h : RepI w N Nq d v) : RepI w' N' Nq' d v := by
  cases d <;> simp [Imm.flat] at hf <;> exact h
theorem flatL_rep {N Nq N' Nq' : Nat → Prop} {w' : World} : ∀ {d : List Imm} {v : List Value}, d.all Imm.flat = true → RepL w N Nq d v → RepL w' N' Nq' d v
  | [], _, _, h => h
  | c :: cs, _, hf, h => by
    simp only [List.all_cons, Bool.and_eq_true] at hf
    obtain ⟨x, xs, e, hx, hxs⟩ := h
    exact ⟨x, xs, e, flat_rep hf.1 hx, flatL_rep hf.2 hxs⟩
theorem flatR_rep {N Nq N' Nq' : Nat → Prop} {w' : World} {d : Imm} {v : Value} (hf : d.flatR = true) (h : RepI w N Nq d v) : RepI w' N' Nq' d v := by
  cases d with
  | agg cs =>
    obtain ⟨l, hv, hl, h1⟩ := h
    exact ⟨l, hv, flatL_rep hf hl, h1⟩
  | tup cs =>
    obtain ⟨l, hv, hl⟩ := h
    exact ⟨l, hv, flatL_rep hf hl⟩
  | _ => first | exact h | (simp [Imm.flatR, Imm.flat] at hf)
end
end Go.Proofs.Ytnbbhbbhgcipjaa.Am

namespace Go.Proofs.Ytnbbhbbhgcipjaa.Am
variable [LFit]
section
variable {P : Program} {X B : Nat → Prop} {ρ : List (Option Nat)} {w : World} {H : AHeap}

/-- How a call ends. -/
def Ret (X B : Nat → Prop) (ρ : List (Option Nat)) (w : World) (H : AHeap) (v : AV) (H' : AHeap) (e : Ending) (w' : World) : Prop :=
  ∃ cv ρ', e = .returned cv ∧ Evo ρ w H ρ' w' H' ∧ HRel X B ρ' w' H' ∧ Rp X B ρ' w' H' v cv
/-- A call that panics. -/
def RetP (X B : Nat → Prop) (ρ : List (Option Nat)) (w : World) (H : AHeap) (d : Imm) (H' : AHeap) (e : Ending) (w' : World) : Prop :=
  ∃ cv ρ', e = .panicked [{ v := cv, recovered := false }] ∧ Evo ρ w H ρ' w' H' ∧ HRel X B ρ' w' H' ∧ RepI w' (Nof ρ' H' X B) (Nqof ρ' H' X) d cv
/-- What an oracle's answer says. -/
def RetX (X B : Nat → Prop) (ρ : List (Option Nat)) (w : World) (H : AHeap) (v : AV) (H' : AHeap) (e : Ending) (w' : World) : Prop :=
  match isPan v with
  | none => Ret X B ρ w H v H' e w'
  | some d => RetP X B ρ w H d H' e w'
def CallR (P : Program) (X B : Nat → Prop) (ρ : List (Option Nat)) (w : World) (H : AHeap) (R : Ending → World → Prop) : Req → Prop
  | .fn f as => ∀ cas : Array Value, RepAL w ρ H (Nof ρ H X B) (Nqof ρ H X) as cas.toList → (∃ fn c, P.funcs[f]? = some fn ∧ fn.body = some c) ∧ CallsIn Fence.wide 0 P f cas w R
  | .round l as => (∃ s p fn fr ps a b d, H[l]? = some (.loop s p fn fr ps a b d)) ∧ ∀ (bl : Nat) (cas : Array Value), look ρ l = some bl → RepAL w ρ H (Nof ρ H X B) (Nqof ρ H X) as cas.toList →
      ∃ L : Loop, w.heap[bl]? = some (.loop L) ∧ cas.size = L.params.size ∧ RoundIn Fence.wide 0 P bl L.fn ((L.params.zip cas).foldl (fun tmps (t, a) => tmps.setIfInBounds t a) L.tmps) L.assign L.body w R
theorem CallR.mono {P : Program} {X B : Nat → Prop} {ρ : List (Option Nat)} {w : World} {H : AHeap} {R R' : Ending → World → Prop} {r : Req} (h : CallR P X B ρ w H R r) (hR : ∀ e w', R e w' → R' e w') : CallR P X B ρ w H R' r := by
  cases r with
  | fn f as => exact fun cas hc => ⟨(h cas hc).1, (h cas hc).2.mono hR⟩
  | round l as =>
    refine ⟨h.1, fun bl cas h1 h2 => ?_⟩
    obtain ⟨L, h3, h4, h5⟩ := h.2 bl cas h1 h2
    exact ⟨L, h3, h4, h5.mono hR⟩
def CallOk (P : Program) (X B : Nat → Prop) (ρ : List (Option Nat)) (w : World) (H : AHeap) (r : Req) (v : AV) (H' : AHeap) : Prop := CallR P X B ρ w H (Ret X B ρ w H v H') r
def CallPOk (P : Program) (X B : Nat → Prop) (ρ : List (Option Nat)) (w : World) (H : AHeap) (r : Req) (d : Imm) (H' : AHeap) : Prop := CallR P X B ρ w H (RetP X B ρ w H d H') r
def OracleOk (P : Program) (O : Oracle) : Prop := ∀ r H v H', O r H = some (v, H') → ∀ X B ρ w, HRel X B ρ w H → CallR P X B ρ w H (RetX X B ρ w H v H') r
theorem isPan_some {v : AV} {d : Imm} (h : isPan v = some d) : v = panV d := by
  unfold isPan at h
  split at h
  · cases h; rfl
  · cases h
theorem pack_np {own : Bool} {n : Nat} {G : AHeap} {v : AV} {r : AV × List AObj} (h : pack own n G v = some r) : isPan v = none := by
  cases hp : isPan v with
  | none => rfl
  | some d =>
    rw [isPan_some hp] at h
    unfold pack panV at h
    have h1 : rowOf own (.tup [.top, .im d]) = none := by cases own <;> rfl
    have h2 : view false viewDepth G (.tup [.top, .im d]) = none := by simp [viewDepth, view]
    rw [h1] at h
    simp [h2] at h
theorem RetX.ret {X B : Nat → Prop} {ρ : List (Option Nat)} {w : World} {H : AHeap} {v : AV} {H' : AHeap} {e : Ending} {w' : World} (hp : isPan v = none) (h : RetX X B ρ w H v H' e w') : Ret X B ρ w H v H' e w' := by
  unfold RetX at h; rw [hp] at h; exact h
theorem RetX.pan {X B : Nat → Prop} {ρ : List (Option Nat)} {w : World} {H : AHeap} {v : AV} {H' : AHeap} {e : Ending} {w' : World} {d : Imm} (hp : isPan v = some d) (h : RetX X B ρ w H v H' e w') : RetP X B ρ w H d H' e w' := by
  unfold RetX at h; rw [hp] at h; exact h

/-! ### A callee's own heap -/
theorem Own.nil {b : Nat} (h : Own [] [] b) : False := by obtain ⟨l, o, h, _⟩ := h; simp at h
theorem HRel.iso {X' B' : Nat → Prop} (hx : ∀ b, X' b → b < w.heap.size) (hb : ∀ b, B' b → b < w.heap.size) : HRel X' B' [] w [] :=
  ⟨hx, hb, rfl, fun _ h => h.nil.elim, fun _ _ _ _ _ h => by simp at h, fun _ _ h => by simp at h⟩
section
variable {ρ' : List (Option Nat)} {w' : World} {G : AHeap}
theorem Evo.old (E : Evo [] w [] ρ' w' G) {b : Nat} (hb : b < w.heap.size) : w'.heap[b]? = w.heap[b]? := E.same b hb fun h => h.nil
theorem Evo.after (E : Evo [] w [] ρ' w' G) : Evo ρ w H ρ w' H where
  os := E.os
  tape := E.tape
  output := E.output
  size := E.size
  same b hb _ := E.old hb
  len := Nat.le_refl _
  obj l o h := ⟨o, h, OEvo.keep rfl fun b _ _ _ ha => E.old (Array.getElem?_eq_some_iff.1 ha).1⟩
  fresh _ h _ := h
theorem HRel.after (R : HRel X B ρ w H) (E : Evo [] w [] ρ' w' G) : HRel X B ρ w' H :=
  R.step E.after R.len 0 (fun _ o b h hl hr => .inr ⟨hr, o, h, hl⟩) fun l o h => .inl ⟨h, rfl, fun b hb hl => E.old (R.own b ⟨l, o, h, hl, hb⟩).1⟩
end

/-! ### Objects that are forgotten -/
theorem Evo.forget {H' : AHeap} (hlen : H'.length = H.length) (h : ∀ l : Nat, H'[l]? = H[l]? ∨ H'[l]? = some AObj.gone) : Evo ρ w H ρ w H' where
  os := rfl
  tape := rfl
  output := rfl
  size := Nat.le_refl _
  same _ _ _ := rfl
  len := by omega
  obj l o ho := by
    rcases h l with h | h
    · exact ⟨o, h.trans ho, OEvo.refl ρ w l o⟩
    · exact ⟨.gone, h, by cases o <;> trivial⟩
  fresh b hb _ := by
    obtain ⟨l, o, ho, hl, hr⟩ := hb
    rcases h l with h | h
    · exact ⟨l, o, h ▸ ho, hl, hr⟩
    · rw [h] at ho; cases ho; cases hl
theorem HRel.forget {H' : AHeap} (R : HRel X B ρ w H) (hlen : H'.length = H.length) (h : ∀ l : Nat, H'[l]? = H[l]? ∨ H'[l]? = some AObj.gone) : HRel X B ρ w H' :=
  R.step (Evo.forget hlen h) (by rw [R.len, hlen]) 0 (fun l o b ho hl hr => .inr ⟨hr, o, by
    rcases h l with h | h
    · exact ⟨h ▸ ho, hl⟩
    · rw [h] at ho; cases ho; cases hl⟩) fun l o ho => by
    rcases h l with h | h
    · exact .inl ⟨h ▸ ho, rfl, fun _ _ _ => rfl⟩
    · rw [h] at ho; cases ho; exact .inr trivial
theorem tomb_len {n : Nat} (hn : n ≤ H.length) : (tomb n H).length = H.length := by unfold tomb; simp; omega
theorem tomb_get {n : Nat} (l : Nat) (hn : n ≤ H.length) : (tomb n H)[l]? = H[l]? ∨ (tomb n H)[l]? = some AObj.gone := by
  unfold tomb
  by_cases hl : l < n
  · left; rw [List.getElem?_append_left (by simp; omega), List.getElem?_take, if_pos hl]
  · by_cases hl2 : l < H.length
    · right; rw [List.getElem?_append_right (by simp; omega), List.getElem?_replicate, if_pos (by simp; omega)]
    · left; rw [List.getElem?_append_right (by simp; omega), List.getElem?_replicate, if_neg (by simp; omega), List.getElem?_eq_none (by omega)]
theorem set_gone_get (l0 l : Nat) : (H.set l0 AObj.gone)[l]? = H[l]? ∨ (H.set l0 AObj.gone)[l]? = some AObj.gone := by
  by_cases e : l0 = l
  · subst e
    by_cases hl : l0 < H.length
    · right; simp [hl]
    · left; rw [List.getElem?_eq_none (by simp; omega), List.getElem?_eq_none (by omega)]
  · left; rw [List.getElem?_set_ne e]

/-! ### A new name for an old block of the callee's -/
theorem HRel.name2 {w' : World} (R : HRel X B ρ w H) (E0 : Evo ρ w H ρ w' H) (o : AObj) (x : Option Nat) (hx : ∀ b, x = some b → w.heap.size ≤ b ∧ b < w'.heap.size)
    (hold : ∀ b, b < w.heap.size → w'.heap[b]? = w.heap[b]?)
    (ho : RepO w' (ρ ++ [x]) (H ++ [o]) (Nof (ρ ++ [x]) (H ++ [o]) X B) (Nqof (ρ ++ [x]) (H ++ [o]) X) H.length o) :
    Evo ρ w H (ρ ++ [x]) w' (H ++ [o]) ∧ HRel X B (ρ ++ [x]) w' (H ++ [o]) := by
  have E : Evo ρ w H (ρ ++ [x]) w' (H ++ [o]) :=
    { os := E0.os, tape := E0.tape, output := E0.output, size := E0.size
      same := fun b hb _ => hold b hb
      len := by simp
      obj := fun l o' h => by
        have hl : l < H.length := (List.getElem?_eq_some_iff.1 h).1
        refine ⟨o', by rw [List.getElem?_append_left hl]; exact h, OEvo.keep (look_append (by rw [R.len]; exact hl)) fun b _ _ _ ha => hold b (Array.getElem?_eq_some_iff.1 ha).1⟩
      fresh := fun b hb hlt => by
        obtain ⟨l, o', h, hl, hr⟩ := hb
        rcases append_case h with ⟨h1, h2⟩ | ⟨rfl, rfl⟩
        · rw [look_append (by rw [R.len]; exact h1)] at hr
          exact ⟨l, o', h2, hl, hr⟩
        · rw [← R.len, look_new] at hr
          have := (hx b hr).1; omega }
  refine ⟨E, R.step E (by simp [R.len]) H.length (fun l o' b h hl hr => ?_) (fun l o' h => ?_)⟩
  · rcases append_case h with ⟨h1, h2⟩ | ⟨rfl, rfl⟩
    · rw [look_append (by rw [R.len]; exact h1)] at hr
      exact .inr ⟨hr, o', h2, hl⟩
    · rw [← R.len, look_new] at hr
      exact .inl ⟨(hx b hr).1, (hx b hr).2, rfl⟩
  · rcases append_case h with ⟨h1, h2⟩ | ⟨rfl, rfl⟩
    · refine .inl ⟨h2, look_append (by rw [R.len]; exact h1), fun b hb hl => hold b ?_⟩
      exact (R.own b ⟨l, o', h2, hl, hb⟩).1
    · exact .inr ho

/-! ### What is handed back -/
section
variable {X' B' : Nat → Prop} {ρ' : List (Option Nat)} {w' : World} {G : AHeap}
theorem stay_refl (w : World) {N Nq : Nat → Prop} (h : ∀ b, Nq b → N b) : Stay w w N Nq N Nq := ⟨Nat.le_refl _, fun _ _ _ => rfl, fun _ _ h => h, fun _ _ h => h, h⟩
/-- All is seen: immutable data. -/
theorem pack_im (R' : HRel X' B' ρ' w' G) {v : AV} {d : Imm} {cv : Value} (h : view false viewDepth G v = some d) (hv : Rp X' B' ρ' w' G v cv) {N0 Nq0 : Nat → Prop} (hN : ∀ b, N0 b → X' b ∨ B' b) (hNq : ∀ b, Nq0 b → X' b) : RepI w' N0 Nq0 d cv :=
  view_ok R' (fun b h => .inr (hN b h)) (fun b h => .inr (hNq b h)) (fun b hb h => by
    have h : N0 b := by simpa using h
    obtain ⟨_, h1, h2⟩ := R'.own b hb
    rcases hN b h with h | h
    · exact h1 h
    · exact h2 h) viewDepth v d cv h hv
/-- Own rows of the callee's are out of the caller's reach. -/
theorem Nof.old {R : HRel X B ρ w H} (E : Evo [] w [] ρ' w' G) {b : Nat} (h : Own ρ' G b) : w.heap.size ≤ b := by
  rcases Nat.lt_or_ge b w.heap.size with h' | h'
  · exact (E.fresh b h h').nil.elim
  · exact h'
theorem pack_row (R : HRel X B ρ w H) (E : Evo [] w [] ρ' w' G) (hX : ∀ b, X' b ↔ X b ∨ Own ρ H b) (hB : ∀ b, B' b ↔ B b) (R' : HRel X' B' ρ' w' G) {l z : Nat} {es : List (List AV)} {t : TypeId} {es' : List (List Imm)}
    (ho : G[l]? = some (.row es z t)) (hes : (es.mapM fun c : List AV => c.mapM (view false viewDepth (G.set l .gone))) = some es') :
    ∃ ρ2, Evo ρ w H ρ2 w' (H ++ [.row (es'.map (·.map AV.im)) z t]) ∧ HRel X B ρ2 w' (H ++ [.row (es'.map (·.map AV.im)) z t]) ∧
      ∀ v v' cv, packVal (G.set l .gone) l H.length v = some v' → Rp X' B' ρ' w' G v cv → Rp X B ρ2 w' (H ++ [.row (es'.map (·.map AV.im)) z t]) v' cv := by
  have hne : ∀ b, look ρ' l = some b → w.heap.size ≤ b ∧ b < w'.heap.size := fun b hb => ⟨Nof.old (R := R) E ⟨l, _, ho, rfl, hb⟩, (R'.own b ⟨l, _, ho, rfl, hb⟩).1⟩
  have hnx : ∀ b, look ρ' l = some b → ¬ X' b ∧ ¬ B' b := fun b hb => (R'.own b ⟨l, _, ho, rfl, hb⟩).2
  -- the sets of the caller
  have hown2 : ∀ b, Own (ρ ++ [look ρ' l]) (H ++ [.row (es'.map (·.map AV.im)) z t]) b → Own ρ H b ∨ look ρ' l = some b := by
    rintro b ⟨l', o', h1, h2, h3⟩
    rcases append_case h1 with ⟨h4, h5⟩ | ⟨rfl, rfl⟩
    · rw [look_append (by rw [R.len]; exact h4)] at h3
      exact .inl ⟨l', o', h5, h2, h3⟩
    · rw [← R.len, look_new] at h3; exact .inr h3
  have EG : Evo ρ' w' G ρ' w' (G.set l .gone) := Evo.forget (by simp) (set_gone_get l)
  have hS := stay_refl w' (N := Nof ρ' G X' B') (Nq := Nqof ρ' G X') (fun b h => h.imp id .inl)
  have hview : ∀ (v : AV) (d : Imm) (cv : Value), view false viewDepth (G.set l .gone) v = some d → Rp X' B' ρ' w' G v cv →
      RepI w' (Nof (ρ ++ [look ρ' l]) (H ++ [.row (es'.map (·.map AV.im)) z t]) X B) (Nqof (ρ ++ [look ρ' l]) (H ++ [.row (es'.map (·.map AV.im)) z t]) X) d cv := by
    intro v d cv hd hv
    refine view_gen (N := Nof ρ' G X' B') (Nq := Nqof ρ' G X') (ρ := ρ') (H := G.set l .gone) ?_ ?_ (fun b h => h.imp id .inl) ?_ ?_ ?_ viewDepth v d cv hd (RepA.monoS EG.sees hS _ _ hv)
    · intro l0 o h0
      rcases set_gone_get (H := G) l l0 with h | h
      · exact RepO.monoS EG.sees hS rfl (fun _ _ => rfl) (R'.obj l0 o (h ▸ h0))
      · rw [h] at h0; cases h0; trivial
    · rintro b ⟨l0, o, h1, h2, h3⟩
      rcases set_gone_get (H := G) l l0 with h | h
      · exact (R'.own b ⟨l0, o, h ▸ h1, h2, h3⟩).1
      · rw [h] at h1; cases h1; cases h2
    · rintro b (h | h | h)
      · rcases hown2 b h with h | h
        · exact .inr (.inl ((hX b).2 (.inr h)))
        · exact .inl ⟨l, _, ho, rfl, h⟩
      · exact .inr (.inl ((hX b).2 (.inl h)))
      · exact .inr (.inr ((hB b).2 h))
    · rintro b (h | h)
      · rcases hown2 b h with h | h
        · exact .inr ((hX b).2 (.inr h))
        · exact .inl ⟨l, _, ho, rfl, h⟩
      · exact .inr ((hX b).2 (.inl h))
    · rintro b ⟨l0, o, h1, h2, h3⟩ hn
      have h0 : G[l0]? = some o ∧ l0 ≠ l := by
        by_cases e : l0 = l
        · subst e
          rw [List.getElem?_set_self (List.getElem?_eq_some_iff.1 ho).1] at h1
          cases h1; cases h2
        · rw [List.getElem?_set_ne (Ne.symm e)] at h1; exact ⟨h1, e⟩
      obtain ⟨_, hx1, hb1⟩ := R'.own b ⟨l0, o, h0.1, h2, h3⟩
      have hn : Nof (ρ ++ [look ρ' l]) (H ++ [.row (es'.map (·.map AV.im)) z t]) X B b := by simpa using hn
      rcases hn with h | h | h
      · rcases hown2 b h with h | h
        · exact hx1 ((hX b).2 (.inr h))
        · exact h0.2 (R'.inj l0 l o _ b h0.1 h2 h3 ho rfl h)
      · exact hx1 ((hX b).2 (.inl h))
      · exact hb1 ((hB b).2 h)
  have hrow : RepO w' (ρ ++ [look ρ' l]) (H ++ [.row (es'.map (·.map AV.im)) z t]) (Nof (ρ ++ [look ρ' l]) (H ++ [.row (es'.map (·.map AV.im)) z t]) X B) (Nqof (ρ ++ [look ρ' l]) (H ++ [.row (es'.map (·.map AV.im)) z t]) X)
      H.length (.row (es'.map (·.map AV.im)) z t) := by
    cases hb : look ρ' l with
    | none => left; have := new_look R (look ρ' l); rw [hb] at this; exact this
    | some b =>
      rw [hb] at hview
      rcases R'.obj l _ ho with h | ⟨b', arr, h1, h2, h3, h4, h5⟩
      · rw [hb] at h; cases h
      · rw [hb] at h1; cases h1
        obtain ⟨hl1, _⟩ := mapM_get hes
        refine .inr ⟨b, arr, new_look R _, h2, by rw [List.length_map, ← hl1]; exact h3, fun j e hj => ?_, fun j e m c hj hm => ?_⟩
        · rw [List.getElem?_map, Option.map_eq_some_iff] at hj
          obtain ⟨e0, he0, rfl⟩ := hj
          obtain ⟨e1, he1, hf⟩ := mapM_back hes he0
          have := h4 j e1 he1
          have h6 := (mapM_get hf).1
          rw [List.length_map]; omega
        · rw [List.getElem?_map, Option.map_eq_some_iff] at hj
          obtain ⟨e0, he0, rfl⟩ := hj
          rw [List.getElem?_map, Option.map_eq_some_iff] at hm
          obtain ⟨d, hd, rfl⟩ := hm
          obtain ⟨e1, he1, hf⟩ := mapM_back hes he0
          obtain ⟨c1, hc1, hfc⟩ := mapM_back hf hd
          obtain ⟨u, hu, h6, h7⟩ := h5 j e1 m c1 he1 hc1
          exact ⟨u, hu, h6, hview c1 d u hfc h7⟩
  obtain ⟨E2, R2⟩ := R.name2 E.after (.row (es'.map (·.map AV.im)) z t) (look ρ' l) hne (fun b hb => E.old hb) hrow
  refine ⟨_, E2, R2, fun v v' cv hp hv => ?_⟩
  have him : ∀ {v'}, (view false viewDepth (G.set l .gone) v).map AV.im = some v' → Rp X B (ρ ++ [look ρ' l]) w' (H ++ [.row (es'.map (·.map AV.im)) z t]) v' cv := fun {v'} h => by
    simp only [Option.map_eq_some_iff] at h
    obtain ⟨d, hd, rfl⟩ := h
    exact hview v d cv hd hv
  unfold packVal at hp
  split at hp
  · rename_i l' st j m
    split at hp
    · rename_i e
      subst e
      split at hp
      · rename_i hc
        obtain ⟨rfl, rfl⟩ := hc
        cases hp
        obtain ⟨hl1, _⟩ := mapM_get hes
        refine ⟨by simp, hv.2.1, fun es2 z2 t2 h => ?_⟩
        rw [new_row] at h; cases h
        obtain ⟨h1, h2⟩ := hv.2.2 es z t ho
        refine ⟨by rw [List.length_map, ← hl1]; exact h1, fun hlen => ?_⟩
        rw [List.length_map, ← hl1] at hlen
        rcases h2 hlen with ⟨⟨h3, h4⟩, h5⟩ | ⟨_, h3, _⟩ | ⟨b, c, arr, h3, h4⟩
        · exact .inl ⟨⟨(new_look R _).trans h3, h4⟩, h5⟩
        · omega
        · exact .inr (.inr ⟨b, c, arr, (new_look R _).trans h3, h4⟩)
      · cases hp
    · exact him hp
  · exact him hp
end
end
end Go.Proofs.Ytnbbhbbhgcipjaa.Am

namespace Go.Proofs.Ytnbbhbbhgcipjaa.Am
variable [LFit]
section
variable {P : Program} {X B : Nat → Prop} {ρ : List (Option Nat)} {w : World} {H : AHeap} {cx : Cx} {O : Oracle}

theorem all_im {args : List AV} {ds : List Imm} (ha : args.all AV.isIm = true) (h : views H args = some ds) : args = ds.map .im := by
  obtain ⟨hl, hg⟩ := mapM_get h
  apply List.ext_getElem?
  intro i
  by_cases hi : i < args.length
  · obtain ⟨d, hd, hf⟩ := hg i args[i] (by simp [hi])
    have := List.all_eq_true.1 ha args[i] (by simp)
    rw [List.getElem?_map, hd, List.getElem?_eq_getElem hi]
    cases hv : args[i] <;> rw [hv] at this hf <;> simp [AV.isIm] at this
    simp [viewDepth, view] at hf
    rw [hf]; rfl
  · rw [List.getElem?_eq_none (by omega), List.getElem?_eq_none (by simp; omega)]
/-- The sets of a callee that gets immutable data alone. -/
abbrev Xa (X : Nat → Prop) (ρ : List (Option Nat)) (H : AHeap) (b : Nat) : Prop := X b ∨ Own ρ H b
theorem iso_a (R : HRel X B ρ w H) : HRel (Xa X ρ H) B [] w [] := HRel.iso (fun b hb => by
  rcases hb with hb | hb
  · exact R.xlt b hb
  · exact (R.own b hb).1) R.blt
theorem args_a (R : HRel X B ρ w H) {args : List AV} {ds : List Imm} {cas : List Value} (ha : args.all AV.isIm = true) (h : views H args = some ds) (hr : RepAL w ρ H (Nof ρ H X B) (Nqof ρ H X) args cas) :
    RepAL w [] [] (Nof [] [] (Xa X ρ H) B) (Nqof [] [] (Xa X ρ H)) (ds.map .im) cas := by
  rw [all_im ha h] at hr
  refine RepAL.im.2 (RepL.mono ⟨Nat.le_refl _, fun _ _ _ => rfl, fun b _ h => ?_, fun b _ h => ?_, fun b h => h.imp id .inl⟩ _ _ (RepAL.im.1 hr))
  · rcases h with h | (h | h) | h
    · exact h.nil.elim
    · exact .inr (.inl h)
    · exact .inl h
    · exact .inr (.inr h)
  · rcases h with h | h | h
    · exact h.nil.elim
    · exact .inr h
    · exact .inl h
/-- The sets of a callee that may look at the caller's rows. -/
abbrev Bb (B : Nat → Prop) (ρ : List (Option Nat)) (H : AHeap) (b : Nat) : Prop := B b ∨ Own ρ H b
theorem iso_b (R : HRel X B ρ w H) : HRel X (Bb B ρ H) [] w [] := HRel.iso R.xlt fun b hb => by
  rcases hb with hb | hb
  · exact R.blt b hb
  · exact (R.own b hb).1
theorem args_b (R : HRel X B ρ w H) {args : List AV} {ds : List Imm} {cas : List Value} (h : views H args = some ds) (hr : RepAL w ρ H (Nof ρ H X B) (Nqof ρ H X) args cas) :
    RepAL w [] [] (Nof [] [] X (Bb B ρ H)) (Nqof [] [] X) (ds.map .im) cas := by
  refine RepAL.im.2 (list_view (fun v d cv hd hv => view_ok R ?_ ?_ ?_ viewDepth v d cv hd hv) h hr)
  · rintro b (h | h | h | h)
    · exact h.nil.elim
    · exact .inr (.inl h)
    · exact .inr (.inr h)
    · exact .inl h
  · rintro b (h | h)
    · exact h.nil.elim
    · exact .inr h
  · rintro b hb h
    have h : Nqof [] [] X b := by simpa using h
    rcases h with h | h
    · exact h.nil.elim
    · exact (R.own b hb).2.1 h

theorem ret_a (R : HRel X B ρ w H) {own : Bool} {v v' : AV} {G : AHeap} {os : List AObj} (hp : pack own H.length G v = some (v', os)) {e : Ending} {w' : World} (h : Ret (Xa X ρ H) B [] w [] v G e w') : Ret X B ρ w H v' (H ++ os) e w' := by
  obtain ⟨cv, ρ', rfl, E, R', hv⟩ := h
  unfold pack at hp
  split at hp
  · simp only [Option.map_eq_some_iff, Prod.mk.injEq] at hp
    obtain ⟨d, hd, rfl, rfl⟩ := hp
    rw [List.append_nil]
    refine ⟨cv, ρ, rfl, E.after, R.after E, pack_im R' hd hv (fun b hb => ?_) (fun b hb => ?_)⟩
    · rcases hb with h | h | h
      · exact .inl (.inr h)
      · exact .inl (.inl h)
      · exact .inr h
    · rcases hb with h | h
      · exact .inr h
      · exact .inl h
  · rename_i l hl
    split at hp
    · rename_i es z t ho
      split at hp
      · rename_i es' vs hes
        simp only [Option.map_eq_some_iff, Prod.mk.injEq] at hp
        obtain ⟨vs', hvs, rfl, rfl⟩ := hp
        obtain ⟨ρ2, E2, R2, hall⟩ := pack_row R E (fun _ => Iff.rfl) (fun _ => Iff.rfl) R' ho hes
        refine ⟨cv, ρ2, rfl, E2, R2, ?_⟩
        obtain ⟨lv, rfl, hlv⟩ := hv
        refine ⟨lv, rfl, ?_⟩
        obtain ⟨h1, _⟩ := mapM_get hvs
        refine RepAL.of_get (by rw [← h1]; exact hlv.length) fun i c u hc hu => ?_
        obtain ⟨v0, hv0, hf⟩ := mapM_back hvs hc
        obtain ⟨u', hu', hr⟩ := hlv.get hv0
        rw [hu] at hu'; cases hu'
        exact hall v0 c u hf hr
      · rename_i es' hes _
        simp only [Option.map_eq_some_iff, Prod.mk.injEq] at hp
        obtain ⟨v0, hv0, rfl, rfl⟩ := hp
        obtain ⟨ρ2, E2, R2, hall⟩ := pack_row R E (fun _ => Iff.rfl) (fun _ => Iff.rfl) R' ho hes
        exact ⟨cv, ρ2, rfl, E2, R2, hall _ v0 cv hv0 hv⟩
      · cases hp
    · cases hp
theorem ret_b (R : HRel X B ρ w H) {own : Bool} {v : AV} {d : Imm} {G : AHeap} (hp : pack own H.length G v = some (.im d, [])) (hd : d.flatR = true ∨ d.clean = true) {e : Ending} {w' : World} (h : Ret X (Bb B ρ H) [] w [] v G e w') : Ret X B ρ w H (.im d) H e w' := by
  obtain ⟨cv, ρ', rfl, E, R', hv⟩ := h
  unfold pack at hp
  split at hp
  · simp only [Option.map_eq_some_iff, Prod.mk.injEq] at hp
    obtain ⟨d', hd', h1, _⟩ := hp
    cases h1
    have hr : RepI w' (Nof ρ H X B) X d cv := pack_im R' hd' hv (fun b hb => by
      rcases hb with h | h | h
      · exact .inr (.inr h)
      · exact .inl h
      · exact .inr (.inl h)) (fun b hb => hb)
    refine ⟨cv, ρ, rfl, E.after, R.after E, ?_⟩
    rcases hd with hd | hd
    · exact flatR_rep hd hr
    · exact clean_rep _ _ hd hr
  · split at hp
    · split at hp <;> simp at hp
    · cases hp
theorem ret_tomb {d : Imm} {H' : AHeap} {e : Ending} {w' : World} (h : Ret X B ρ w H (.im d) H' e w') : Ret X B ρ w H (.im d) (tomb H.length H') e w' := by
  obtain ⟨cv, ρ', rfl, E, R', hv⟩ := h
  have E2 : Evo ρ' w' H' ρ' w' (tomb H.length H') := Evo.forget (tomb_len E.len) fun l => tomb_get l E.len
  exact ⟨cv, ρ', rfl, E.trans E2, R'.forget (tomb_len E.len) fun l => tomb_get l E.len, RepI.mono (E2.stay X B) _ _ hv⟩

theorem acall_ok (hO : OracleOk P O) {r : Req} {v : AV} {H' : AHeap} (h : acall cx O r H = some (v, H')) (R : HRel X B ρ w H) : CallOk P X B ρ w H r v H' := by
  unfold acall at h
  cases r with
  | fn f args =>
    dsimp only at h
    intro cas hcas
    split at h
    · rename_i ds hds
      have hviews : views H args = some ds := by
        unfold viaView at hds
        dsimp only at hds
        split at hds
        · cases hds
        · exact hds
      split at h
      · rename_i v0 G hcall
        split at h
        · rename_i d hp
          split at h
          · rename_i hc
            cases h
            by_cases ha : args.all AV.isIm = true
            · obtain ⟨h1, h2⟩ := hO _ _ _ _ hcall _ _ _ _ (iso_a R) cas (args_a R ha hviews hcas)
              refine ⟨h1, h2.mono fun e w' hr => ?_⟩
              have := ret_a R hp (hr.ret (pack_np hp))
              rwa [List.append_nil] at this
            · obtain ⟨h1, h2⟩ := hO _ _ _ _ hcall _ _ _ _ (iso_b R) cas (args_b R hviews hcas)
              refine ⟨h1, h2.mono fun e w' hr => ret_b R hp ?_ (hr.ret (pack_np hp))⟩
              simpa [ha] using hc
          · cases h
        · rename_i v' os _ hp
          split at h
          · rename_i ha
            cases h
            obtain ⟨h1, h2⟩ := hO _ _ _ _ hcall _ _ _ _ (iso_a R) cas (args_a R ha hviews hcas)
            exact ⟨h1, h2.mono fun e w' hr => ret_a R hp (hr.ret (pack_np hp))⟩
          · cases h
        · cases h
      · cases h
    · split at h
      · rename_i d H0 hcall
        cases h
        obtain ⟨h1, h2⟩ := hO _ _ _ _ hcall _ _ _ _ R cas hcas
        exact ⟨h1, h2.mono fun e w' hr => ret_tomb (hr.ret rfl)⟩
      · rename_i v0 H0 _ hcall
        split at h
        · cases h
        · rename_i hp
          cases h
          obtain ⟨h1, h2⟩ := hO _ _ _ _ hcall _ _ _ _ R cas hcas
          exact ⟨h1, h2.mono fun e w' hr => hr.ret (by simpa using hp)⟩
      · cases h
  | round l args =>
    dsimp only at h
    split at h
    · rename_i d H0 hcall
      cases h
      obtain ⟨h0, h1⟩ := hO _ _ _ _ hcall _ _ _ _ R
      refine ⟨h0, fun bl cas hbl hcas => ?_⟩
      obtain ⟨L, h2, h3, h4⟩ := h1 bl cas hbl hcas
      exact ⟨L, h2, h3, h4.mono fun e w' hr => ret_tomb (hr.ret rfl)⟩
    · cases h
theorem retP_tomb {d : Imm} {H' : AHeap} {e : Ending} {w' : World} (h : RetP X B ρ w H d H' e w') : RetP X B ρ w H d (tomb H.length H') e w' := by
  obtain ⟨cv, ρ', rfl, E, R', hv⟩ := h
  have E2 : Evo ρ' w' H' ρ' w' (tomb H.length H') := Evo.forget (tomb_len E.len) fun l => tomb_get l E.len
  exact ⟨cv, ρ', rfl, E.trans E2, R'.forget (tomb_len E.len) fun l => tomb_get l E.len, RepI.mono (E2.stay X B) _ _ hv⟩
theorem acallP_ok (hO : OracleOk P O) {r : Req} {d : Imm} {H' : AHeap} (h : acallP cx O r H = some (d, H')) (R : HRel X B ρ w H) : CallPOk P X B ρ w H r d H' := by
  unfold acallP at h
  cases r with
  | fn f args =>
    dsimp only at h
    intro cas hcas
    split at h
    · rename_i ds hds
      have hviews : views H args = some ds := by
        unfold viaView at hds
        dsimp only at hds
        split at hds
        · cases hds
        · exact hds
      split at h
      · rename_i v0 G hcall
        obtain ⟨d', hp, h⟩ := Option.bind_eq_some_iff.1 h
        split at h
        · rename_i hc
          cases h
          obtain ⟨h1, h2⟩ := hO _ _ _ _ hcall _ _ _ _ (iso_b R) cas (args_b R hviews hcas)
          refine ⟨h1, h2.mono fun e w' hr => ?_⟩
          obtain ⟨cv, ρ', rfl, E, R', hv⟩ := hr.pan hp
          have hr : RepI w' (Nof ρ H X B) X d cv := pack_im (v := .im d) R' (by simp [viewDepth, view]) hv (fun b hb => by
            rcases hb with h | h | h
            · exact .inr (.inr h)
            · exact .inl h
            · exact .inr (.inl h)) (fun b hb => hb)
          exact ⟨cv, ρ, rfl, E.after, R.after E, clean_rep _ _ hc hr⟩
        · cases h
      · cases h
    · split at h
      · rename_i v0 H0 hcall
        simp only [Option.map_eq_some_iff, Prod.mk.injEq] at h
        obtain ⟨d', hp, rfl, rfl⟩ := h
        obtain ⟨h1, h2⟩ := hO _ _ _ _ hcall _ _ _ _ R cas hcas
        exact ⟨h1, h2.mono fun e w' hr => retP_tomb (hr.pan hp)⟩
      · cases h
  | round l args =>
    dsimp only at h
    split at h
    · rename_i v0 H0 hcall
      simp only [Option.map_eq_some_iff, Prod.mk.injEq] at h
      obtain ⟨d', hp, rfl, rfl⟩ := h
      obtain ⟨h0, h1⟩ := hO _ _ _ _ hcall _ _ _ _ R
      refine ⟨h0, fun bl cas hbl hcas => ?_⟩
      obtain ⟨L, h2, h3, h4⟩ := h1 bl cas hbl hcas
      exact ⟨L, h2, h3, h4.mono fun e w' hr => retP_tomb (hr.pan hp)⟩
    · cases h
end
end Go.Proofs.Ytnbbhbbhgcipjaa.Am

namespace Go.Proofs.Ytnbbhbbhgcipjaa.Am
variable [LFit]
section
variable {P : Program} {X B : Nat → Prop} {ρ : List (Option Nat)} {w : World} {H : AHeap} {cx : Cx} {O : Oracle}

def FW (ro : Option Nat) : Fence := { Fence.wide with round := ro }

/-- A mark among the deferred calls. -/
def MarkRep (ρ : List (Option Nat)) (H : AHeap) (l : Nat) (d : Deferred) : Prop := l < H.length ∧ ∀ s, H[l]? = some (.dfr s) → ∃ b, look ρ l = some b ∧ d = { target := .collected b, args := #[] }
/-- What is put off. -/
def DfrRep (X B : Nat → Prop) (ρ : List (Option Nat)) (w : World) (H : AHeap) : Dfr → Deferred → Prop
  | .mark l, d => MarkRep ρ H l d
  | .fn g as, d => ∃ cap cas : Array Value, d = { target := .fn (.func g) cap, args := cas } ∧ RepAL w ρ H (Nof ρ H X B) (Nqof ρ H X) as (cas ++ cap).toList
def MarksRep (X B : Nat → Prop) (ρ : List (Option Nat)) (w : World) (H : AHeap) : List Dfr → List Deferred → Prop
  | [], ds => ds = []
  | l :: ls, ds => ∃ d ds', ds = d :: ds' ∧ DfrRep X B ρ w H l d ∧ MarksRep X B ρ w H ls ds'
theorem MarkRep.mono {ρ' : List (Option Nat)} {w' : World} {H' : AHeap} (E : Evo ρ w H ρ' w' H') {l : Nat} {d : Deferred} (h : MarkRep ρ H l d) : MarkRep ρ' H' l d := by
  obtain ⟨hl, h⟩ := h
  refine ⟨Nat.lt_of_lt_of_le hl E.len, fun s h' => ?_⟩
  obtain ⟨o', ho', e⟩ := E.obj l _ (List.getElem?_eq_getElem hl)
  rw [h'] at ho'
  cases ho'
  generalize ho : H[l] = o at e
  have ho2 : H[l]? = some o := by rw [List.getElem?_eq_getElem hl, ho]
  cases o <;> simp only [OEvo] at e
  case dfr =>
    obtain ⟨_, e1, e2⟩ := e
    obtain ⟨b, hb, hd⟩ := h _ ho2
    exact ⟨b, e2.trans hb, hd⟩
  all_goals (obtain ⟨_, e⟩ := e; simp at e)
theorem DfrRep.mono {ρ' : List (Option Nat)} {w' : World} {H' : AHeap} (E : Evo ρ w H ρ' w' H') {l : Dfr} {d : Deferred} (h : DfrRep X B ρ w H l d) : DfrRep X B ρ' w' H' l d := by
  cases l with
  | mark l => exact MarkRep.mono E h
  | fn g as =>
    obtain ⟨cap, cas, e, h⟩ := h
    exact ⟨cap, cas, e, RepAL.mono E (E.stay X B) _ _ h⟩
theorem MarksRep.mono {ρ' : List (Option Nat)} {w' : World} {H' : AHeap} (E : Evo ρ w H ρ' w' H') : ∀ {ls : List Dfr} {ds : List Deferred}, MarksRep X B ρ w H ls ds → MarksRep X B ρ' w' H' ls ds
  | [], _, h => h
  | _ :: _, _, ⟨d, ds', e, h1, h2⟩ => ⟨d, ds', e, h1.mono E, MarksRep.mono E h2⟩

/-- The state of an activation; D: temporaries that are not there yet. -/
structure SR (X B : Nat → Prop) (n : Nat) (D : Nat → Prop) (ρ : List (Option Nat)) (st : St) (a : Act) (w : World) : Prop where
  rel : HRel X B ρ w st.H
  fr : ∀ t, ¬ D t → Rp X B ρ w st.H (Fr.get st.fr t) (a.tmps.getD t undef)
  size : n ≤ a.tmps.size
  marks : MarksRep X B ρ w st.H st.ds a.defers
variable {n : Nat} {D : Nat → Prop} {st : St} {a : Act}
theorem SR.ev (S : SR X B n D ρ st a w) {x : Operand} (hx : ∀ t, x = .tmp t → ¬ D t) : Rp X B ρ w st.H (ev st.fr x) (a.eval x) := by
  cases x with
  | tmp t => exact S.fr t (hx t rfl)
  | const v =>
    show RepA w ρ st.H _ _ (constAV v) v
    unfold constAV
    cases hv : Imm.ofVal v with
    | none => trivial
    | some d => exact ofVal_rep hv
  | global g => trivial
  | func f => exact ⟨#[], rfl, rfl⟩
theorem get_put (fr : Fr) (d t : Nat) (v : AV) : Fr.get ((d, v) :: fr) t = if t = d then v else Fr.get fr t := by
  unfold Fr.get
  rw [List.lookup_cons]
  by_cases h : t = d
  · subst h; simp
  · rw [if_neg h, show (t == d) = false by simpa using h]
theorem put_size (a : Act) (d : Option Tmp) (v : Value) : (a.put d v).tmps.size = a.tmps.size := by cases d <;> simp [Act.put]
theorem put_defers (a : Act) (d : Option Tmp) (v : Value) : (a.put d v).defers = a.defers := by cases d <;> rfl
theorem put_getD {a : Act} {d t : Nat} {v : Value} (hd : d < a.tmps.size) : (a.put (some d) v).tmps.getD t undef = if t = d then v else a.tmps.getD t undef := by
  simp only [Act.put, Array.getD_eq_getD_getElem?]
  by_cases h : t = d
  · subst h; rw [if_pos rfl]; simp [hd]
  · rw [if_neg h, Array.getElem?_setIfInBounds_ne (Ne.symm h)]
/-- After a step that yields v. -/
theorem SR.put {ρ' : List (Option Nat)} {w' : World} {H' : AHeap} (S : SR X B n D ρ st a w) (E : Evo ρ w st.H ρ' w' H') (R : HRel X B ρ' w' H') {dst : Option Tmp} (hd : ∀ d, dst = some d → d < n) {v : AV} {cv : Value} (hv : Rp X B ρ' w' H' v cv) :
    SR X B n D ρ' { st with fr := putT st.fr dst v, H := H' } (a.put dst cv) w' where
  rel := R
  fr t ht := by
    have old : Rp X B ρ' w' H' (Fr.get st.fr t) (a.tmps.getD t undef) := RepA.mono E (E.stay X B) _ _ (S.fr t ht)
    cases dst with
    | none => exact old
    | some d =>
      have hlt : d < a.tmps.size := Nat.lt_of_lt_of_le (hd d rfl) S.size
      show Rp X B ρ' w' H' (Fr.get ((d, v) :: st.fr) t) _
      rw [get_put, put_getD hlt]
      by_cases e : t = d
      · rw [if_pos e, if_pos e]; exact hv
      · rw [if_neg e, if_neg e]; exact old
  size := by rw [put_size]; exact S.size
  marks := by rw [put_defers]; exact S.marks.mono E

theorem wanted_ok {ops : Array Oper} {o : Oper} {b : Bool} (h : wantedA ops.toList o st.fr = some b) (S : SR X B n D ρ st a w) (hD : ∀ j want d, o.guard = some (j, want) → (ops[j]?).bind (·.dst) = some d → ¬ D d) :
    Region.wanted o (yielded ops a.tmps) = b := by
  unfold wantedA at h
  unfold Region.wanted
  cases hg : o.guard with
  | none => rw [hg] at h; cases h; rfl
  | some jw =>
    obtain ⟨j, want⟩ := jw
    rw [hg] at h
    simp only [Option.map_eq_some_iff] at h
    obtain ⟨y, hy, hb⟩ := h
    have : yielded ops a.tmps j = y := by
      unfold yieldedA at hy
      rw [Array.getElem?_toList] at hy
      unfold yielded
      cases hdst : (ops[j]?).bind (·.dst) with
      | none => rw [hdst] at hy; cases hy; rfl
      | some d =>
        rw [hdst] at hy
        have hr := S.fr d (hD j want d hg hdst)
        dsimp only at hy
        rw [Array.getD_eq_getD_getElem?] at hr
        simp only [Option.bind_some]
        split at hy
        · rename_i x hx
          cases hy
          rw [hx] at hr
          have hr : (a.tmps[d]?).getD undef = .bool x := hr
          cases ht : a.tmps[d]? with
          | none => rw [ht] at hr; simp [undef] at hr
          | some v => rw [ht] at hr; simp at hr; subst hr; rfl
        · rename_i hx
          cases hy
          rw [hx] at hr
          have hr : (a.tmps[d]?).getD undef = undef := hr
          cases ht : a.tmps[d]? with
          | none => rfl
          | some v => rw [ht] at hr; simp at hr; subst hr; rfl
        · cases hy
    show (yielded ops a.tmps j == some want) = b
    rw [this]
    exact hb

/-- What is asked of the program. -/
def Named (P : Program) : Prop := ∀ (f : FuncId) (fn : Func), P.funcs[f]? = some fn → (fn.name == "runtime.NumGoroutine") = false
theorem aop_not_defer {fn : FuncId} {o : Oper} {fr : Fr} {ao : AO} (h : aop cx fn o fr H = some ao) (hn : ∀ g as, ao ≠ .dfr g as) (c : Call) : o.op ≠ .defer c := by
  intro ho
  unfold aop at h
  rw [ho] at h
  obtain ⟨cl, args, ts⟩ := c
  cases cl with
  | value f =>
    dsimp only at h
    split at h
    · cases h; exact hn _ _ rfl
    · cases h
  | _ => cases h
theorem callFunc_run (hN : Named P) {f : FuncId} {fn : Func} {c : Code} (hf : P.funcs[f]? = some fn) (hb : fn.body = some c) (cas : Array Value) : (callFunc f cas).run P w = .ok (.enter f cas) w := by
  have := hN f fn hf
  have h2 : ¬ fn.name = "runtime.NumGoroutine" := by simpa using this
  simp [callFunc, hf, h2, hb]

/-- One operation. -/
theorem astep_ok (hP : cx.P = P) (hN : Named P) (hO : OracleOk P O) {fn : FuncId} {o : Oper} {st' : St} {ro : Option Nat} {next : Act → World → Prop} {Q : Exit → Act → World → Prop} (h : astep cx O fn o st = some st') (S : SR X B n D ρ st a w)
    (hD : ∀ t, Operand.tmp t ∈ o.op.operands → ¬ D t) (hd : ∀ d, o.dst = some d → d < n)
    (hk : ∀ ρ' a' w', Evo ρ w st.H ρ' w' st'.H → SR X B n D ρ' st' a' w' → (∃ v, a' = a.put o.dst v) → st'.ds = st.ds → next a' w') : o.wpIn (FW ro) 0 P a w next Q := by
  refine ⟨fun _ _ => trivial, ?_⟩
  unfold astep at h
  cases hao : aop cx fn o st.fr st.H with
  | none => rw [hao] at h; cases h
  | some ao =>
    rw [hao] at h
    have hnd : ∀ g as, ao ≠ .dfr g as := by rintro g as rfl; cases h
    rw [Oper.semAt_eq _ _ _ (aop_not_defer hao hnd)]
    have hok := aop_ok (P := P) hP S.rel hao (a := a) fun x hx => S.ev fun t e => hD t (e ▸ hx)
    cases ao with
    | val v H' =>
      cases h
      obtain ⟨cv, w', ρ', hr, E, R, hv⟩ := hok
      rw [hr, Oper.uponIn_value]
      exact hk ρ' _ w' E (S.put E R hd hv) ⟨_, rfl⟩ rfl
    | skip H' =>
      cases h
      obtain ⟨w', ρ', hr, E, R⟩ := hok
      rw [hr, Oper.uponIn_skip]
      exact hk ρ' _ w' E (S.put E R hd rfl) ⟨_, rfl⟩ rfl
    | call r =>
      dsimp only at h
      split at h
      · rename_i v H' hcall
        cases h
        have hc := acall_ok (P := P) hO hcall S.rel
        cases r with
        | fn f as =>
          obtain ⟨cas, hr, hcas⟩ := hok
          obtain ⟨⟨fn', c, hf, hb⟩, hcalls⟩ := hc cas hcas
          rw [hr, callFunc_run hN hf hb, Oper.uponIn_enter]
          refine ⟨fun h => (by cases h), ?_⟩
          refine CallsIn.mono (show CallsIn (FW ro) (0 - 1) P f cas w _ from hcalls) fun e w' hret => ?_
          obtain ⟨cv, ρ', rfl, E, R, hv⟩ := hret
          exact hk ρ' _ w' E (S.put E R hd hv) ⟨_, rfl⟩ rfl
        | round l as =>
          obtain ⟨f', cas, hf', hr, hcas⟩ := hok
          obtain ⟨⟨s, p, fn0, fr0, ps, c1, c2, d, hl⟩, hround⟩ := hc
          obtain ⟨bl, hbl, rfl⟩ := hf'.2 _ _ _ _ _ _ _ _ hl
          obtain ⟨L, hL, hsz, hrnd⟩ := hround bl cas hbl hcas
          have hy : (invoke (.fn (.yield bl) #[]) cas).run P w = .ok (.round bl L.fn ((L.params.zip cas).foldl (fun tmps (t, a) => tmps.setIfInBounds t a) L.tmps) L.assign L.body) w := by
            simp [invoke, Instr.yield, Instr.getLoop, getObj, Sem.run, hL, hsz]
          rw [hr, hy, Oper.uponIn_round]
          refine ⟨fun h => (by cases h), ?_⟩
          refine RoundIn.mono (show RoundIn (FW ro) (0 - 1) P bl _ _ _ _ w _ from hrnd) fun e w' hret => ?_
          obtain ⟨cv, ρ', rfl, E, R, hv⟩ := hret
          exact hk ρ' _ w' E (S.put E R hd hv) ⟨_, rfl⟩ rfl
      · cases h
    | dfr g as => cases h
    | pan d => cases h

/-- One that puts a call off. -/
theorem adfr_ok (hP : cx.P = P) {fn : FuncId} {o : Oper} {g : FuncId} {as : List AV} {next : Act → World → Prop} {Q : Exit → Act → World → Prop} (h : aop cx fn o st.fr st.H = some (.dfr g as)) (S : SR X B n D ρ st a w)
    (hD : ∀ t, Operand.tmp t ∈ o.op.operands → ¬ D t) (hd : ∀ d, o.dst = some d → d < n)
    (hk : ∀ a', SR X B n D ρ (putOff o g as st) a' w → next a' w) : o.wpIn (FW none) 0 P a w next Q := by
  refine ⟨fun _ _ => trivial, ?_⟩
  have hok := aop_ok (P := P) hP S.rel h (a := a) fun x hx => S.ev fun t e => hD t (e ▸ hx)
  obtain ⟨cap, cas, hr, hcas⟩ := hok
  have e0 : o.semAt (FW none).round a.eval = execOp a.eval o := Oper.semAt_none _ _
  rw [e0, hr, Oper.uponIn_defer]
  refine hk _ ?_
  have S1 : SR X B n D ρ { st with fr := putT st.fr o.dst (.im .und), H := st.H } (a.put o.dst undef) w := S.put (Evo.refl _ _ _) S.rel hd (rfl : Rp X B ρ w st.H (.im .und) undef)
  have e1 : ({ a with defers := { target := .fn (.func g) cap, args := cas } :: a.defers } : Act).put o.dst undef = { a.put o.dst undef with defers := { target := .fn (.func g) cap, args := cas } :: a.defers } := by
    cases o.dst <;> rfl
  rw [e1]
  exact ⟨S.rel, S1.fr, S1.size, _, _, rfl, ⟨cap, cas, rfl, hcas⟩, S.marks⟩
/-- One that panics. -/
theorem apanOp_ok (hP : cx.P = P) (hN : Named P) (hO : OracleOk P O) {fn : FuncId} {o : Oper} {d : Imm} {st' : St} {ro : Option Nat} {next : Act → World → Prop} {Q : Exit → Act → World → Prop} (h : apanOp cx O fn o st = some (d, st')) (S : SR X B n D ρ st a w)
    (hD : ∀ t, Operand.tmp t ∈ o.op.operands → ¬ D t)
    (hk : ∀ ρ' w' v, Evo ρ w st.H ρ' w' st'.H → SR X B n D ρ' st' a w' → RepI w' (Nof ρ' st'.H X B) (Nqof ρ' st'.H X) d v → Q (.panic [{ v, recovered := false }]) a w') : o.wpIn (FW ro) 0 P a w next Q := by
  refine ⟨fun _ _ => trivial, ?_⟩
  unfold apanOp at h
  cases hao : aop cx fn o st.fr st.H with
  | none => rw [hao] at h; cases h
  | some ao =>
    rw [hao] at h
    have hnd : ∀ g as, ao ≠ .dfr g as := by rintro g as rfl; cases h
    rw [Oper.semAt_eq _ _ _ (aop_not_defer hao hnd)]
    have hok := aop_ok (P := P) hP S.rel hao (a := a) fun x hx => S.ev fun t e => hD t (e ▸ hx)
    have step : ∀ {ρ' : List (Option Nat)} {w' : World} {H' : AHeap}, Evo ρ w st.H ρ' w' H' → HRel X B ρ' w' H' → SR X B n D ρ' { st with H := H' } a w' := fun E R =>
      ⟨R, fun t ht => RepA.mono E (E.stay X B) _ _ (S.fr t ht), S.size, S.marks.mono E⟩
    cases ao with
    | val v H' => cases h
    | skip H' => cases h
    | dfr g as => cases h
    | pan d0 =>
      cases h
      obtain ⟨v, hr, hv⟩ := hok
      rw [hr, Oper.uponIn_panic]
      exact hk ρ w v (Evo.refl _ _ _) S hv
    | call r =>
      dsimp only at h
      simp only [Option.map_eq_some_iff, Prod.mk.injEq] at h
      obtain ⟨⟨d', H'⟩, hcall, rfl, rfl⟩ := h
      have hc := acallP_ok (P := P) hO hcall S.rel
      cases r with
      | fn f as =>
        obtain ⟨cas, hr, hcas⟩ := hok
        obtain ⟨⟨fn', c, hf, hb⟩, hcalls⟩ := hc cas hcas
        rw [hr, callFunc_run hN hf hb, Oper.uponIn_enter]
        refine ⟨fun h => (by cases h), ?_⟩
        refine CallsIn.mono (show CallsIn (FW ro) (0 - 1) P f cas w _ from hcalls) fun e w' hret => ?_
        obtain ⟨cv, ρ', rfl, E, R, hv⟩ := hret
        exact hk ρ' w' cv E (step E R) hv
      | round l as =>
        obtain ⟨f', cas, hf', hr, hcas⟩ := hok
        obtain ⟨⟨s, p, fn0, fr0, ps, c1, c2, d, hl⟩, hround⟩ := hc
        obtain ⟨bl, hbl, rfl⟩ := hf'.2 _ _ _ _ _ _ _ _ hl
        obtain ⟨L, hL, hsz, hrnd⟩ := hround bl cas hbl hcas
        have hy : (invoke (.fn (.yield bl) #[]) cas).run P w = .ok (.round bl L.fn ((L.params.zip cas).foldl (fun tmps (t, a) => tmps.setIfInBounds t a) L.tmps) L.assign L.body) w := by
          simp [invoke, Instr.yield, Instr.getLoop, getObj, Sem.run, hL, hsz]
        rw [hr, hy, Oper.uponIn_round]
        refine ⟨fun h => (by cases h), ?_⟩
        refine RoundIn.mono (show RoundIn (FW ro) (0 - 1) P bl _ _ _ _ w _ from hrnd) fun e w' hret => ?_
        obtain ⟨cv, ρ', rfl, E, R, hv⟩ := hret
        exact hk ρ' w' cv E (step E R) hv

/-- One that is not wanted. -/
theorem unwanted_ok (S : SR X B n D ρ st a w) {o : Oper} (hd : ∀ d, o.dst = some d → d < n) : SR X B n D ρ (unwanted o st) (a.put o.dst undef) w :=
  S.put (Evo.refl _ _ _) S.rel hd (rfl : Rp X B ρ w st.H (.im .und) undef)

/-- No call is put off. -/
def noDfr (ops : Array Oper) : Bool := ops.all fun o => match o.op with | .defer _ => false | _ => true
theorem adfr_aop {fn : FuncId} {o : Oper} {x : FuncId × List AV} (h : adfr cx fn o st = some x) : aop cx fn o st.fr st.H = some (.dfr x.1 x.2) := by
  unfold adfr at h
  split at h
  · split at h
    · rename_i e; cases h; exact e
    · cases h
  · cases h
theorem noDfr_aop {fn : FuncId} {ops : Array Oper} {o : Oper} {x : FuncId × List AV} (h : noDfr ops = true) (ho : o ∈ ops) (ha : adfr cx fn o st = some x) : False := by
  have := (Array.all_eq_true_iff_forall_mem.1 h) o ho
  unfold adfr at ha
  split at ha
  · rename_i c e; rw [e] at this; cases this
  · cases ha
/-- A region whose order is the lexical one. -/
theorem aops_ok (hP : cx.P = P) (hN : Named P) (hO : OracleOk P O) {fn : FuncId} {ops : Array Oper} {ro : Option Nat} {Q : Exit → Act → World → Prop} (hd : ∀ o ∈ ops, ∀ d, o.dst = some d → d < n) (hnd : ro = none ∨ noDfr ops = true) :
    ∀ (todo : List Oper) (idxs : List Nat) (st st' : St) (ρ : List (Option Nat)) (a : Act) (w : World), idxs.map (ops[·]?) = todo.map some → aops cx O fn ops.toList todo st = some st' → SR X B n (fun _ => False) ρ st a w →
      (∀ ρ' a' w', Evo ρ w st.H ρ' w' st'.H → SR X B n (fun _ => False) ρ' st' a' w' → Q .normal a' w') → wpOpsIn (FW ro) 0 P ops Q idxs a w := by
  intro todo
  induction todo with
  | nil =>
    intro idxs st st' ρ a w hi h S hk
    cases h
    have : idxs = [] := by simpa using hi
    subst this
    exact hk ρ a w (Evo.refl _ _ _) S
  | cons o rest ih =>
    intro idxs st st' ρ a w hi h S hk
    cases idxs with
    | nil => simp at hi
    | cons i idxs =>
      simp only [List.map_cons, List.cons.injEq] at hi
      obtain ⟨hi1, hi2⟩ := hi
      have hmem : o ∈ ops := Array.mem_of_getElem? hi1
      rw [aops] at h
      simp only [wpOpsIn, hi1]
      split at h
      · rename_i hw
        rw [if_pos (wanted_ok hw S fun _ _ _ _ _ h => h)]
        split at h
        · rename_i st1 hs
          refine astep_ok hP hN hO hs S (fun _ _ h => h) (hd o hmem) fun ρ' a' w' E S' _ _ => ?_
          exact ih idxs st1 st' ρ' a' w' hi2 h S' fun ρ2 a2 w2 E2 S2 => hk ρ2 a2 w2 (E.trans E2) S2
        · split at h
          · rename_i x hx
            rcases hnd with rfl | hnd
            · exact adfr_ok hP (adfr_aop hx) S (fun _ _ h => h) (hd o hmem) fun a' S' => ih idxs _ st' ρ a' w hi2 h S' hk
            · exact (noDfr_aop hnd hmem hx).elim
          · cases h
      · rename_i hw
        rw [if_neg (by rw [wanted_ok hw S fun _ _ _ _ _ h => h]; simp)]
        exact ⟨fun _ _ => trivial, ih idxs _ st' ρ _ w hi2 h (unwanted_ok S (hd o hmem)) hk⟩
      · cases h
/-- A region that panics. -/
theorem apan_ok (hP : cx.P = P) (hN : Named P) (hO : OracleOk P O) {fn : FuncId} {ops : Array Oper} {ro : Option Nat} {Q : Exit → Act → World → Prop} (hd : ∀ o ∈ ops, ∀ d, o.dst = some d → d < n) (hnd : ro = none ∨ noDfr ops = true) :
    ∀ (todo : List Oper) (idxs : List Nat) (st st' : St) (d : Imm) (ρ : List (Option Nat)) (a : Act) (w : World), idxs.map (ops[·]?) = todo.map some → apan cx O fn ops.toList todo st = some (d, st') → SR X B n (fun _ => False) ρ st a w →
      (∀ ρ' a' w' v, Evo ρ w st.H ρ' w' st'.H → SR X B n (fun _ => False) ρ' st' a' w' → RepI w' (Nof ρ' st'.H X B) (Nqof ρ' st'.H X) d v → Q (.panic [{ v, recovered := false }]) a' w') → wpOpsIn (FW ro) 0 P ops Q idxs a w := by
  intro todo
  induction todo with
  | nil => intro idxs st st' d ρ a w hi h S hk; cases h
  | cons o rest ih =>
    intro idxs st st' d ρ a w hi h S hk
    cases idxs with
    | nil => simp at hi
    | cons i idxs =>
      simp only [List.map_cons, List.cons.injEq] at hi
      obtain ⟨hi1, hi2⟩ := hi
      have hmem : o ∈ ops := Array.mem_of_getElem? hi1
      rw [apan] at h
      simp only [wpOpsIn, hi1]
      split at h
      · rename_i hw
        rw [if_pos (wanted_ok hw S fun _ _ _ _ _ h => h)]
        split at h
        · rename_i st1 hs
          refine astep_ok hP hN hO hs S (fun _ _ h => h) (hd o hmem) fun ρ' a' w' E S' _ _ => ?_
          exact ih idxs st1 st' d ρ' a' w' hi2 h S' fun ρ2 a2 w2 v E2 S2 => hk ρ2 a2 w2 v (E.trans E2) S2
        · split at h
          · rename_i x hx
            rcases hnd with rfl | hnd
            · exact adfr_ok hP (adfr_aop hx) S (fun _ _ h => h) (hd o hmem) fun a' S' => ih idxs _ st' d ρ a' w hi2 h S' hk
            · exact (noDfr_aop hnd hmem hx).elim
          · exact apanOp_ok hP hN hO h S (fun _ _ h => h) fun ρ' w' v E S' hv => hk ρ' a w' v E S' hv
      · rename_i hw
        rw [if_neg (by rw [wanted_ok hw S fun _ _ _ _ _ h => h]; simp)]
        exact ⟨fun _ _ => trivial, ih idxs _ st' d ρ _ w hi2 h (unwanted_ok S (hd o hmem)) hk⟩
      · cases h
end
end Go.Proofs.Ytnbbhbbhgcipjaa.Am

namespace Go.Proofs.Ytnbbhbbhgcipjaa.Am
variable [LFit]
section
variable {P : Program} {X B : Nat → Prop} {ρ : List (Option Nat)} {w : World} {H : AHeap} {cx : Cx} {O : Oracle}

theorem map_ev {fr fr' : Fr} {xs : List Operand} (h : ∀ x ∈ xs, ev fr x = ev fr' x) : xs.map (ev fr) = xs.map (ev fr') := List.map_congr_left h
theorem opt_ev {fr fr' : Fr} {x : Option Operand} (h : ∀ y ∈ x.toArray, ev fr y = ev fr' y) : x.map (ev fr) = x.map (ev fr') := by
  cases x with
  | none => rfl
  | some y => simp [h y (by simp)]
theorem parts_ev {fr fr' : Fr} {ps : Array (Nat × Operand)} (h : ∀ x ∈ (ps.toList.map (·.2)).toArray, ev fr x = ev fr' x) : (ps.toList.map fun (i, x) => (i, ev fr x)) = (ps.toList.map fun (i, x) => (i, ev fr' x)) := by
  apply List.map_congr_left
  rintro ⟨i, x⟩ hx
  have : ev fr x = ev fr' x := h x (by simp; exact ⟨i, by simpa using hx⟩)
  simp [this]
theorem aop_congr {fn : FuncId} {o : Oper} {fr fr' : Fr} (h : ∀ x ∈ o.op.operands, ev fr x = ev fr' x) : aop cx fn o fr H = aop cx fn o fr' H := by
  unfold aop
  cases ho : o.op with
  | move x | assign x | box _ x | load _ x | nilCheck x | unOp _ _ x | convert _ _ x | makeInterface _ x | fieldAddr _ x _ | field _ x _ | extract x _ =>
    rw [ho] at h
    have h1 := h x (by simp [Op.operands])
    simp only [h1]
  | typeAssert x _ _ ok =>
    rw [ho] at h
    have h1 := h x (by simp [Op.operands])
    cases ok
    · rfl
    · simp only [h1]
  | pick c a b =>
    rw [ho] at h
    have h1 := h c (by simp [Op.operands])
    have h2 := h a (by simp [Op.operands])
    have h3 := h b (by simp [Op.operands])
    simp only [h1, h2, h3]
  | build t ps =>
    rw [ho] at h
    have h1 := parts_ev (ps := ps) (by simpa [Op.operands] using h)
    simp only [h1]
  | buildSlice t n ps =>
    rw [ho] at h
    have h1 := parts_ev (ps := ps) (by simpa [Op.operands] using h)
    simp only [h1]
  | store _ a v | binOp _ _ a v _ | makeSlice _ a v | indexAddr _ a v | index _ a v | lookup _ a v _ =>
    rw [ho] at h
    have h1 := h a (by simp [Op.operands])
    have h2 := h v (by simp [Op.operands])
    simp only [h1, h2]
  | mapUpdate _ m k v =>
    rw [ho] at h
    have h1 := h m (by simp [Op.operands])
    have h2 := h k (by simp [Op.operands])
    have h3 := h v (by simp [Op.operands])
    simp only [h1, h2, h3]
  | slice t x lo hi mx =>
    rw [ho] at h
    have h1 := h x (by simp [Op.operands])
    have h2 := opt_ev (x := lo) fun y hy => h y (by simp only [Op.operands, Array.mem_append]; exact .inl (.inl (.inr hy)))
    have h3 := opt_ev (x := hi) fun y hy => h y (by simp only [Op.operands, Array.mem_append]; exact .inl (.inr hy))
    have h4 := opt_ev (x := mx) fun y hy => h y (by simp only [Op.operands, Array.mem_append]; exact .inr hy)
    simp only [h1, h2, h3, h4]
  | makeFunc g first cap =>
    rw [ho] at h
    have h1 := map_ev (xs := cap.toList) fun y hy => h y (by simp only [Op.operands, Array.mem_append]; exact .inr (by simpa using hy))
    cases g <;> simp only [h1]
  | call c =>
    rw [ho] at h
    obtain ⟨cl, args, ats⟩ := c
    have h1 := map_ev (xs := args.toList) fun y hy => h y (by simp only [Op.operands, Call.operands, Array.mem_append]; exact .inr (by simpa using hy))
    cases cl with
    | value f =>
      have h2 := h f (by simp [Op.operands, Call.operands])
      simp only [h1, h2]
    | builtin b => simp only [h1]
    | invoke r nm => rfl
  | defer c =>
    rw [ho] at h
    obtain ⟨cl, args, ats⟩ := c
    have h1 := map_ev (xs := args.toList) fun y hy => h y (by simp only [Op.operands, Call.operands, Array.mem_append]; exact .inr (by simpa using hy))
    cases cl with
    | value f =>
      have h2 := h f (by simp [Op.operands, Call.operands])
      simp only [h1, h2]
    | _ => rfl
  | panic x =>
    rw [ho] at h
    have h1 := h x (by simp [Op.operands])
    simp only [h1]
  | _ => rfl

theorem ev_put {fr : Fr} {d : Tmp} {v : AV} {x : Operand} (h : x ≠ .tmp d) : ev ((d, v) :: fr) x = ev fr x := by
  cases x with
  | tmp t =>
    show Fr.get _ t = Fr.get _ t
    rw [get_put, if_neg fun e => h (by rw [e])]
  | _ => rfl
theorem looks_op {ops : Array Oper} {o : Oper} {d : Tmp} (h : d ∉ o.looksAt ops) : ∀ x ∈ o.op.operands, x ≠ Operand.tmp d := by
  rintro x hx rfl
  exact h (List.mem_append_left _ (List.mem_filterMap.2 ⟨.tmp d, by simpa using hx, rfl⟩))
theorem looks_guard {ops : Array Oper} {o : Oper} {d : Tmp} (h : d ∉ o.looksAt ops) {j : Nat} {want : Bool} (hg : o.guard = some (j, want)) : (ops[j]?).bind (·.dst) ≠ some d := by
  intro hd
  refine h (List.mem_append_right _ ?_)
  simp [hg, hd]
theorem aop_put {fn : FuncId} {ops : Array Oper} {o : Oper} {fr : Fr} {d : Option Tmp} {v : AV} (h : ∀ t, d = some t → t ∉ o.looksAt ops) : aop cx fn o (putT fr d v) H = aop cx fn o fr H := by
  cases d with
  | none => rfl
  | some d => exact aop_congr fun x hx => ev_put (looks_op (h d rfl) x hx)
theorem wantedA_put {ops : Array Oper} {o : Oper} {fr : Fr} {d : Option Tmp} {v : AV} (h : ∀ t, d = some t → t ∉ o.looksAt ops) : wantedA ops.toList o (putT fr d v) = wantedA ops.toList o fr := by
  cases d with
  | none => rfl
  | some d =>
    unfold wantedA
    cases hg : o.guard with
    | none => rfl
    | some jw =>
      obtain ⟨j, want⟩ := jw
      have hne := looks_guard (h d rfl) hg
      simp only [yieldedA, Array.getElem?_toList]
      cases hd : (ops[j]?).bind (·.dst) with
      | none => rfl
      | some t =>
        have : t ≠ d := fun e => hne (by rw [hd, e])
        simp only [putT, get_put, if_neg this]

/-! ### What stays -/
/-- The rows of the list are as they were. -/
def Keeps (rd : List Nat) (H H' : AHeap) : Prop := ∀ l ∈ rd, ∀ o, H[l]? = some o → H'[l]? = some o
variable {H' : AHeap}
theorem rdr_keep {l st : Nat} (hk : ∀ o, H[l]? = some o → H'[l]? = some o) {r : List (List AV) × Nat} (h : rdr H l st = some r) : rdr H' l st = some r := by
  unfold rdr at h ⊢
  split at h
  · rename_i es z t ho
    rw [hk _ ho]; exact h
  · cases h
theorem live_keep {l st : Nat} (hk : ∀ o, H[l]? = some o → H'[l]? = some o) (h : live H l st = true) : live H' l st = true := by
  unfold live at h ⊢
  rw [Option.isSome_iff_exists] at h ⊢
  obtain ⟨r, h⟩ := h
  exact ⟨r, rdr_keep hk h⟩

theorem loc_ptr {v : AV} {l st j off : Nat} (h : v = .ptr l st j off) : l ∈ v.loc := by subst h; simp [AV.loc]
theorem abuildSlice_im {t n : Nat} {ps : List (Nat × AV)} {mt : Bool} {d : Imm} {H0 : AHeap} (h : abuildSlice P t n ps H mt = some (.im d, H0)) : H0 = H ∧ abuildSlice P t n ps H' mt = some (.im d, H') := by
  unfold abuildSlice at h ⊢
  simp only [Option.bind_eq_bind, Option.bind_eq_some_iff] at h
  obtain ⟨e, he, z, hz, es, hes, h⟩ := h
  simp only [Option.bind_eq_bind, he, hz, hes, Option.bind_some]
  split at h
  · rename_i hc
    rw [if_pos hc]
    split at h
    · rename_i ds hds
      cases h
      exact ⟨rfl, rfl⟩
    · cases h
  · cases h
theorem vmap {f f' : Option AV} {H0 : AHeap} {v : AV} (hf : ∀ y, f = some y → f' = some y) (h : (f.map fun x => AO.val x H) = some (.val v H0)) : H0 = H ∧ (f'.map fun x => AO.val x H') = some (.val v H') := by
  rw [Option.map_eq_some_iff] at h
  obtain ⟨y, hy, e⟩ := h
  cases e
  rw [hf _ hy]
  exact ⟨rfl, rfl⟩
/-- An operation that may come early (no alloc): the heap stays, and it yields the same in one that keeps what it reads. -/
theorem aop_keep {fn : FuncId} {o : Oper} {fr : Fr} {H0 Hx : AHeap} {v : AV} (hm : mob0 cx fn o = true) (hna : ∀ e, o.op ≠ .alloc e) (hb : (∃ t n ps, o.op = .buildSlice t n ps) → ∃ d, v = .im d) (h : aop cx fn o fr H = some (.val v H0)) (hk : Keeps (rdA o fr Hx) H H') :
    H0 = H ∧ aop cx fn o fr H' = some (.val v H') := by
  unfold aop at h ⊢
  unfold mob0 at hm
  unfold rdA at hk
  cases ho : o.op with
  | move x =>
    simp only [ho] at h ⊢
    exact vmap (fun _ h => h) h
  | assign x =>
    simp only [ho] at h hm ⊢
    cases hd : o.dst with
    | none => simp only [hd] at h ⊢; exact vmap (fun _ h => h) h
    | some d =>
      have hv : cx.vrow fn d = false := by simpa [hd] using hm
      simp only [hd, hv] at h ⊢
      exact vmap (fun _ h => h) h
  | pick c a b =>
    simp only [ho] at h ⊢
    cases hc : abool (ev fr c) with
    | none => rw [hc] at h; cases h
    | some t =>
      rw [hc] at h
      simp only [Option.bind_some] at h ⊢
      split at h <;> exact vmap (fun _ h => h) h
  | alloc e => exact absurd ho (hna e)
  | buildSlice t n ps =>
    simp only [ho, Option.map_eq_some_iff, AO.val.injEq] at h ⊢
    obtain ⟨⟨v', H1⟩, h1, rfl, rfl⟩ := h
    obtain ⟨d, rfl⟩ := hb ⟨_, _, _, ho⟩
    obtain ⟨h2, h3⟩ := abuildSlice_im (H' := H') h1
    exact ⟨h2, _, h3, rfl, rfl⟩
  | build t ps =>
    simp only [ho] at h ⊢
    exact vmap (fun _ h => h) h
  | load t x =>
    simp only [ho] at h hk ⊢
    refine vmap (fun y hy => ?_) h
    unfold aload at hy ⊢
    split at hy
    · exact hy
    · rename_i l st j off he
      rw [he] at hk
      simp only [Option.bind_eq_bind, Option.bind_eq_some_iff] at hy ⊢
      obtain ⟨r, hr, hy⟩ := hy
      exact ⟨r, rdr_keep (hk l (by simp [AV.loc])) hr, hy⟩
    · cases hy
  | nilCheck x =>
    simp only [ho] at h hk ⊢
    split at h
    · rename_i l st j off he
      rw [he] at hk
      split at h
      · rename_i hl
        rw [if_pos (live_keep (hk l (by simp [AV.loc])) hl)]
        exact vmap (fun _ h => h) h
      · cases h
    · exact vmap (fun _ h => h) h
    · cases h
  | binOp op t x y yt =>
    simp only [ho] at h ⊢
    exact vmap (fun _ h => h) h
  | unOp op t x =>
    simp only [ho] at h ⊢
    exact vmap (fun _ h => h) h
  | convert s d x =>
    simp only [ho] at h ⊢
    exact vmap (fun _ h => h) h
  | makeInterface t x =>
    simp only [ho] at h ⊢
    split at h
    · cases h
    · exact vmap (fun _ h => h) h
    · cases h
  | makeFunc g first cap =>
    cases g with
    | func g =>
      simp only [ho] at h ⊢
      split at h
      · rename_i hf
        rw [if_pos hf]
        exact vmap (fun _ h => h) h
      · cases h
    | _ => simp only [ho] at h; cases h
  | slice t x lo hi mx =>
    simp only [ho] at h hk ⊢
    split at h
    · cases h
    · rename_i hc
      rw [if_neg hc]
      refine vmap (fun y hy => ?_) h
      unfold aslice at hy ⊢
      split at hy
      · exact hy
      · exact hy
      · rename_i e l0 st j n hu he
        rw [he] at hk
        simp only [Option.bind_eq_bind, Option.bind_eq_some_iff] at hy ⊢
        obtain ⟨a, ha, b, hb, hy⟩ := hy
        refine ⟨a, ha, b, hb, ?_⟩
        split at hy
        · rename_i hc2
          obtain ⟨c1, c2, c3, c4⟩ := hc2
          have hl := live_keep (H' := H') (hk l0 (by simp [AV.loc])) c3
          have hr : (rdr H' l0 st).map (·.2) = szOf cx.P e := by
            cases hr : rdr H l0 st with
            | none => unfold live at c3; rw [hr] at c3; cases c3
            | some r => rw [hr] at c4; rw [rdr_keep (hk l0 (by simp [AV.loc])) hr]; exact c4
          rw [if_pos ⟨c1, c2, hl, hr⟩]
          exact hy
        · cases hy
      · exact hy
      · cases hy
  | fieldAddr t x f =>
    simp only [ho] at h hk ⊢
    refine vmap (fun y hy => ?_) h
    unfold afieldAddr at hy ⊢
    simp only [Option.bind_eq_bind, Option.bind_eq_some_iff] at hy ⊢
    obtain ⟨a, ha, b, hb, hy⟩ := hy
    refine ⟨a, ha, b, hb, ?_⟩
    split at hy
    · cases hy
    · rename_i hn
      rw [if_neg hn]
      split at hy
      · rename_i l st j off he
        rw [he] at hk
        split at hy
        · rename_i hl
          rw [if_pos (live_keep (hk l (by simp [AV.loc])) hl)]; exact hy
        · cases hy
      · exact hy
      · cases hy
  | field t x f =>
    simp only [ho] at h ⊢
    exact vmap (fun _ h => h) h
  | indexAddr t x i =>
    simp only [ho] at h hk ⊢
    refine vmap (fun y hy => ?_) h
    unfold aindexAddr at hy ⊢
    simp only [Option.bind_eq_bind, Option.bind_eq_some_iff] at hy ⊢
    obtain ⟨a, ha, hy⟩ := hy
    refine ⟨a, ha, ?_⟩
    split at hy
    · rename_i e hu
      split at hy
      · exact hy
      · rename_i l st j n he
        rw [he] at hk
        split at hy
        · rename_i hc
          obtain ⟨c1, c2, c3, c4⟩ := hc
          have hl := live_keep (H' := H') (hk l (by simp [AV.loc])) c3
          have hr : (rdr H' l st).map (·.2) = szOf cx.P e := by
            cases hr : rdr H l st with
            | none => unfold live at c3; rw [hr] at c3; cases c3
            | some r => rw [hr] at c4; rw [rdr_keep (hk l (by simp [AV.loc])) hr]; exact c4
          rw [if_pos ⟨c1, c2, hl, hr⟩]
          exact hy
        · cases hy
      · cases hy
    · simp only [Option.bind_eq_some_iff] at hy ⊢
      obtain ⟨z, hz, hy⟩ := hy
      refine ⟨z, hz, ?_⟩
      split at hy
      · exact hy
      · rename_i l st j off he
        rw [he] at hk
        split at hy
        · rename_i hc
          obtain ⟨c1, c2, c3⟩ := hc
          rw [if_pos ⟨c1, c2, live_keep (hk l (by simp [AV.loc])) c3⟩]
          exact hy
        · cases hy
      · cases hy
    · cases hy
  | index t x i =>
    simp only [ho] at h ⊢
    exact vmap (fun _ h => h) h
  | lookup t x i ok =>
    simp only [ho] at h hk ⊢
    refine vmap (fun y hy => ?_) h
    unfold alookup at hy ⊢
    split at hy
    · split at hy
      · rename_i hko
        rw [if_pos hko]
        simp only [Option.bind_eq_some_iff] at hy ⊢
        obtain ⟨z, hz, m, hm', hy⟩ := hy
        refine ⟨z, hz, m, ?_, hy⟩
        unfold mapOf at hm' ⊢
        split at hm'
        · exact hm'
        · exact hm'
        · rename_i l he
          rw [he] at hk
          split at hm'
          · rename_i ks vs hl
            rw [hk l (by simp [AV.loc]) _ hl]; exact hm'
          · cases hm'
        · cases hm'
      · cases hy
    · cases hy
  | extract t i =>
    simp only [ho] at h ⊢
    split at h
    · exact vmap (fun _ h => h) h
    · exact vmap (fun _ h => h) h
    · cases h
  | call c =>
    obtain ⟨cl, args, ats⟩ := c
    cases cl with
    | value f => simp only [ho] at hm; cases hm
    | invoke r nm => simp only [ho] at hm; cases hm
    | builtin b =>
      simp only [ho] at h hk ⊢
      cases b with
      | len =>
        cases hx : args.toList.map (ev fr) with
        | nil => simp only [hx] at h; cases h
        | cons x xs =>
          cases xs with
          | cons => simp only [hx] at h; cases h
          | nil =>
            cases ht : ats.toList with
            | nil => simp only [hx, ht] at h; cases h
            | cons t ts =>
              cases ts with
              | cons => simp only [hx, ht] at h; cases h
              | nil =>
                simp only [hx, ht] at h ⊢
                have hl : ∀ l ∈ x.loc, l ∈ args.toList.flatMap fun x => (ev fr x).loc := by
                  intro l hl
                  have hxm : x ∈ args.toList.map (ev fr) := by rw [hx]; simp
                  obtain ⟨y, hy, rfl⟩ := List.mem_map.1 hxm
                  exact List.mem_flatMap.2 ⟨y, hy, hl⟩
                refine vmap (fun y hy => ?_) h
                unfold alen at hy ⊢
                split at hy <;> try exact hy
                · rename_i l st j n _
                  split at hy
                  · rename_i hlv
                    rw [if_pos (live_keep (hk l (hl l (by simp [AV.loc]))) hlv)]; exact hy
                  · cases hy
                · rename_i l _
                  split at hy
                  · rename_i ks vs ho'
                    rw [hk l (hl l (by simp [AV.loc])) _ ho']; exact hy
                  · cases hy
      | max => exact vmap (fun _ h => h) h
      | min => exact vmap (fun _ h => h) h
      | _ => simp only [ho] at hm; cases hm
  | _ => simp only [ho] at hm; cases hm

/-- All but the rows of the list are as they were. -/
def Turns (wr : List Nat) (H H' : AHeap) : Prop := ∀ (l : Nat) (o : AObj), l ∉ wr → H[l]? = some o → H'[l]? = some o
theorem Turns.same {wr : List Nat} (h : H' = H) : Turns wr H H' := fun _ _ _ h' => h ▸ h'
theorem Turns.more {wr : List Nat} (os : List AObj) : Turns wr H (H ++ os) := fun l o _ h => by rw [List.getElem?_append_left (List.getElem?_eq_some_iff.1 h).1]; exact h
theorem Turns.set {wr : List Nat} {l : Nat} {o : AObj} (h : l ∈ wr) : Turns wr H (H.set l o) := fun l' o' hl h' => by
  rw [List.getElem?_set_ne (fun e => hl (by rw [← e]; exact h))]; exact h'
theorem vsame {wr : List Nat} {f : Option AV} {v : AV} {H0 : AHeap} (h : (f.map fun x => AO.val x H) = some (.val v H0)) : Turns wr H H0 := .same (vmap (H' := H) (fun _ h => h) h).1
theorem aappend_turns {t : TypeId} {s x v : AV} (h : aappend P t s x H = some (v, H')) : Turns s.loc H H' := by
  unfold aappend at h
  simp only [Option.bind_eq_bind, Option.bind_eq_some_iff] at h
  obtain ⟨e, he, z, hz, by_, hby, ⟨xs, zx⟩, hxs, h⟩ := h
  dsimp only at h
  split at h
  · split at h
    · split at h
      · cases h; exact .same rfl
      · split at h
        · cases h; exact .more _
        · cases h
    · split at h
      · split at h
        · cases h; exact .set (by simp [AV.loc])
        · cases h
      · cases h
    · cases h
  · cases h
theorem aclear_turns {t : TypeId} {x : AV} (h : aclear P t x H = some H') : Turns x.loc H H' := by
  unfold aclear at h
  simp only [Option.bind_eq_bind, Option.bind_eq_some_iff] at h
  obtain ⟨e, he, d, hd, h⟩ := h
  split at h
  · cases h; exact .same rfl
  · split at h
    · split at h
      · cases h; exact .set (by simp [AV.loc])
      · cases h
    · cases h
  · cases h
theorem amakeSlice_turns {t : TypeId} {n c v : AV} {wr : List Nat} (h : amakeSlice P t n c H = some (v, H')) : Turns wr H H' := by
  unfold amakeSlice at h
  simp only [Option.bind_eq_bind, Option.bind_eq_some_iff] at h
  obtain ⟨e, he, z, hz, b, hb, d, hd, n, hn, c, hc, h⟩ := h
  split at h
  · cases h; exact .more _
  · cases h
theorem abuildSlice_turns {t n : Nat} {ps : List (Nat × AV)} {mt : Bool} {v : AV} {wr : List Nat} (h : abuildSlice P t n ps H mt = some (v, H')) : Turns wr H H' := by
  unfold abuildSlice at h
  simp only [Option.bind_eq_bind, Option.bind_eq_some_iff] at h
  obtain ⟨e, he, z, hz, es, hes, h⟩ := h
  split at h
  · split at h
    · cases h; exact .same rfl
    · cases h; exact .more _
  · cases h
theorem astore_turns {t : TypeId} {a v : AV} (h : astore P t H a v = some H') : Turns a.loc H H' := by
  unfold astore at h
  split at h
  · split at h
    · simp only [Option.bind_eq_bind, Option.bind_eq_some_iff] at h
      obtain ⟨cs, hcs, h⟩ := h
      split at h
      · cases h; exact .set (by simp [AV.loc])
      · cases h
    · cases h
  · cases h
theorem amapUpdate_turns {t : TypeId} {x ix v : AV} (h : amapUpdate P t x ix v H = some H') : Turns x.loc H H' := by
  unfold amapUpdate at h
  split at h
  · split at h
    · split at h
      · split at h
        · cases h; exact .set (by simp [AV.loc])
        · cases h; exact .set (by simp [AV.loc])
        · cases h
      · cases h
    · cases h
  · cases h
theorem vhmap {f : Option (AV × AHeap)} {v : AV} {H0 : AHeap} (h : (f.map fun x => AO.val x.1 x.2) = some (.val v H0)) : f = some (v, H0) := by
  rw [Option.map_eq_some_iff] at h
  obtain ⟨⟨a, b⟩, h1, h2⟩ := h
  cases h2; exact h1
theorem args_loc {fr : Fr} {args : List Operand} {x : AV} (hx : x ∈ args.map (ev fr)) : ∀ l ∈ x.loc, l ∈ args.flatMap fun x => (ev fr x).loc := by
  intro l hl
  obtain ⟨y, hy, rfl⟩ := List.mem_map.1 hx
  exact List.mem_flatMap.2 ⟨y, hy, hl⟩
theorem Turns.mono {wr wr' : List Nat} (h : Turns wr H H') (hs : ∀ l ∈ wr, l ∈ wr') : Turns wr' H H' := fun l o hl ho => h l o (fun h' => hl (hs l h')) ho
/-- What an operation that yields a value turns. -/
theorem aop_turns {fn : FuncId} {o : Oper} {st : St} {H0 : AHeap} {v : AV} {wr : List Nat} (hw : wrA cx fn o st = some wr) (h : aop cx fn o st.fr st.H = some (.val v H0)) : Turns wr st.H H0 := by
  have h' := h
  unfold aop at h
  unfold wrA at hw
  cases ho : o.op with
  | assign x =>
    simp only [ho] at h
    split at h
    · simp only [Option.bind_eq_some_iff] at h
      obtain ⟨e, he, z, hz, h⟩ := h
      cases h; exact .more _
    · exact vsame h
  | pick c a b =>
    simp only [ho] at h
    cases hc : abool (ev st.fr c) with
    | none => rw [hc] at h; cases h
    | some t =>
      rw [hc] at h
      simp only [Option.bind_some] at h
      split at h <;> exact vsame h
  | alloc e =>
    simp only [ho, Option.bind_eq_bind, Option.bind_eq_some_iff] at h
    obtain ⟨z, hz, n, hn, h⟩ := h
    split at h
    · simp only [Option.bind_eq_some_iff] at h
      obtain ⟨z', hz', h⟩ := h
      split at h
      · cases h; exact .more _
      · cases h
    · split at h
      · cases h; exact .more _
      · cases h
  | box e x =>
    simp only [ho] at h
    split at h
    · split at h
      · exact vsame h
      · cases h; exact .more _
    · cases h
  | buildSlice t n ps => simp only [ho] at h; exact abuildSlice_turns (vhmap h)
  | makeSlice t n c => simp only [ho] at h; exact amakeSlice_turns (vhmap h)
  | makeMap t r =>
    simp only [ho] at h
    split at h
    · cases h; exact .more _
    · cases h
  | nilCheck x =>
    simp only [ho] at h
    split at h
    · split at h
      · exact vsame h
      · cases h
    · exact vsame h
    · cases h
  | makeInterface t x =>
    simp only [ho] at h
    split at h
    · cases h
    · exact vsame h
    · cases h
  | makeFunc g first cap =>
    cases g with
    | func g =>
      simp only [ho] at h
      split at h
      · exact vsame h
      · cases h
    | _ => simp only [ho] at h; cases h
  | slice t x lo hi mx =>
    simp only [ho] at h
    split at h
    · cases h
    · exact vsame h
  | extract t i =>
    simp only [ho] at h
    split at h
    · exact vsame h
    · exact vsame h
    · cases h
  | typeAssert x xt u ok =>
    cases ok
    · simp only [ho] at h; cases h
    · simp only [ho] at h
      split at h
      · cases h
      · split at h
        · exact vsame h
        · cases h
      · cases h
  | move x | build t ps | load t x | binOp op t x y yt | unOp op t x | convert s d x | fieldAddr t x f | field t x f | indexAddr t x i | index t x i | lookup t x i ok => simp only [ho] at h; exact vsame h
  | store t a x => simp only [ho, Option.map_eq_some_iff] at h; obtain ⟨_, _, h⟩ := h; cases h
  | mapUpdate t m k x => simp only [ho, Option.map_eq_some_iff] at h; obtain ⟨_, _, h⟩ := h; cases h
  | call c =>
    obtain ⟨cl, args, ats⟩ := c
    cases cl with
    | value f => simp only [ho, Option.map_eq_some_iff] at h; obtain ⟨_, _, h⟩ := h; cases h
    | invoke r nm => simp only [ho] at h; cases h
    | builtin b =>
      simp only [ho, Option.some.injEq] at h hw
      subst hw
      split at h
      · exact vsame h
      · rename_i x t hx ht
        simp only [Option.map_eq_some_iff, AO.val.injEq] at h
        obtain ⟨H1, h1, _, rfl⟩ := h
        exact (aclear_turns h1).mono (args_loc (by rw [hx]; simp))
      · rename_i s x t t' hx ht
        split at h
        · exact (aappend_turns (vhmap h)).mono (args_loc (by rw [hx]; simp))
        · cases h
      · exact vsame h
      · exact vsame h
      · cases h
  | defer c => obtain ⟨cl, args, ats⟩ := c; cases cl <;> simp only [ho] at h <;> first | (split at h <;> cases h) | cases h
  | panic x => simp only [ho] at h; split at h <;> cases h
  | _ => simp only [ho] at h; cases h
theorem acall_view {f : FuncId} {args : List AV} {v : AV} (h : acall cx O (.fn f args) H = some (v, H')) (hv : (viaView cx (.fn f args) H).isSome = true) {wr : List Nat} : Turns wr H H' := by
  unfold acall at h
  dsimp only at h
  split at h
  · split at h
    · split at h
      · split at h
        · cases h; exact .same rfl
        · cases h
      · split at h
        · cases h; exact .more _
        · cases h
      · cases h
    · cases h
  · rename_i hn; rw [hn] at hv; cases hv
theorem vnot {f : Option AV} {H0 : AHeap} (h : (f.map fun x => AO.val x H) = some (.skip H0)) : False := by
  rw [Option.map_eq_some_iff] at h
  obtain ⟨_, _, h⟩ := h
  cases h
theorem vhnot {f : Option (AV × AHeap)} {H0 : AHeap} (h : (f.map fun x => AO.val x.1 x.2) = some (.skip H0)) : False := by
  rw [Option.map_eq_some_iff] at h
  obtain ⟨_, _, h⟩ := h
  cases h
theorem vcal {f : Option AV} {r : Req} (h : (f.map fun x => AO.val x H) = some (.call r)) : False := by
  rw [Option.map_eq_some_iff] at h
  obtain ⟨_, _, h⟩ := h
  cases h
theorem vhcal {f : Option (AV × AHeap)} {r : Req} (h : (f.map fun x => AO.val x.1 x.2) = some (.call r)) : False := by
  rw [Option.map_eq_some_iff] at h
  obtain ⟨_, _, h⟩ := h
  cases h
theorem astep_turns {fn : FuncId} {o : Oper} {st st' : St} {wr : List Nat} (hw : wrA cx fn o st = some wr) (h : astep cx O fn o st = some st') : Turns wr st.H st'.H := by
  unfold astep at h
  split at h
  · rename_i v H0 ha
    cases h
    exact aop_turns hw ha
  · rename_i H0 ha
    cases h
    unfold aop at ha
    unfold wrA at hw
    cases ho : o.op with
    | store t a x =>
      simp only [ho, Option.some.injEq] at ha hw
      subst hw
      rw [Option.map_eq_some_iff] at ha
      obtain ⟨H1, h1, h2⟩ := ha
      cases h2
      exact astore_turns h1
    | mapUpdate t m k x =>
      simp only [ho, Option.some.injEq] at ha hw
      subst hw
      rw [Option.map_eq_some_iff] at ha
      obtain ⟨H1, h1, h2⟩ := ha
      cases h2
      exact amapUpdate_turns h1
    | assign x =>
      simp only [ho] at ha
      split at ha
      · simp only [Option.bind_eq_some_iff] at ha
        obtain ⟨e, he, z, hz, ha⟩ := ha
        cases ha
      · exact (vnot ha).elim
    | pick c a b =>
      simp only [ho, Option.bind_eq_some_iff] at ha
      obtain ⟨t, ht, ha⟩ := ha
      split at ha <;> exact (vnot ha).elim
    | alloc e =>
      simp only [ho, Option.bind_eq_bind, Option.bind_eq_some_iff] at ha
      obtain ⟨z, hz, n, hn, ha⟩ := ha
      split at ha
      · simp only [Option.bind_eq_some_iff] at ha
        obtain ⟨z', hz', ha⟩ := ha
        split at ha <;> cases ha
      · split at ha <;> cases ha
    | box e x =>
      simp only [ho] at ha
      split at ha
      · split at ha
        · exact (vnot ha).elim
        · cases ha
      · cases ha
    | buildSlice t n ps => simp only [ho] at ha; exact (vhnot ha).elim
    | makeSlice t n c => simp only [ho] at ha; exact (vhnot ha).elim
    | makeMap t r => simp only [ho] at ha; split at ha <;> cases ha
    | nilCheck x =>
      simp only [ho] at ha
      split at ha
      · split at ha
        · exact (vnot ha).elim
        · cases ha
      · exact (vnot ha).elim
      · cases ha
    | makeInterface t x =>
      simp only [ho] at ha
      split at ha
      · cases ha
      · exact (vnot ha).elim
      · cases ha
    | makeFunc g first cap =>
      cases g with
      | func g =>
        simp only [ho] at ha
        split at ha
        · exact (vnot ha).elim
        · cases ha
      | _ => simp only [ho] at ha; cases ha
    | slice t x lo hi mx =>
      simp only [ho] at ha
      split at ha
      · cases ha
      · exact (vnot ha).elim
    | extract t i =>
      simp only [ho] at ha
      split at ha
      · exact (vnot ha).elim
      · exact (vnot ha).elim
      · cases ha
    | typeAssert x xt u ok =>
      cases ok
      · simp only [ho] at ha; cases ha
      · simp only [ho] at ha
        split at ha
        · cases ha
        · split at ha
          · exact (vnot ha).elim
          · cases ha
        · cases ha
    | move x | build t ps | load t x | binOp op t x y yt | unOp op t x | convert s d x | fieldAddr t x f | field t x f | indexAddr t x i | index t x i | lookup t x i ok => simp only [ho] at ha; exact (vnot ha).elim
    | call c =>
      obtain ⟨cl, args, ats⟩ := c
      cases cl with
      | value f => simp only [ho, Option.map_eq_some_iff] at ha; obtain ⟨_, _, ha⟩ := ha; cases ha
      | invoke r nm => simp only [ho] at ha; cases ha
      | builtin b =>
        simp only [ho] at ha
        split at ha
        · exact (vnot ha).elim
        · simp only [Option.map_eq_some_iff] at ha
          obtain ⟨_, _, ha⟩ := ha; cases ha
        · split at ha
          · exact (vhnot ha).elim
          · cases ha
        · exact (vnot ha).elim
        · exact (vnot ha).elim
        · cases ha
    | defer c => obtain ⟨cl, args, ats⟩ := c; cases cl <;> simp only [ho] at ha <;> first | (split at ha <;> cases ha) | cases ha
    | panic x => simp only [ho] at ha; split at ha <;> cases ha
    | _ => simp only [ho] at ha; cases ha
  · rename_i r ha
    split at h
    · rename_i v H0 hc
      cases h
      obtain ⟨f, args, rfl, hv⟩ : ∃ f args, r = .fn f args ∧ (viaView cx (.fn f args) st.H).isSome = true := by
        have ha' := ha
        unfold aop at ha
        unfold wrA at hw
        cases ho : o.op with
        | call c =>
          obtain ⟨cl, cargs, ats⟩ := c
          cases cl with
          | value f =>
            simp only [ho, ha'] at hw
            split at hw
            · rename_i f' args' e
              split at hw
              · rename_i hv
                cases e
                exact ⟨f', args', rfl, hv⟩
              · cases hw
            · cases hw
          | invoke r nm => simp only [ho] at ha; cases ha
          | builtin b =>
            simp only [ho] at ha
            split at ha
            · simp only [Option.map_eq_some_iff] at ha; obtain ⟨_, _, ha⟩ := ha; cases ha
            · simp only [Option.map_eq_some_iff] at ha; obtain ⟨_, _, ha⟩ := ha; cases ha
            · split at ha
              · simp only [Option.map_eq_some_iff] at ha; obtain ⟨_, _, ha⟩ := ha; cases ha
              · cases ha
            · simp only [Option.map_eq_some_iff] at ha; obtain ⟨_, _, ha⟩ := ha; cases ha
            · simp only [Option.map_eq_some_iff] at ha; obtain ⟨_, _, ha⟩ := ha; cases ha
            · cases ha
        | assign x =>
          simp only [ho] at ha
          split at ha
          · simp only [Option.bind_eq_some_iff] at ha
            obtain ⟨e, he, z, hz, ha⟩ := ha
            cases ha
          · exact (vcal ha).elim
        | pick c a b =>
          simp only [ho, Option.bind_eq_some_iff] at ha
          obtain ⟨t, ht, ha⟩ := ha
          split at ha <;> exact (vcal ha).elim
        | alloc e =>
          simp only [ho, Option.bind_eq_bind, Option.bind_eq_some_iff] at ha
          obtain ⟨z, hz, n, hn, ha⟩ := ha
          split at ha
          · simp only [Option.bind_eq_some_iff] at ha
            obtain ⟨z', hz', ha⟩ := ha
            split at ha <;> cases ha
          · split at ha <;> cases ha
        | box e x =>
          simp only [ho] at ha
          split at ha
          · split at ha
            · exact (vcal ha).elim
            · cases ha
          · cases ha
        | buildSlice t n ps => simp only [ho] at ha; exact (vhcal ha).elim
        | makeSlice t n c => simp only [ho] at ha; exact (vhcal ha).elim
        | makeMap t r => simp only [ho] at ha; split at ha <;> cases ha
        | nilCheck x =>
          simp only [ho] at ha
          split at ha
          · split at ha
            · exact (vcal ha).elim
            · cases ha
          · exact (vcal ha).elim
          · cases ha
        | makeInterface t x =>
          simp only [ho] at ha
          split at ha
          · cases ha
          · exact (vcal ha).elim
          · cases ha
        | makeFunc g first cap =>
          cases g with
          | func g =>
            simp only [ho] at ha
            split at ha
            · exact (vcal ha).elim
            · cases ha
          | _ => simp only [ho] at ha; cases ha
        | slice t x lo hi mx =>
          simp only [ho] at ha
          split at ha
          · cases ha
          · exact (vcal ha).elim
        | extract t i =>
          simp only [ho] at ha
          split at ha
          · exact (vcal ha).elim
          · exact (vcal ha).elim
          · cases ha
        | typeAssert x xt u ok =>
          cases ok
          · simp only [ho] at ha; cases ha
          · simp only [ho] at ha
            split at ha
            · cases ha
            · split at ha
              · exact (vcal ha).elim
              · cases ha
            · cases ha
        | move x | build t ps | load t x | binOp op t x y yt | unOp op t x | convert s d x | fieldAddr t x f | field t x f | indexAddr t x i | index t x i | lookup t x i ok => simp only [ho] at ha; exact (vcal ha).elim
        | store t a x => simp only [ho, Option.map_eq_some_iff] at ha; obtain ⟨_, _, ha⟩ := ha; cases ha
        | mapUpdate t m k x => simp only [ho, Option.map_eq_some_iff] at ha; obtain ⟨_, _, ha⟩ := ha; cases ha
        | defer c => obtain ⟨cl, args, ats⟩ := c; cases cl <;> simp only [ho] at ha <;> first | (split at ha <;> cases ha) | cases ha
        | panic x => simp only [ho] at ha; split at ha <;> cases ha
        | _ => simp only [ho] at ha; cases ha
      exact acall_view hc hv
    · cases h
  · cases h
theorem vany {f : Option AV} {ao : AO} (h : (f.map fun x => AO.val x H) = some ao) : ∃ v H1, ao = .val v H1 := by
  rw [Option.map_eq_some_iff] at h
  obtain ⟨y, _, h⟩ := h
  exact ⟨y, H, h.symm⟩
theorem mob_val {fn : FuncId} {o : Oper} {fr : Fr} {ao : AO} (hm : mob0 cx fn o = true) (h : aop cx fn o fr H = some ao) : ∃ v H1, ao = .val v H1 := by
  unfold aop at h
  unfold mob0 at hm
  cases ho : o.op with
  | assign x =>
    simp only [ho] at h
    split at h
    · simp only [Option.bind_eq_some_iff] at h
      obtain ⟨e, he, z, hz, h⟩ := h
      cases h; exact ⟨_, _, rfl⟩
    · exact vany h
  | pick c a b =>
    simp only [ho, Option.bind_eq_some_iff] at h
    obtain ⟨t, ht, h⟩ := h
    split at h <;> exact vany h
  | alloc e =>
    simp only [ho, Option.bind_eq_bind, Option.bind_eq_some_iff] at h
    obtain ⟨z, hz, n, hn, h⟩ := h
    split at h
    · simp only [Option.bind_eq_some_iff] at h
      obtain ⟨z', hz', h⟩ := h
      split at h
      · cases h; exact ⟨_, _, rfl⟩
      · cases h
    · split at h
      · cases h; exact ⟨_, _, rfl⟩
      · cases h
  | buildSlice t n ps =>
    simp only [ho, Option.map_eq_some_iff] at h
    obtain ⟨⟨y, H1⟩, _, h⟩ := h
    exact ⟨y, H1, h.symm⟩
  | nilCheck x =>
    simp only [ho] at h
    split at h
    · split at h
      · exact vany h
      · cases h
    · exact vany h
    · cases h
  | makeInterface t x =>
    simp only [ho] at h
    split at h
    · cases h
    · exact vany h
    · cases h
  | makeFunc g first cap =>
    cases g with
    | func g =>
      simp only [ho] at h
      split at h
      · exact vany h
      · cases h
    | _ => simp only [ho] at h; cases h
  | slice t x lo hi mx =>
    simp only [ho] at h
    split at h
    · cases h
    · exact vany h
  | extract t i =>
    simp only [ho] at h
    split at h
    · exact vany h
    · exact vany h
    · cases h
  | move x | build t ps | load t x | binOp op t x y yt | unOp op t x | convert s d x | fieldAddr t x f | field t x f | indexAddr t x i | index t x i | lookup t x i ok => simp only [ho] at h; exact vany h
  | call c =>
    obtain ⟨cl, args, ats⟩ := c
    cases cl with
    | value f => simp only [ho] at hm; cases hm
    | invoke r nm => simp only [ho] at h; cases h
    | builtin b =>
      simp only [ho] at h
      split at h
      · exact vany h
      · simp only [ho] at hm; cases hm
      · simp only [ho] at hm; cases hm
      · exact vany h
      · exact vany h
      · cases h
  | _ => simp only [ho] at hm; cases hm
/-- A step of an operation that may come early. -/
theorem mob_step {fn : FuncId} {o : Oper} {st st1 : St} (hm : mob0 cx fn o = true) (hb : bad cx fn o st = false) (hs : astep cx O fn o st = some st1) :
    ((∀ e, o.op ≠ .alloc e) ∧ ∃ v, aop cx fn o st.fr st.H = some (.val v st.H) ∧ ((∃ t n ps, o.op = .buildSlice t n ps) → ∃ d, v = .im d) ∧ st1 = { st with fr := putT st.fr o.dst v, H := st.H }) ∨
    (∃ e z n, o.op = .alloc e ∧ zeroImm cx.P e = some z ∧ z.cells.length = n ∧ st1 = { st with fr := putT st.fr o.dst (.ptr st.H.length 1 0 0), H := st.H ++ [.row [z.cells.map .im] n e] }) := by
  unfold astep at hs
  cases hao : aop cx fn o st.fr st.H with
  | none => rw [hao] at hs; cases hs
  | some ao =>
    obtain ⟨v, H1, rfl⟩ := mob_val hm hao
    rw [hao] at hs
    cases hs
    by_cases hna : ∃ e, o.op = .alloc e
    · obtain ⟨e, he⟩ := hna
      right
      unfold aop at hao
      unfold mob0 at hm
      simp only [he, Option.bind_eq_bind, Option.bind_eq_some_iff] at hao hm
      obtain ⟨z, hz, n, hn, h⟩ := hao
      cases hd : o.dst with
      | none =>
        simp only [hd] at h
        split at h
        · rename_i hz1
          cases h
          exact ⟨e, z, n, he, hz, hz1, rfl⟩
        · cases h
      | some d =>
        rw [hd] at hm
        have hv : cx.vrow fn d = false := by simpa using hm
        simp only [hd, hv] at h
        split at h
        · rename_i hz1
          cases h
          exact ⟨e, z, n, he, hz, hz1, rfl⟩
        · cases h
    · left
      have hna' : ∀ e, o.op ≠ .alloc e := fun e h => hna ⟨e, h⟩
      have him : (∃ t n ps, o.op = .buildSlice t n ps) → ∃ d, v = .im d := by
        rintro ⟨t, n, ps, hbs⟩
        unfold bad at hb
        simp only [hbs, hao] at hb
        split at hb
        · rename_i d H2 e
          cases e
          exact ⟨d, rfl⟩
        · cases hb
      obtain ⟨h1, _⟩ := aop_keep (H' := st.H) (Hx := st.H) hm hna' him hao (fun l _ o h => h)
      subst h1
      exact ⟨hna', v, rfl, him, rfl⟩
end
end Go.Proofs.Ytnbbhbbhgcipjaa.Am

namespace Go.Proofs.Ytnbbhbbhgcipjaa.Am

/-- Is all that it must come after done? -/
def depsIn (o : Oper) (done : List Nat) : Bool := o.after.all fun e => !(Region.binds .any e) || done.contains e.on
/-- May the operations be walked in this order, the others coming late? -/
def schedGo (cx : Cx) (fn : FuncId) (ops : Array Oper) : List Nat → List Nat → Bool
  | [], _ => true
  | i :: rest, done =>
    match ops[i]? with
    | none => false
    | some o => depsIn o done && !(done.contains i) && (mob cx fn o || rest.all fun j => match ops[j]? with | some o' => !(depsIn o' done) | none => false) && schedGo cx fn ops rest (i :: done)
def edge (o : Oper) (i : Nat) : Bool := o.after.any fun e => Region.binds .any e && e.on == i
def apartOk (cx : Cx) (fn : FuncId) (ops : Array Oper) : Bool :=
  ops.toList.zipIdx.all fun (oi, i) =>
    match oi.dst with
    | none => true
    | some d => ops.toList.zipIdx.all fun (oj, j) => (i == j || !(oj.dst == some d)) && (!((oj.looksAt ops).contains d) || (!(i == j) && (edge oj i || (!(mob cx fn oi) && reach ops j ops.size oi))))
def schedOk (cx : Cx) (fn : FuncId) (ops : Array Oper) (σ : List Nat) : Bool :=
  schedGo cx fn ops σ [] && (List.range ops.size).all (fun j => σ.contains j) && apartOk cx fn ops

theorem mob0_of {cx : Cx} {fn : FuncId} {o : Oper} (h : mob cx fn o = true) : mob0 cx fn o = true := by
  unfold mob at h
  rw [Bool.and_eq_true] at h
  exact h.2
theorem apart_get {cx : Cx} {fn : FuncId} {ops : Array Oper} (h : apartOk cx fn ops = true) {i j : Nat} {oi oj : Oper} {d : Tmp} (hi : ops[i]? = some oi) (hj : ops[j]? = some oj) (hd : oi.dst = some d) :
    (i ≠ j → oj.dst ≠ some d) ∧ (d ∈ oj.looksAt ops → i ≠ j ∧ ((∃ e ∈ oj.after, Region.binds .any e = true ∧ e.on = i) ∨ (mob cx fn oi = false ∧ reach ops j ops.size oi = true))) := by
  unfold apartOk at h
  rw [List.all_eq_true] at h
  have h1 := h (oi, i) (List.mem_zipIdx_iff_getElem?.2 (by simpa using hi))
  simp only [hd, List.all_eq_true] at h1
  have h2 := h1 (oj, j) (List.mem_zipIdx_iff_getElem?.2 (by simpa using hj))
  simp only [Bool.and_eq_true, Bool.or_eq_true, Bool.not_eq_true', beq_eq_false_iff_ne, beq_iff_eq] at h2
  refine ⟨fun hne => h2.1.resolve_left hne, fun hl => ?_⟩
  have h3 := h2.2.resolve_left (by simpa using hl)
  refine ⟨h3.1, h3.2.imp (fun h4 => ?_) id⟩
  unfold edge at h4
  rw [Array.any_eq_true'] at h4
  obtain ⟨e, he, h5⟩ := h4
  simp only [Bool.and_eq_true, beq_iff_eq] at h5
  exact ⟨e, he, h5.1, h5.2⟩
theorem depsIn_iff {o : Oper} {done : List Nat} : depsIn o done = true ↔ ∀ e ∈ o.after, Region.binds .any e = true → e.on ∈ done := by
  unfold depsIn
  rw [Array.all_eq_true_iff_forall_mem]
  constructor
  · intro h e he hb
    have := h e he
    simpa [hb] using this
  · intro h e he
    by_cases hb : Region.binds .any e = true
    · simpa [hb] using h e he hb
    · simp [hb]
theorem schedGo_cons {cx : Cx} {fn : FuncId} {ops : Array Oper} {i : Nat} {rest done : List Nat} (h : schedGo cx fn ops (i :: rest) done = true) :
    ∃ o, ops[i]? = some o ∧ depsIn o done = true ∧ i ∉ done ∧ (mob cx fn o = true ∨ ∀ j ∈ rest, ∀ o', ops[j]? = some o' → depsIn o' done = false) ∧ schedGo cx fn ops rest (i :: done) = true := by
  rw [schedGo] at h
  cases ho : ops[i]? with
  | none => rw [ho] at h; cases h
  | some o =>
    rw [ho] at h
    simp only [Bool.and_eq_true, Bool.or_eq_true, Bool.not_eq_true', List.all_eq_true] at h
    obtain ⟨⟨⟨h1, h2⟩, h3⟩, h4⟩ := h
    refine ⟨o, rfl, h1, by simpa using h2, h3.imp id fun h j hj o' ho' => ?_, h4⟩
    have := h j hj
    rw [ho'] at this
    simpa using this
theorem reach_listed {ops : Array Oper} {L : Nat → Prop} (hdown : ∀ (j : Nat) (o : Oper), ops[j]? = some o → L j → ∀ e ∈ o.after, Region.binds .any e = true → L e.on) {i : Nat} :
    ∀ (k : Nat) (o : Oper), (∀ e ∈ o.after, Region.binds .any e = true → L e.on) → reach ops i k o = true → L i
  | 0, _, _, h => by simp [reach] at h
  | k + 1, o, ho, h => by
    rw [reach, Array.any_eq_true'] at h
    obtain ⟨e, he, h⟩ := h
    simp only [Bool.and_eq_true, Bool.or_eq_true, beq_iff_eq, decide_eq_true_eq] at h
    obtain ⟨hb, h⟩ := h
    have hL := ho e he hb
    rcases h with h | ⟨_, h⟩
    · rw [← h]; exact hL
    · cases ho' : ops[e.on]? with
      | none => rw [ho'] at h; cases h
      | some o' =>
        rw [ho'] at h
        exact reach_listed hdown k o' (hdown _ _ ho' hL) h

variable [LFit]
section
variable {P : Program} {X B : Nat → Prop} {ρ : List (Option Nat)} {w : World} {H : AHeap} {cx : Cx} {O : Oracle}
/-- A row comes to be, after all. -/
theorem HRel.come (R : HRel X B ρ w H) {w' : World} {l z : Nat} {es : List (List AV)} {arr : Array Value} {t : TypeId} (hw : HeapIs w w' (w.heap.push (.cells arr t (0, 0)))) (ho : H[l]? = some (.row es z t)) (hl : look ρ l = none) (hne : es ≠ [])
    (hrow : RowRep X B ρ w H z es arr) :
    HRel X B (ρ.set l (some w.heap.size)) w' H ∧ Sees ρ w H (ρ.set l (some w.heap.size)) w' H ∧ Stay w w' (Nof ρ H X B) (Nqof ρ H X) (Nof (ρ.set l (some w.heap.size)) H X B) (Nqof (ρ.set l (some w.heap.size)) H X) ∧
      ∀ ρ0 w0 H0, Evo ρ0 w0 H0 ρ w H → H0.length ≤ l → Evo ρ0 w0 H0 (ρ.set l (some w.heap.size)) w' H := by
  have hlH : l < H.length := (List.getElem?_eq_some_iff.1 ho).1
  have hlρ : l < ρ.length := by rw [R.len]; exact hlH
  have hlook : ∀ l', look (ρ.set l (some w.heap.size)) l' = if l' = l then some w.heap.size else look ρ l' := by
    intro l'
    by_cases e : l' = l
    · subst e; rw [if_pos rfl, look_set hlρ]
    · rw [if_neg e, look_set_ne (Ne.symm e)]
  have hown : ∀ b, Own (ρ.set l (some w.heap.size)) H b → b = w.heap.size ∨ Own ρ H b := by
    rintro b ⟨l', o', h1, h2, h3⟩
    rw [hlook] at h3
    split at h3
    · cases h3; exact .inl rfl
    · exact .inr ⟨l', o', h1, h2, h3⟩
  have hsz : w.heap.size < w'.heap.size := by rw [hw.size_push]; omega
  have S : Sees ρ w H (ρ.set l (some w.heap.size)) w' H :=
    { len := Nat.le_refl _
      row := fun l' es' z' t' _ h => ⟨es', h, Nat.le_refl _, fun _ => ⟨by
        rw [hlook]
        by_cases e : l' = l
        · subst e; rw [ho] at h; cases h; exact .inr ⟨hl, hne⟩
        · rw [if_neg e]; exact .inl rfl, fun b arr' _ ha => ⟨arr', (hw.old (Array.getElem?_eq_some_iff.1 ha).1).trans ha, rfl⟩⟩⟩
      map := fun l' ks vs _ h => ⟨ks, vs, h, by
        rw [hlook, if_neg]; rintro rfl; rw [ho] at h; cases h⟩
      loop := fun l' s p fn fr ps a b d _ h => ⟨s, p, fn, fr, ps, a, b, d, h, by
        rw [hlook, if_neg]; rintro rfl; rw [ho] at h; cases h⟩ }
  have St : Stay w w' (Nof ρ H X B) (Nqof ρ H X) (Nof (ρ.set l (some w.heap.size)) H X B) (Nqof (ρ.set l (some w.heap.size)) H X) :=
    { size := Nat.le_of_lt hsz
      same := fun b hb _ => hw.old hb
      sub := fun b hb h => h.imp (fun h => (hown b h).resolve_left (by omega)) id
      subq := fun b hb h => h.imp (fun h => (hown b h).resolve_left (by omega)) id
      le := fun b h => h.imp id .inl }
  refine ⟨⟨fun b hb => Nat.lt_trans (R.xlt b hb) hsz, fun b hb => Nat.lt_trans (R.blt b hb) hsz, by simp [R.len], fun b hb => ?_, fun l1 l2 o1 o2 b h1 h2 h3 h4 h5 h6 => ?_, fun l' o' h => ?_⟩, S, St, fun ρ0 w0 H0 E hle => ?_⟩
  · rcases hown b hb with rfl | hb
    · exact ⟨hsz, fun h => Nat.lt_irrefl _ (R.xlt _ h), fun h => Nat.lt_irrefl _ (R.blt _ h)⟩
    · obtain ⟨h1, h2⟩ := R.own b hb
      exact ⟨Nat.lt_trans h1 hsz, h2⟩
  · rw [hlook] at h3 h6
    have hno : ∀ l' o', H[l']? = some o' → o'.live = true → look ρ l' = some w.heap.size → False := fun l' o' h1 h2 h3 => Nat.lt_irrefl _ (R.own _ ⟨l', o', h1, h2, h3⟩).1
    split at h3 <;> split at h6
    · rename_i e1 e2; exact e1.trans e2.symm
    · cases h3; exact (hno _ _ h4 h5 h6).elim
    · cases h6; exact (hno _ _ h1 h2 h3).elim
    · exact R.inj l1 l2 o1 o2 b h1 h2 h3 h4 h5 h6
  · by_cases e : l' = l
    · subst e
      rw [ho] at h; cases h
      refine .inr ⟨w.heap.size, arr, by rw [hlook, if_pos rfl], hw.new, hrow.1, hrow.2.1, fun j e m c hj hm => ?_⟩
      obtain ⟨u, hu, h1, h2⟩ := hrow.2.2 j e m c hj hm
      exact ⟨u, hu, h1, RepA.monoS S St _ _ h2⟩
    · by_cases hlive : o'.live = true
      · exact RepO.monoS S St (by rw [hlook, if_neg e]) (fun b hb => hw.old (R.own b ⟨l', o', h, hlive, hb⟩).1) (R.obj l' o' h)
      · cases o' <;> simp [AObj.live] at hlive
        trivial
  · exact
    { os := hw.os.trans E.os, tape := hw.tape.trans E.tape, output := hw.output.trans E.output
      size := Nat.le_trans E.size (Nat.le_of_lt hsz)
      same := fun b hb hn => (hw.old (Nat.lt_of_lt_of_le hb E.size)).trans (E.same b hb hn)
      len := E.len
      obj := fun l' o' h => by
        obtain ⟨o2, h2, e2⟩ := E.obj l' o' h
        have hl' : l' < H0.length := (List.getElem?_eq_some_iff.1 h).1
        exact ⟨o2, h2, e2.trans (OEvo.keep (by rw [hlook, if_neg (by omega)]) fun b _ _ _ ha => hw.old (Array.getElem?_eq_some_iff.1 ha).1)⟩
      fresh := fun b hb hlt => by
        rcases hown b hb with rfl | hb
        · have := E.size; omega
        · exact E.fresh b hb hlt }
end
end Go.Proofs.Ytnbbhbbhgcipjaa.Am

namespace Go.Proofs.Ytnbbhbbhgcipjaa.Am
variable [LFit]
section
variable {P : Program} {X B : Nat → Prop} {ρ : List (Option Nat)} {w : World} {H : AHeap} {cx : Cx} {O : Oracle}
variable (cx : Cx) (fn : FuncId) (ops : Array Oper)

def PendU (st : St) (o : Oper) : Prop := wantedA ops.toList o st.fr = some false ∧ ∀ d, o.dst = some d → Fr.get st.fr d = .im .und
def PendV (E : List (Nat × List Nat)) (p : Nat) (st : St) (o : Oper) : Prop :=
  wantedA ops.toList o st.fr = some true ∧ mob cx fn o = true ∧ (∀ e, o.op ≠ .alloc e) ∧ ∃ v, aop cx fn o st.fr st.H = some (.val v st.H) ∧ ((∃ t n ps, o.op = .buildSlice t n ps) → ∃ d, v = .im d) ∧
    (∀ d, o.dst = some d → Fr.get st.fr d = v) ∧ (p, rdA o st.fr st.H) ∈ E
def PendA (E : List (Nat × List Nat)) (p l : Nat) (ρ : List (Option Nat)) (h0 : Nat) (st : St) (o : Oper) : Prop :=
  wantedA ops.toList o st.fr = some true ∧ ∃ e z n, o.op = .alloc e ∧ zeroImm cx.P e = some z ∧ z.cells.length = n ∧ st.H[l]? = some (.row [z.cells.map .im] n e) ∧ look ρ l = none ∧ h0 ≤ l ∧
    (∀ d, o.dst = some d → Fr.get st.fr d = .ptr l 1 0 0) ∧ (p, [l]) ∈ E
def Pend (E : List (Nat × List Nat)) (p : Nat) (l : Option Nat) (ρ : List (Option Nat)) (h0 : Nat) (st : St) (o : Oper) : Prop :=
  PendU ops st o ∨ PendV cx fn ops E p st o ∨ ∃ l', l = some l' ∧ PendA cx ops E p l' ρ h0 st o
variable {cx fn ops}

theorem rdA_H {o : Oper} {fr : Fr} (hna : ∀ e, o.op ≠ .alloc e) (H H' : AHeap) : rdA o fr H = rdA o fr H' := by
  unfold rdA
  cases ho : o.op <;> first | rfl | exact absurd ho (hna _)
theorem rdA_put {o : Oper} {fr : Fr} {d : Option Tmp} {v : AV} (h : ∀ t, d = some t → t ∉ o.looksAt ops) : rdA o (putT fr d v) H = rdA o fr H := by
  cases d with
  | none => rfl
  | some d =>
    have hx := looks_op (h d rfl)
    unfold rdA
    cases ho : o.op with
    | load t x => rw [ho] at hx; simp only [putT, ev_put (hx x (by simp [Op.operands]))]
    | nilCheck x => rw [ho] at hx; simp only [putT, ev_put (hx x (by simp [Op.operands]))]
    | fieldAddr t x f => rw [ho] at hx; simp only [putT, ev_put (hx x (by simp [Op.operands]))]
    | indexAddr t x i => rw [ho] at hx; simp only [putT, ev_put (hx x (by simp [Op.operands]))]
    | lookup t x i ok => rw [ho] at hx; simp only [putT, ev_put (hx x (by simp [Op.operands]))]
    | slice t x lo hi mx => rw [ho] at hx; simp only [putT, ev_put (hx x (by simp only [Op.operands, Array.mem_append]; exact .inl (.inl (.inl (by simp)))))]
    | call c =>
      rw [ho] at hx
      have : ∀ x ∈ c.args.toList, ev ((d, v) :: fr) x = ev fr x := fun x hxm => ev_put (hx x (by simp only [Op.operands, Call.operands, Array.mem_append]; exact .inr (by simpa using hxm)))
      simp only [putT, List.flatMap_def]
      rw [List.map_congr_left (g := fun x => (ev fr x).loc) fun x hxm => by rw [this x hxm]]
    | _ => rfl
theorem get_putT {fr : Fr} {d : Option Tmp} {v : AV} {t : Tmp} (h : d ≠ some t) : Fr.get (putT fr d v) t = Fr.get fr t := by
  cases d with
  | none => rfl
  | some d => simp only [putT, get_put]; rw [if_neg fun e => h (by rw [e])]
theorem get_putT_self {fr : Fr} {v : AV} {t : Tmp} : Fr.get (putT fr (some t) v) t = v := by simp [putT, get_put]

/-- What is pending stays so, when another one is walked. -/
theorem Pend.keep {E E1 : List (Nat × List Nat)} {p h0 : Nat} {l : Option Nat} {ρ1 : List (Option Nat)} {st : St} {o : Oper} {d : Option Tmp} {v : AV} {H1 : AHeap} (h : Pend cx fn ops E p l ρ h0 st o) (h1 : ∀ t, d = some t → t ∉ o.looksAt ops) (h2 : ∀ t, o.dst = some t → d ≠ some t)
    (hE : ∀ x ∈ E, x ∈ E1) (hk : ∀ rd, (p, rd) ∈ E → Keeps rd st.H H1) (hl : ∀ (l : Nat) (es : List (List AV)) (z : Nat) (t : TypeId), st.H[l]? = some (.row es z t) → H1[l]? = some (.row es z t) → look ρ1 l = look ρ l) :
    Pend cx fn ops E1 p l ρ1 h0 { st with fr := putT st.fr d v, H := H1 } o := by
  have hw : wantedA ops.toList o (putT st.fr d v) = wantedA ops.toList o st.fr := wantedA_put h1
  have hg : ∀ t, o.dst = some t → Fr.get (putT st.fr d v) t = Fr.get st.fr t := fun t ht => get_putT (h2 t ht)
  rcases h with ⟨a, b⟩ | ⟨a, b, c, v', e, f, g, i⟩ | ⟨l, hll, a, e, z, n, b, c, f, g, i, j, k, m⟩
  · exact .inl ⟨hw.trans a, fun t ht => (hg t ht).trans (b t ht)⟩
  · have hkeep := hk _ i
    obtain ⟨_, e2⟩ := aop_keep (H' := H1) (Hx := st.H) (mob0_of b) c f e hkeep
    refine .inr (.inl ⟨hw.trans a, b, c, v', ?_, f, fun t ht => (hg t ht).trans (g t ht), ?_⟩)
    · show aop cx fn o (putT st.fr d v) H1 = _
      rw [aop_put h1]; exact e2
    · show (p, rdA o (putT st.fr d v) H1) ∈ E1
      rw [rdA_put h1, rdA_H c H1 st.H]; exact hE _ i
  · have hrow := hk _ m l (by simp) _ g
    exact .inr (.inr ⟨l, hll, hw.trans a, e, z, n, b, c, f, hrow, (hl l _ _ _ g hrow).trans i, j, fun t ht => (hg t ht).trans (k t ht), hE _ m⟩)

/-- The names of rows that stay stay. -/
theorem Evo.look_row {ρ' : List (Option Nat)} {w' : World} {H' : AHeap} (E : Evo ρ w H ρ' w' H') {l : Nat} {es : List (List AV)} {z : Nat} {t : TypeId} (h : H[l]? = some (.row es z t)) (h' : H'[l]? = some (.row es z t)) : look ρ' l = look ρ l := by
  obtain ⟨o', ho', e⟩ := E.obj l _ h
  rw [h'] at ho'; cases ho'
  obtain ⟨es', e1, _, e2⟩ := e
  cases e1
  exact (e2 rfl).1

theorem MarksRep.same {ρ' : List (Option Nat)} {w' : World} (h : ∀ l s, H[l]? = some (.dfr s) → look ρ' l = look ρ l) (hm : ∀ cs us, RepAL w ρ H (Nof ρ H X B) (Nqof ρ H X) cs us → RepAL w' ρ' H (Nof ρ' H X B) (Nqof ρ' H X) cs us) :
    ∀ {ls : List Dfr} {ds : List Deferred}, MarksRep X B ρ w H ls ds → MarksRep X B ρ' w' H ls ds
  | [], _, h' => h'
  | .mark _ :: _, _, ⟨d, ds', e, ⟨h1, h2⟩, h3⟩ => ⟨d, ds', e, ⟨h1, fun s hs => let ⟨b, hb, hd⟩ := h2 s hs; ⟨b, (h _ s hs).trans hb, hd⟩⟩, MarksRep.same h hm h3⟩
  | .fn _ _ :: _, _, ⟨d, ds', e, ⟨cap, cas, h1, h2⟩, h3⟩ => ⟨d, ds', e, ⟨cap, cas, h1, hm _ _ h2⟩, MarksRep.same h hm h3⟩
/-- An operation that was walked early has its turn. -/
theorem SR.late {n : Nat} {D D' : Nat → Prop} {st : St} {a : Act} {ρ' : List (Option Nat)} {w' : World} (S : SR X B n D ρ st a w) (hmono : ∀ c u, Rp X B ρ w st.H c u → Rp X B ρ' w' st.H c u) (R' : HRel X B ρ' w' st.H)
    (hm : MarksRep X B ρ' w' st.H st.ds a.defers) {dst : Option Tmp} {cv : Value} (hd : ∀ d, dst = some d → d < n) (hv : ∀ d, dst = some d → Rp X B ρ' w' st.H (Fr.get st.fr d) cv) (hD : ∀ t, ¬ D' t → dst ≠ some t → ¬ D t) :
    SR X B n D' ρ' st (a.put dst cv) w' where
  rel := R'
  fr t ht := by
    cases dst with
    | none => exact hmono _ _ (S.fr t (hD t ht (by simp)))
    | some d =>
      have hlt : d < a.tmps.size := Nat.lt_of_lt_of_le (hd d rfl) S.size
      rw [put_getD hlt]
      by_cases e : t = d
      · subst e; rw [if_pos rfl]; exact hv t rfl
      · rw [if_neg e]; exact hmono _ _ (S.fr t (hD t ht (fun h => e (by cases h; rfl))))
  size := by rw [put_size]; exact S.size
  marks := by rw [put_defers]; exact hm
theorem pend_run {n : Nat} {D D' : Nat → Prop} {st : St} {a : Act} {E : List (Nat × List Nat)} {p h0 : Nat} {l : Option Nat} {o : Oper} {ro : Option Nat} {K : Act → World → Prop} {Q : Exit → Act → World → Prop} (hP : cx.P = P) (ho : ops[p]? = some o) (hp : Pend cx fn ops E p l ρ h0 st o)
    (S : SR X B n D ρ st a w) (hd : ∀ d, o.dst = some d → d < n) (hD1 : ∀ t, Operand.tmp t ∈ o.op.operands → ¬ D t) (hD2 : ∀ j want d, o.guard = some (j, want) → (ops[j]?).bind (·.dst) = some d → ¬ D d) (hD : ∀ t, ¬ D' t → o.dst ≠ some t → ¬ D t)
    (hk : ∀ ρ' a' w', SR X B n D' ρ' st a' w' → (∀ ρ0 w0 H0, Evo ρ0 w0 H0 ρ w st.H → H0.length = h0 → Evo ρ0 w0 H0 ρ' w' st.H) →
      (∀ (l' : Nat) (es : List (List AV)) (z : Nat) (t : TypeId), st.H[l']? = some (.row es z t) → look ρ' l' = look ρ l' ∨ l = some l') → K a' w') : wpOpIn (FW ro) 0 P ops Q p K a w := by
  unfold wpOpIn
  simp only [ho]
  rcases hp with ⟨h1, h2⟩ | ⟨h1, h2, h3, v, h4, h5, h6, h7⟩ | ⟨l, rfl, hA⟩
  · rw [if_neg (by rw [wanted_ok h1 S hD2]; simp)]
    refine ⟨fun _ _ => trivial, hk ρ _ w (S.late (fun _ _ h => h) S.rel S.marks hd (fun d hd => ?_) hD) (fun _ _ _ h _ => h) fun _ _ _ _ _ => .inl rfl⟩
    rw [h2 d hd]; rfl
  · rw [if_pos (wanted_ok h1 S hD2)]
    refine ⟨fun _ _ => trivial, ?_⟩
    rw [Oper.semAt_eq _ _ _ (aop_not_defer h4 (fun _ _ e => by cases e))]
    obtain ⟨cv, w', ρ', hr, E', R', hv⟩ := aop_ok (P := P) hP S.rel h4 (a := a) fun x hx => S.ev fun t e => hD1 t (e ▸ hx)
    rw [hr, Oper.uponIn_value]
    refine hk ρ' _ w' (S.late (fun c u h => RepA.mono E' (E'.stay X B) _ _ h) R' (S.marks.mono E') hd (fun d hd => ?_) hD) (fun _ _ _ h _ => h.trans E') fun _ _ _ _ h => .inl (E'.look_row h h)
    rw [h6 d hd]; exact hv
  · have hA' := hA
    obtain ⟨h1, e, z, m, h2, h3, h4, h5, h6, h7, h8, h9⟩ := hA
    rw [if_pos (wanted_ok h1 S hD2)]
    refine ⟨fun _ _ => trivial, ?_⟩
    rw [Oper.semAt_eq _ _ _ (fun c h => by rw [h2] at h; cases h)]
    subst hP
    obtain ⟨i, zv, hi, hzv, hvi⟩ := zeroImm_info h3
    have hr : (execOp a.eval o).run cx.P w = .ok (.value (.pointer (some ⟨w.heap.size, 0, none⟩))) (w.alloc (.cells zv.cells e)) := by
      have := alloc_run (w := w) hi hzv
      simp [execOp, h2, this]
    rw [hr, Oper.uponIn_value]
    obtain ⟨h10, h11⟩ := imm_cells_rep (w := w) (ρ := ρ) (H := st.H) (N := Nof ρ st.H X B) (Nq := Nqof ρ st.H X) hvi
    have hrow : RowRep X B ρ w st.H m [z.cells.map .im] zv.cells := by
      have := box_row h10 h11
      simp only [List.length_map, h4] at this
      exact this
    obtain ⟨R', Se, St, hE⟩ := S.rel.come (alloc_is (.cells zv.cells e)) h5 h6 (by simp) hrow
    refine hk _ _ _ (S.late (fun c u h => RepA.monoS Se St _ _ h) R' (S.marks.same (fun l' s' h => look_set_ne (by rintro rfl; rw [h5] at h; cases h) _) fun _ _ h => RepAL.monoS Se St _ _ h) hd (fun d hd => ?_) hD) (fun ρ0 w0 H0 h hl => hE ρ0 w0 H0 h (by omega)) fun l' es z t h => ?_
    · rw [h8 d hd]
      have := ptr_mk (N := Nof (ρ.set l (some w.heap.size)) st.H X B) (Nq := Nqof (ρ.set l (some w.heap.size)) st.H X) (w := w.alloc (.cells zv.cells e)) (j := 0) (off := 0) h5 (rfl : _ = 1)
        (look_set (by rw [S.rel.len]; exact (List.getElem?_eq_some_iff.1 h5).1) (some w.heap.size))
      simp only [Nat.zero_mul, Nat.add_zero] at this
      exact this
    · by_cases e' : l' = l
      · exact .inr (by rw [e'])
      · exact .inl (look_set_ne (Ne.symm e') _)

/-- The walk so far. -/
structure DI (cx : Cx) (fn : FuncId) (ops : Array Oper) (O : Oracle) (n : Nat) (X B Z : Nat → Prop) (stf : St) (ρ0 : List (Option Nat)) (w0 : World) (H0 : AHeap)
    (L : Array Bool) (done rest : List Nat) (E : List (Nat × List Nat)) (Pd : Nat → Prop) (la : Nat → Option Nat) (st : St) (ρ : List (Option Nat)) (a : Act) (w : World) : Prop where
  go : schedGo cx fn ops rest done = true
  all : ∀ j, j < ops.size → ¬ Z j → j ∈ done ∨ j ∈ rest
  zno : ∀ j, Z j → j ∉ done ∧ j ∉ rest
  cl : ∀ j ∈ done, ∃ o, ops[j]? = some o ∧ depsIn o done = true
  pd : ∀ p, Pd p → p ∈ done
  lsz : L.size = ops.size
  listed : ∀ j, j < ops.size → (L.getD j false = true ↔ (j ∈ done ∧ ¬ Pd j))
  down : ∀ (j : Nat) (o : Oper), ops[j]? = some o → L.getD j false = true → ∀ e ∈ o.after, Region.binds .any e = true → L.getD e.on false = true
  run : adraw cx O fn ops rest E st = some stf
  sr : SR X B n (fun t => ∃ p o, Pd p ∧ ops[p]? = some o ∧ o.dst = some t) ρ st a w
  evo : Evo ρ0 w0 H0 ρ w st.H
  pend : ∀ p o, Pd p → ops[p]? = some o → Pend cx fn ops E p (la p) ρ H0.length st o
  pmob : ∀ p o, Pd p → ops[p]? = some o → mob cx fn o = true
  lab : ∀ p l, Pd p → la p = some l → l < st.H.length
  inj : ∀ p q l, Pd p → Pd q → la p = some l → la q = some l → p = q

theorem depsIn_more {o : Oper} {done : List Nat} {k : Nat} (h : depsIn o done = true) : depsIn o (k :: done) = true := by
  rw [depsIn_iff] at h ⊢
  exact fun e he hb => List.mem_cons_of_mem _ (h e he hb)
theorem getD_lt {L : Array Bool} {j : Nat} (h : L.getD j false = true) : j < L.size := by
  rcases Nat.lt_or_ge j L.size with h' | h'
  · exact h'
  · rw [Array.getD_eq_getD_getElem?, Array.getElem?_eq_none h'] at h; cases h
theorem getD_set {L : Array Bool} {i j : Nat} (hi : i < L.size) : (L.setIfInBounds i true).getD j false = true ↔ j = i ∨ L.getD j false = true := by
  by_cases e : i = j
  · subst e
    simp [Array.getD_eq_getD_getElem?, hi]
  · rw [getD_set_ne false e]
    constructor
    · exact .inr
    · rintro (h | h)
      · exact absurd h.symm e
      · exact h
theorem astep_form {st st' : St} {o : Oper} (h : astep cx O fn o st = some st') : ∃ v H1, st' = { st with fr := putT st.fr o.dst v, H := H1 } := by
  unfold astep at h
  split at h
  · cases h; exact ⟨_, _, rfl⟩
  · cases h; exact ⟨_, _, rfl⟩
  · split at h
    · cases h; exact ⟨_, _, rfl⟩
    · cases h
  · cases h

section
variable {n : Nat} {Z : Nat → Prop} {stf : St} {ρ0 : List (Option Nat)} {w0 : World} {H0 : AHeap} {L : Array Bool} {done rest : List Nat} {E : List (Nat × List Nat)} {Pd : Nat → Prop} {la : Nat → Option Nat} {st : St} {a : Act}
theorem DI.apart (hA : apartOk cx fn ops = true) {i : Nat} (I : DI cx fn ops O n X B Z stf ρ0 w0 H0 L done (i :: rest) E Pd la st ρ a w) {o : Oper} (ho : ops[i]? = some o) (hid : i ∉ done)
    (hr : mob cx fn o = true ∨ ∀ e ∈ o.after, Region.binds .any e = true → L.getD e.on false = true) {p : Nat} {op : Oper} (hp : Pd p) (hop : ops[p]? = some op) :
    (∀ t, o.dst = some t → t ∉ op.looksAt ops) ∧ (∀ t, op.dst = some t → o.dst ≠ some t) := by
  refine ⟨fun t ht hl => ?_, fun t ht => (apart_get hA hop ho ht).1 fun e => hid (e ▸ I.pd p hp)⟩
  rcases ((apart_get hA ho hop ht).2 hl).2 with ⟨e, he, hb, he2⟩ | ⟨hnm, hre⟩
  · obtain ⟨op', hop', hdeps⟩ := I.cl p (I.pd p hp)
    rw [hop] at hop'; cases hop'
    exact hid (he2 ▸ depsIn_iff.1 hdeps e he hb)
  · rcases hr with hr | hr
    · rw [hr] at hnm; cases hnm
    · have hL := reach_listed (L := fun j => L.getD j false = true) (fun j o' ho' hL => I.down j o' ho' hL) ops.size o hr hre
      exact ((I.listed p (by rw [← I.lsz]; exact getD_lt hL)).1 hL).2 hp
/-- The early step of the walk alone. -/
theorem DI.early (hA : apartOk cx fn ops = true) {k : Nat} (I : DI cx fn ops O n X B Z stf ρ0 w0 H0 L done (k :: rest) E Pd la st ρ a w) (hm : ∀ o, ops[k]? = some o → mob cx fn o = true) :
    ∃ E' Pd' la' st' ρ', DI cx fn ops O n X B Z stf ρ0 w0 H0 L (k :: done) rest E' Pd' la' st' ρ' a w := by
  obtain ⟨o, ho, hdeps, hkd, _, hgo⟩ := schedGo_cons I.go
  have hm := hm o ho
  have hself : ∀ t, o.dst = some t → t ∉ o.looksAt ops := fun t ht hl => ((apart_get hA ho ho ht).2 hl).1 rfl
  have build : ∀ (E' : List (Nat × List Nat)) (la' : Nat → Option Nat) (v : AV) (H1 : AHeap) (ρ' : List (Option Nat)), adraw cx O fn ops rest E' { st with fr := putT st.fr o.dst v, H := H1 } = some stf → HRel X B ρ' w H1 → Evo ρ w st.H ρ' w H1 → (∀ x ∈ E, x ∈ E') → (∀ (l : Nat) (o0 : AObj), st.H[l]? = some o0 → H1[l]? = some o0) →
      (∀ p, Pd p → la' p = la p) → (∀ l, la' k = some l → l < H1.length ∧ st.H.length ≤ l) → Pend cx fn ops E' k (la' k) ρ' H0.length { st with fr := putT st.fr o.dst v, H := H1 } o →
      ∃ E' Pd' la' st' ρ', DI cx fn ops O n X B Z stf ρ0 w0 H0 L (k :: done) rest E' Pd' la' st' ρ' a w := fun E' la' v H1 ρ' hrun R' Ev hE hk hla hlk hpk => by
    have hne : ∀ p, Pd p → p ≠ k := fun p hp e => hkd (e ▸ I.pd p hp)
    exact ⟨E', fun p => Pd p ∨ p = k, la', { st with fr := putT st.fr o.dst v, H := H1 }, ρ',
    { go := hgo
      zno := fun j hj => ⟨fun h => (List.mem_cons.1 h).elim (fun e => (I.zno j hj).2 (e ▸ List.mem_cons_self)) (I.zno j hj).1, fun h => (I.zno j hj).2 (List.mem_cons_of_mem _ h)⟩
      all := fun j hj hz => by
        rcases I.all j hj hz with h | h
        · exact .inl (List.mem_cons_of_mem _ h)
        · rcases List.mem_cons.1 h with rfl | h
          · exact .inl (by simp)
          · exact .inr h
      cl := fun j hj => by
        rcases List.mem_cons.1 hj with rfl | hj
        · exact ⟨o, ho, depsIn_more hdeps⟩
        · obtain ⟨o', ho', h'⟩ := I.cl j hj
          exact ⟨o', ho', depsIn_more h'⟩
      pd := fun p hp => by
        rcases hp with hp | rfl
        · exact List.mem_cons_of_mem _ (I.pd p hp)
        · simp
      lsz := I.lsz
      listed := fun j hj => by
        rw [I.listed j hj]
        constructor
        · rintro ⟨h1, h2⟩
          exact ⟨List.mem_cons_of_mem _ h1, fun h => h.elim h2 fun e => hkd (e ▸ h1)⟩
        · rintro ⟨h1, h2⟩
          rcases List.mem_cons.1 h1 with rfl | h1
          · exact absurd (.inr rfl) h2
          · exact ⟨h1, fun h => h2 (.inl h)⟩
      down := I.down
      run := hrun
      sr :=
        { rel := R'
          fr := fun t ht => by
            have h1 : o.dst ≠ some t := fun h => ht ⟨k, o, .inr rfl, ho, h⟩
            have h2 : ¬ ∃ p o, Pd p ∧ ops[p]? = some o ∧ o.dst = some t := fun ⟨p, op, hp, h⟩ => ht ⟨p, op, .inl hp, h⟩
            show Rp X B ρ' w H1 (Fr.get (putT st.fr o.dst v) t) _
            rw [get_putT h1]
            exact RepA.mono Ev (Ev.stay X B) _ _ (I.sr.fr t h2)
          size := I.sr.size
          marks := I.sr.marks.mono Ev }
      evo := I.evo.trans Ev
      pend := fun p op hp hop => by
        rcases hp with hp | rfl
        · rw [hla p hp]
          exact (I.pend p op hp hop).keep (I.apart hA ho hkd (.inl hm) hp hop).1 (I.apart hA ho hkd (.inl hm) hp hop).2 hE (fun rd _ l _ o0 h => hk l o0 h) fun _ _ _ _ h h' => Ev.look_row h h'
        · rw [ho] at hop; cases hop; exact hpk
      pmob := fun p op hp hop => by
        rcases hp with hp | rfl
        · exact I.pmob p op hp hop
        · exact hm op hop
      lab := fun p l hp hl => by
        rcases hp with hp | rfl
        · rw [hla p hp] at hl
          exact Nat.lt_of_lt_of_le (I.lab p l hp hl) Ev.len
        · exact (hlk l hl).1
      inj := fun p q l hp hq h1 h2 => by
        rcases hp with hp | rfl <;> rcases hq with hq | rfl
        · rw [hla p hp] at h1; rw [hla q hq] at h2
          exact I.inj p q l hp hq h1 h2
        · rw [hla p hp] at h1
          have := I.lab p l hp h1
          have := (hlk l h2).2
          omega
        · rw [hla q hq] at h2
          have := I.lab q l hq h2
          have := (hlk l h1).2
          omega
        · rfl }⟩
  have hrun := I.run
  rw [adraw] at hrun
  simp only [ho] at hrun
  split at hrun
  · cases hrun
  · rename_i hw
    exact build E (fun p => if p = k then none else la p) (.im .und) st.H ρ hrun I.sr.rel (Evo.refl _ _ _) (fun _ h => h) (fun _ _ h => h) (fun p hp => by have h : p ≠ k := fun e => hkd (e ▸ I.pd p hp); simp [h]) (fun l h => by simp at h)
      (.inl ⟨(wantedA_put hself).trans hw, fun d hd => by rw [hd]; exact get_putT_self⟩)
  · rename_i hw
    rw [if_pos hm] at hrun
    split at hrun
    · cases hrun
    · rename_i hb
      split at hrun
      · rename_i st1 hs
        rcases mob_step (mob0_of hm) (by simpa using hb) hs with ⟨hna, v, hao, him, rfl⟩ | ⟨e, z, m, he, hz, hzm, rfl⟩
        · refine build _ (fun p => if p = k then none else la p) v st.H ρ hrun I.sr.rel (Evo.refl _ _ _) (fun _ h => List.mem_cons_of_mem _ h) (fun _ _ h => h) (fun p hp => by have h : p ≠ k := fun e => hkd (e ▸ I.pd p hp); simp [h]) (fun l h => by simp at h)
            (.inr (.inl ⟨(wantedA_put hself).trans hw, hm, hna, v, ?_, him, fun d hd => by rw [hd]; exact get_putT_self, ?_⟩))
          · show aop cx fn o (putT st.fr o.dst v) st.H = _
            rw [aop_put hself]; exact hao
          · show (k, rdA o (putT st.fr o.dst v) st.H) ∈ _
            rw [rdA_put hself]; simp
        · obtain ⟨E1, R1⟩ := I.sr.rel.name (Evo.refl ρ w st.H) (.row [z.cells.map .im] m e) none (.inl rfl) (fun _ _ => rfl) (.inl (new_look I.sr.rel none))
          refine build _ (fun p => if p = k then some st.H.length else la p) (.ptr st.H.length 1 0 0) _ _ hrun R1 E1 (fun _ h => List.mem_cons_of_mem _ h) (fun l o0 h => by rw [List.getElem?_append_left (List.getElem?_eq_some_iff.1 h).1]; exact h)
            (fun p hp => by have h : p ≠ k := fun e => hkd (e ▸ I.pd p hp); simp [h]) (fun l h => ?_) (.inr (.inr ⟨st.H.length, by simp, (wantedA_put hself).trans hw, e, z, m, he, hz, hzm, new_row _ _ _, new_look I.sr.rel none, I.evo.len, fun d hd => by rw [hd]; exact get_putT_self, ?_⟩))
          · simp at h; subst h; simp
          · have : rdA o st.fr st.H = [st.H.length] := by unfold rdA; rw [he]
            rw [this]; simp
      · cases hrun
/-- The step of both. -/
theorem DI.both (hA : apartOk cx fn ops = true) (hP : cx.P = P) (hN : Named P) (hO : OracleOk P O) (hd : ∀ o ∈ ops, ∀ d, o.dst = some d → d < n) {i : Nat} (I : DI cx fn ops O n X B Z stf ρ0 w0 H0 L done (i :: rest) E Pd la st ρ a w)
    (hr : ∀ o, ops[i]? = some o → ∀ e ∈ o.after, Region.binds .any e = true → L.getD e.on false = true) {ro : Option Nat} {K : Act → World → Prop} {Q : Exit → Act → World → Prop}
    (hK : ∀ E' st' ρ' a' w', DI cx fn ops O n X B Z stf ρ0 w0 H0 (L.setIfInBounds i true) (i :: done) rest E' Pd la st' ρ' a' w' → K a' w') : wpOpIn (FW ro) 0 P ops Q i K a w := by
  obtain ⟨o, ho, hdeps, hid, hmob, hgo⟩ := schedGo_cons I.go
  have hilt : i < ops.size := (Array.getElem?_eq_some_iff.1 ho).1
  have hpl : ∀ p, Pd p → L.getD p false ≠ true := fun p hp h => ((I.listed p (by rw [← I.lsz]; exact getD_lt h)).1 h).2 hp
  have hlook : ∀ t, t ∈ o.looksAt ops → ¬ (∃ p op, Pd p ∧ ops[p]? = some op ∧ op.dst = some t) := by
    rintro t ht ⟨p, op, hp, hop, hdst⟩
    rcases ((apart_get hA hop ho hdst).2 ht).2 with ⟨e, he, hb, he2⟩ | ⟨hnm, _⟩
    · exact hpl p hp (he2 ▸ hr o ho e he hb)
    · rw [I.pmob p op hp hop] at hnm; cases hnm
  have hD1 : ∀ t, Operand.tmp t ∈ o.op.operands → ¬ (∃ p op, Pd p ∧ ops[p]? = some op ∧ op.dst = some t) := fun t ht => hlook t (List.mem_append_left _ (List.mem_filterMap.2 ⟨.tmp t, by simpa using ht, rfl⟩))
  have hD2 : ∀ j want d, o.guard = some (j, want) → (ops[j]?).bind (·.dst) = some d → ¬ (∃ p op, Pd p ∧ ops[p]? = some op ∧ op.dst = some d) := fun j want d hg hdst => hlook d (List.mem_append_right _ (by simp [hg, hdst]))
  have hdo : ∀ d, o.dst = some d → d < n := hd o (Array.mem_of_getElem? ho)
  have build : ∀ E' v H1 ρ' a' w', adraw cx O fn ops rest E' { st with fr := putT st.fr o.dst v, H := H1 } = some stf → SR X B n (fun t => ∃ p o, Pd p ∧ ops[p]? = some o ∧ o.dst = some t) ρ' { st with fr := putT st.fr o.dst v, H := H1 } a' w' →
      Evo ρ w st.H ρ' w' H1 → (∀ x ∈ E, x ∈ E') → (∀ p rd, Pd p → (p, rd) ∈ E → Keeps rd st.H H1) → K a' w' := fun E' v H1 ρ' a' w' hrun S' Ev hE hk => hK E' _ ρ' a' w'
    { go := hgo
      zno := fun j hj => ⟨fun h => (List.mem_cons.1 h).elim (fun e => (I.zno j hj).2 (e ▸ List.mem_cons_self)) (I.zno j hj).1, fun h => (I.zno j hj).2 (List.mem_cons_of_mem _ h)⟩
      all := fun j hj hz => by
        rcases I.all j hj hz with h | h
        · exact .inl (List.mem_cons_of_mem _ h)
        · rcases List.mem_cons.1 h with rfl | h
          · exact .inl (by simp)
          · exact .inr h
      cl := fun j hj => by
        rcases List.mem_cons.1 hj with rfl | hj
        · exact ⟨o, ho, depsIn_more hdeps⟩
        · obtain ⟨o', ho', h'⟩ := I.cl j hj
          exact ⟨o', ho', depsIn_more h'⟩
      pd := fun p hp => List.mem_cons_of_mem _ (I.pd p hp)
      lsz := by simp [I.lsz]
      listed := fun j hj => by
        rw [getD_set (by rw [I.lsz]; exact hilt)]
        constructor
        · rintro (rfl | h)
          · exact ⟨by simp, fun hp => hid (I.pd _ hp)⟩
          · exact ⟨List.mem_cons_of_mem _ ((I.listed j hj).1 h).1, ((I.listed j hj).1 h).2⟩
        · rintro ⟨h1, h2⟩
          rcases List.mem_cons.1 h1 with rfl | h1
          · exact .inl rfl
          · exact .inr ((I.listed j hj).2 ⟨h1, h2⟩)
      down := fun j o' ho' hL e he hb => by
        rw [getD_set (by rw [I.lsz]; exact hilt)] at hL ⊢
        rcases hL with rfl | hL
        · exact .inr (hr o' ho' e he hb)
        · exact .inr (I.down j o' ho' hL e he hb)
      run := hrun
      sr := S'
      evo := I.evo.trans Ev
      pend := fun p op hp hop => (I.pend p op hp hop).keep (I.apart hA ho hid (.inr (hr o ho)) hp hop).1 (I.apart hA ho hid (.inr (hr o ho)) hp hop).2 hE (fun rd h => hk p rd hp h) fun _ _ _ _ h h' => Ev.look_row h h'
      pmob := I.pmob
      lab := fun p l hp hl => Nat.lt_of_lt_of_le (I.lab p l hp hl) Ev.len
      inj := I.inj }
  have hrun := I.run
  rw [adraw] at hrun
  simp only [ho] at hrun
  unfold wpOpIn
  simp only [ho]
  split at hrun
  · cases hrun
  · rename_i hw
    rw [if_neg (by rw [wanted_ok hw I.sr hD2]; simp)]
    exact ⟨fun _ _ => trivial, build E _ _ ρ _ w hrun (unwanted_ok I.sr hdo) (Evo.refl _ _ _) (fun _ h => h) fun _ _ _ _ _ _ _ h => h⟩
  · rename_i hw
    rw [if_pos (wanted_ok hw I.sr hD2)]
    have go : ∀ E' st1, astep cx O fn o st = some st1 → adraw cx O fn ops rest E' st1 = some stf → (∀ x ∈ E, x ∈ E') → (∀ p rd, Pd p → (p, rd) ∈ E → Keeps rd st.H st1.H) → o.wpIn (FW ro) 0 P a w K Q := by
      intro E' st1 hs hrun hE hk
      obtain ⟨v, H1, rfl⟩ := astep_form hs
      exact astep_ok hP hN hO hs I.sr hD1 hdo fun ρ' a' w' Ev S' _ _ => build E' v H1 ρ' a' w' hrun S' Ev hE hk
    split at hrun
    · rename_i hm
      split at hrun
      · cases hrun
      · rename_i hb
        split at hrun
        · rename_i st1 hs
          refine go _ st1 hs hrun (fun _ h => List.mem_cons_of_mem _ h) fun p rd _ _ l _ o0 h0 => ?_
          rcases mob_step (mob0_of hm) (by simpa using hb) hs with ⟨_, v, _, _, rfl⟩ | ⟨e, z, m, _, _, _, rfl⟩
          · exact h0
          · exact Turns.more (wr := []) _ l o0 (by simp) h0
        · cases hrun
    · split at hrun
      · rename_i hcl
        split at hrun
        · rename_i st1 hs
          refine go E st1 hs hrun (fun _ h => h) fun p rd hp hrd l hl o0 h0 => ?_
          unfold clear at hcl
          rw [List.all_eq_true] at hcl
          have h1 := hcl (p, rd) hrd
          simp only [Bool.or_eq_true] at h1
          rcases h1 with (h1 | h1) | h1
          · have : rd = [] := by simpa using h1
            subst this; cases hl
          · split at h1
            · rename_i wr hwr
              rw [List.all_eq_true] at h1
              refine astep_turns hwr hs l o0 (fun hlw => ?_) h0
              have := h1 l hlw
              simp at this
              exact this hl
            · cases h1
          · exact absurd (reach_listed (L := fun j => L.getD j false = true) (fun j o' ho' hL => I.down j o' ho' hL) ops.size o (hr o ho) h1) (hpl p hp)
        · cases hrun
      · cases hrun
/-- The walk comes to the operation that is up. -/
theorem DI.turn (hA : apartOk cx fn ops = true) (hP : cx.P = P) (hN : Named P) (hO : OracleOk P O) (hd : ∀ o ∈ ops, ∀ d, o.dst = some d → d < n) {i : Nat} (hz : ¬ Z i) (hL : L.getD i false ≠ true)
    (hr : ∃ o, ops[i]? = some o ∧ ∀ e ∈ o.after, Region.binds .any e = true → L.getD e.on false = true) {ro : Option Nat} {K : Act → World → Prop} {Q : Exit → Act → World → Prop} :
    ∀ (rest done : List Nat) (E : List (Nat × List Nat)) (Pd : Nat → Prop) (la : Nat → Option Nat) (st : St) (ρ : List (Option Nat)), DI cx fn ops O n X B Z stf ρ0 w0 H0 L done rest E Pd la st ρ a w → i ∉ done →
    (∀ done' rest' E' Pd' la' st' ρ' a' w', DI cx fn ops O n X B Z stf ρ0 w0 H0 (L.setIfInBounds i true) done' rest' E' Pd' la' st' ρ' a' w' → K a' w') → wpOpIn (FW ro) 0 P ops Q i K a w := by
  obtain ⟨oi, hoi, hdi⟩ := hr
  have hilt : i < ops.size := (Array.getElem?_eq_some_iff.1 hoi).1
  intro rest
  induction rest with
  | nil =>
    intro done E Pd la st ρ I hid hK
    rcases I.all i hilt hz with h | h
    · exact absurd h hid
    · cases h
  | cons k rest ih =>
    intro done E Pd la st ρ I hid hK
    by_cases e : k = i
    · subst e
      exact I.both hA hP hN hO hd (fun o ho => by rw [hoi] at ho; cases ho; exact hdi) fun E' st' ρ' a' w' I' => hK _ _ _ _ _ _ _ _ _ I'
    · obtain ⟨o, ho, _, _, hmob, _⟩ := schedGo_cons I.go
      have hm : ∀ o, ops[k]? = some o → mob cx fn o = true := by
        intro o' ho'
        rw [ho] at ho'; cases ho'
        rcases hmob with h | h
        · exact h
        · have hir : i ∈ rest := by
            rcases I.all i hilt hz with h | h
            · exact absurd h hid
            · rcases List.mem_cons.1 h with h | h
              · exact absurd h.symm e
              · exact h
          have h1 := h i hir oi hoi
          have h2 : depsIn oi done = true := depsIn_iff.2 fun e he hb => by
            have h3 := hdi e he hb
            exact ((I.listed e.on (by rw [← I.lsz]; exact getD_lt h3)).1 h3).1
          rw [h2] at h1; cases h1
      obtain ⟨E', Pd', la', st', ρ', I'⟩ := I.early hA hm
      exact ih (k :: done) E' Pd' la' st' ρ' I' (fun h => (List.mem_cons.1 h).elim (fun h => e h.symm) hid) hK
/-- A pending one has its turn. -/
theorem DI.pending (hA : apartOk cx fn ops = true) (hP : cx.P = P) (hd : ∀ o ∈ ops, ∀ d, o.dst = some d → d < n) {i : Nat} (hi : Pd i)
    (hr : ∃ o, ops[i]? = some o ∧ ∀ e ∈ o.after, Region.binds .any e = true → L.getD e.on false = true) {ro : Option Nat} {K : Act → World → Prop} {Q : Exit → Act → World → Prop}
    (I : DI cx fn ops O n X B Z stf ρ0 w0 H0 L done rest E Pd la st ρ a w)
    (hK : ∀ Pd' ρ' a' w', DI cx fn ops O n X B Z stf ρ0 w0 H0 (L.setIfInBounds i true) done rest E Pd' la st ρ' a' w' → K a' w') : wpOpIn (FW ro) 0 P ops Q i K a w := by
  obtain ⟨o, ho, hdi⟩ := hr
  have hilt : i < ops.size := (Array.getElem?_eq_some_iff.1 ho).1
  have hpl : ∀ p, Pd p → L.getD p false ≠ true := fun p hp h => ((I.listed p (by rw [← I.lsz]; exact getD_lt h)).1 h).2 hp
  have hlook : ∀ t, t ∈ o.looksAt ops → ¬ (∃ p op, Pd p ∧ ops[p]? = some op ∧ op.dst = some t) := by
    rintro t ht ⟨p, op, hp, hop, hdst⟩
    rcases ((apart_get hA hop ho hdst).2 ht).2 with ⟨e, he, hb, he2⟩ | ⟨hnm, _⟩
    · exact hpl p hp (he2 ▸ hdi e he hb)
    · rw [I.pmob p op hp hop] at hnm; cases hnm
  refine pend_run hP ho (I.pend i o hi ho) (D' := fun t => ∃ p o, (Pd p ∧ p ≠ i) ∧ ops[p]? = some o ∧ o.dst = some t) I.sr (hd o (Array.mem_of_getElem? ho)) (fun t ht => hlook t (List.mem_append_left _ (List.mem_filterMap.2 ⟨.tmp t, by simpa using ht, rfl⟩)))
    (fun j want d hg hdst => hlook d (List.mem_append_right _ (by simp [hg, hdst]))) (fun t h1 h2 => ?_) fun ρ' a' w' S' hE hlk => hK (fun p => Pd p ∧ p ≠ i) ρ' a' w' ?_
  · rintro ⟨p, op, hp, hop, hdst⟩
    refine h1 ⟨p, op, ⟨hp, fun e => ?_⟩, hop, hdst⟩
    subst e
    rw [ho] at hop; cases hop
    exact h2 hdst
  · exact
    { go := I.go
      all := I.all
      zno := I.zno
      cl := I.cl
      pd := fun p hp => I.pd p hp.1
      lsz := by simp [I.lsz]
      listed := fun j hj => by
        rw [getD_set (by rw [I.lsz]; exact hilt), I.listed j hj]
        constructor
        · rintro (rfl | ⟨h1, h2⟩)
          · exact ⟨I.pd _ hi, fun h => h.2 rfl⟩
          · exact ⟨h1, fun h => h2 h.1⟩
        · rintro ⟨h1, h2⟩
          by_cases e : j = i
          · exact .inl e
          · exact .inr ⟨h1, fun h => h2 ⟨h, e⟩⟩
      down := fun j o' ho' hL e he hb => by
        rw [getD_set (by rw [I.lsz]; exact hilt)] at hL ⊢
        rcases hL with rfl | hL
        · rw [ho] at ho'; cases ho'
          exact .inr (hdi e he hb)
        · exact .inr (I.down j o' ho' hL e he hb)
      run := I.run
      sr := S'
      evo := hE _ _ _ I.evo rfl
      pend := fun p op hp hop => by
        rcases I.pend p op hp.1 hop with h | h | ⟨l, hl, h1, e, z, m, h2, h3, h4, h5, h6, h7⟩
        · exact .inl h
        · exact .inr (.inl h)
        · refine .inr (.inr ⟨l, hl, h1, e, z, m, h2, h3, h4, h5, ?_, h7⟩)
          rcases hlk l _ _ _ h5 with h | h
          · exact h.trans h6
          · exact absurd (I.inj p i l hp.1 hi hl h) hp.2
      pmob := fun p op hp hop => I.pmob p op hp.1 hop
      lab := fun p l hp hl => I.lab p l hp.1 hl
      inj := fun p q l hp hq h1 h2 => I.inj p q l hp.1 hq.1 h1 h2 }
/-- Nothing is up any more: all is done. -/
theorem sched_all {f : Nat → Prop} (hf : ∀ (j : Nat) (o : Oper), ops[j]? = some o → (∀ e ∈ o.after, Region.binds .any e = true → f e.on) → f j) : ∀ (rest done : List Nat), schedGo cx fn ops rest done = true → (∀ j ∈ done, f j) → ∀ j ∈ rest, f j
  | [], _, _, _, j, hj => by cases hj
  | i :: rest, done, h, hd, j, hj => by
    obtain ⟨o, ho, hdeps, _, _, hgo⟩ := schedGo_cons h
    have hi : f i := hf i o ho fun e he hb => hd _ (depsIn_iff.1 hdeps e he hb)
    have hd' : ∀ j ∈ i :: done, f j := fun j hj => by
      rcases List.mem_cons.1 hj with rfl | hj
      · exact hi
      · exact hd j hj
    rcases List.mem_cons.1 hj with rfl | hj
    · exact hi
    · exact sched_all hf rest (i :: done) hgo hd' j hj
theorem count_set {p p' : Nat → Bool} {i : Nat} : ∀ (n : Nat), i < n → p i = true → p' i = false → (∀ j, j ≠ i → p' j = p j) → (List.range n).countP p' + 1 = (List.range n).countP p
  | 0, h, _, _, _ => by omega
  | n + 1, h, h1, h2, h3 => by
    rw [List.range_succ, List.countP_append, List.countP_append]
    by_cases e : i = n
    · subst e
      have : (List.range i).countP p' = (List.range i).countP p := List.countP_congr fun j hj => by
        have : j ≠ i := by have := List.mem_range.1 hj; omega
        rw [h3 j this]
      simp [h1, h2, this]
    · have := count_set n (by omega) h1 h2 h3
      have h4 : p' n = p n := h3 n (fun h => e h.symm)
      simp only [List.countP_cons, List.countP_nil, h4]
      omega
theorem DI.any (hA : apartOk cx fn ops = true) (hP : cx.P = P) (hN : Named P) (hO : OracleOk P O) (hd : ∀ o ∈ ops, ∀ d, o.dst = some d → d < n) {σ : List Nat} (hσ : schedGo cx fn ops σ [] = true) (hall : ∀ j, j < ops.size → j ∈ σ) {ro : Option Nat} {Q : Exit → Act → World → Prop}
    (hQ : ∀ ρ' a' w', Evo ρ0 w0 H0 ρ' w' stf.H → SR X B n (fun _ => False) ρ' stf a' w' → Q .normal a' w') :
    ∀ (fuel : Nat) (L : Array Bool) (done rest : List Nat) (E : List (Nat × List Nat)) (Pd : Nat → Prop) (la : Nat → Option Nat) (st : St) (ρ : List (Option Nat)) (a : Act) (w : World),
      DI cx fn ops O n X B (fun _ => False) stf ρ0 w0 H0 L done rest E Pd la st ρ a w → (List.range ops.size).countP (fun j => !L.getD j false) ≤ fuel → wpAnyIn (FW ro) 0 P .any ops Q fuel L a w := by
  have hend : ∀ (L : Array Bool) (done rest : List Nat) (E : List (Nat × List Nat)) (Pd : Nat → Prop) (la : Nat → Option Nat) (st : St) (ρ : List (Option Nat)) (a : Act) (w : World),
      DI cx fn ops O n X B (fun _ => False) stf ρ0 w0 H0 L done rest E Pd la st ρ a w → (∀ j, j < ops.size → L.getD j false = true) → Q .normal a w := by
    intro L done rest E Pd la st ρ a w I hfull
    have hPd : ∀ p, ¬ Pd p := fun p hp => by
      obtain ⟨o, ho, _⟩ := I.cl p (I.pd p hp)
      have hlt := (Array.getElem?_eq_some_iff.1 ho).1
      exact ((I.listed p hlt).1 (hfull p hlt)).2 hp
    have hrest : rest = [] := by
      cases hr : rest with
      | nil => rfl
      | cons k rest' =>
        have hgo := I.go
        rw [hr] at hgo
        obtain ⟨o, ho, _, hk, _⟩ := schedGo_cons hgo
        have hlt := (Array.getElem?_eq_some_iff.1 ho).1
        exact absurd ((I.listed k hlt).1 (hfull k hlt)).1 hk
    have hrun := I.run
    rw [hrest, adraw] at hrun
    cases hrun
    exact hQ ρ a w I.evo ⟨I.sr.rel, fun t _ => I.sr.fr t fun ⟨p, _, hp, _⟩ => hPd p hp, I.sr.size, I.sr.marks⟩
  have hnone : ∀ (L : Array Bool), L.size = ops.size → Region.ready .any ops L = [] → ∀ j, j < ops.size → L.getD j false = true := by
    intro L hsz hr j hj
    refine sched_all (f := fun j => L.getD j false = true) (fun i o ho hdeps => ?_) σ [] hσ (by simp) j (hall j hj)
    by_cases h : L.getD i false = true
    · exact h
    · have : i ∈ Region.ready .any ops L := by
        rw [mem_ready]
        refine ⟨?_, o, ho, hdeps⟩
        have hlt : i < L.size := by rw [hsz]; exact (Array.getElem?_eq_some_iff.1 ho).1
        rw [Array.getD_eq_getD_getElem?, Array.getElem?_eq_getElem hlt] at h ⊢
        simpa using h
      rw [hr] at this; cases this
  intro fuel
  induction fuel with
  | zero =>
    intro L done rest E Pd la st ρ a w I hc
    have hfull : ∀ j, j < ops.size → L.getD j false = true := fun j hj => by
      have h0 : (List.range ops.size).countP (fun j => !L.getD j false) = 0 := by omega
      have := List.countP_eq_zero.1 h0 j (List.mem_range.2 hj)
      simpa using this
    refine ⟨?_, hend L done rest E Pd la st ρ a w I hfull⟩
    cases hr : Region.ready .any ops L with
    | nil => rfl
    | cons i l =>
      have hi : i ∈ Region.ready .any ops L := by rw [hr]; simp
      obtain ⟨h1, o, ho, _⟩ := mem_ready.1 hi
      have hlt := (Array.getElem?_eq_some_iff.1 ho).1
      have h2 := hfull i hlt
      have hl : i < L.size := getD_lt h2
      rw [Array.getD_eq_getD_getElem?, Array.getElem?_eq_getElem hl] at h1 h2
      simp at h1 h2
      rw [h2] at h1; cases h1
  | succ fuel ih =>
    intro L done rest E Pd la st ρ a w I hc
    refine ⟨fun hr => hend L done rest E Pd la st ρ a w I (hnone L I.lsz hr), fun i hi => ?_⟩
    obtain ⟨h1, o, ho, hdeps⟩ := mem_ready.1 hi
    have hlt := (Array.getElem?_eq_some_iff.1 ho).1
    have hL : L.getD i false ≠ true := by
      have hl : i < L.size := by rw [I.lsz]; exact hlt
      rw [Array.getD_eq_getD_getElem?, Array.getElem?_eq_getElem hl] at h1 ⊢
      simpa using h1
    have hcount : (List.range ops.size).countP (fun j => !(L.setIfInBounds i true).getD j false) ≤ fuel := by
      have := count_set (p := fun j => !L.getD j false) (p' := fun j => !(L.setIfInBounds i true).getD j false) ops.size hlt (by simpa using hL) (by
        have : (L.setIfInBounds i true).getD i false = true := (getD_set (by rw [I.lsz]; exact hlt)).2 (.inl rfl)
        rw [this]; rfl) (fun j hj => by rw [getD_set_ne false (Ne.symm hj)])
      omega
    by_cases hp : Pd i
    · exact I.pending hA hP hd hp ⟨o, ho, hdeps⟩ fun Pd' ρ' a' w' I' => ih _ _ _ _ _ _ _ _ _ _ I' hcount
    · have hid : i ∉ done := fun h => hL ((I.listed i hlt).2 ⟨h, hp⟩)
      exact DI.turn hA hP hN hO hd (fun h => h) hL ⟨o, ho, hdeps⟩ rest done E Pd la st ρ I hid fun _ _ _ _ _ _ _ _ _ I' => ih _ _ _ _ _ _ _ _ _ _ I' hcount
theorem DI.anyP (hA : apartOk cx fn ops = true) (hP : cx.P = P) (hN : Named P) (hO : OracleOk P O) (hd : ∀ o ∈ ops, ∀ d, o.dst = some d → d < n) {z : Nat} {oz : Oper} (hoz : ops[z]? = some oz) (hlast : lastOk ops z oz = true)
    {ro : Option Nat} {Q : Exit → Act → World → Prop} {d : Imm} {st' : St} (hw : wantedA ops.toList oz stf.fr = some true) (hpan : apanOp cx O fn oz stf = some (d, st')) {σ : List Nat} (hσ : schedGo cx fn ops σ [] = true) (hall : ∀ j, j < ops.size → j ∈ σ)
    (hQ : ∀ ρ' a' w' v, Evo ρ0 w0 H0 ρ' w' st'.H → SR X B n (fun _ => False) ρ' st' a' w' → RepI w' (Nof ρ' st'.H X B) (Nqof ρ' st'.H X) d v → Q (.panic [{ v, recovered := false }]) a' w') :
    ∀ (fuel : Nat) (L : Array Bool) (done rest : List Nat) (E : List (Nat × List Nat)) (Pd : Nat → Prop) (la : Nat → Option Nat) (st : St) (ρ : List (Option Nat)) (a : Act) (w : World),
      DI cx fn ops O n X B (· = z) stf ρ0 w0 H0 L done rest E Pd la st ρ a w → (List.range ops.size).countP (fun j => !L.getD j false) ≤ fuel → wpAnyIn (FW ro) 0 P .any ops Q fuel L a w := by
  have hzlt : z < ops.size := (Array.getElem?_eq_some_iff.1 hoz).1
  have hzL : ∀ {L : Array Bool} {done rest : List Nat} {E : List (Nat × List Nat)} {Pd : Nat → Prop} {la : Nat → Option Nat} {st : St} {ρ : List (Option Nat)} {a : Act} {w : World},
      DI cx fn ops O n X B (· = z) stf ρ0 w0 H0 L done rest E Pd la st ρ a w → L.getD z false ≠ true := fun I h => (I.zno z rfl).1 ((I.listed z hzlt).1 h).1
  have hnone : ∀ (L : Array Bool), L.size = ops.size → Region.ready .any ops L = [] → ∀ j, j < ops.size → L.getD j false = true := by
    intro L hsz hr j hj
    refine sched_all (f := fun j => L.getD j false = true) (fun i o ho hdeps => ?_) σ [] hσ (by simp) j (hall j hj)
    by_cases h : L.getD i false = true
    · exact h
    · have : i ∈ Region.ready .any ops L := by
        rw [mem_ready]
        refine ⟨?_, o, ho, hdeps⟩
        have hlt : i < L.size := by rw [hsz]; exact (Array.getElem?_eq_some_iff.1 ho).1
        rw [Array.getD_eq_getD_getElem?, Array.getElem?_eq_getElem hlt] at h ⊢
        simpa using h
      rw [hr] at this; cases this
  intro fuel
  induction fuel with
  | zero =>
    intro L done rest E Pd la st ρ a w I hc
    have h0 : (List.range ops.size).countP (fun j => !L.getD j false) = 0 := by omega
    have := List.countP_eq_zero.1 h0 z (List.mem_range.2 hzlt)
    exact absurd (by simpa using this) (hzL I)
  | succ fuel ih =>
    intro L done rest E Pd la st ρ a w I hc
    refine ⟨fun hr => absurd (hnone L I.lsz hr z hzlt) (hzL I), fun i hi => ?_⟩
    obtain ⟨h1, o, ho, hdeps⟩ := mem_ready.1 hi
    have hlt := (Array.getElem?_eq_some_iff.1 ho).1
    have hL : L.getD i false ≠ true := by
      have hl : i < L.size := by rw [I.lsz]; exact hlt
      rw [Array.getD_eq_getD_getElem?, Array.getElem?_eq_getElem hl] at h1 ⊢
      simpa using h1
    have hcount : (List.range ops.size).countP (fun j => !(L.setIfInBounds i true).getD j false) ≤ fuel := by
      have := count_set (p := fun j => !L.getD j false) (p' := fun j => !(L.setIfInBounds i true).getD j false) ops.size hlt (by simpa using hL) (by
        have : (L.setIfInBounds i true).getD i false = true := (getD_set (by rw [I.lsz]; exact hlt)).2 (.inl rfl)
        rw [this]; rfl) (fun j hj => by rw [getD_set_ne false (Ne.symm hj)])
      omega
    by_cases hz : i = z
    · subst hz
      rw [hoz] at ho; cases ho
      have hfull : ∀ j, j < ops.size → j ≠ i → L.getD j false = true := fun j hj hne => by
        unfold lastOk at hlast
        rw [List.all_eq_true] at hlast
        have := hlast j (List.mem_range.2 hj)
        simp only [Bool.or_eq_true, beq_iff_eq] at this
        exact reach_listed (L := fun j => L.getD j false = true) (fun j o' ho' hL => I.down j o' ho' hL) ops.size oz hdeps (this.resolve_left hne)
      have hPd : ∀ p, ¬ Pd p := fun p hp => by
        have hpd := I.pd p hp
        obtain ⟨o, ho, _⟩ := I.cl p hpd
        have hlt := (Array.getElem?_eq_some_iff.1 ho).1
        exact ((I.listed p hlt).1 (hfull p hlt fun e => (I.zno i rfl).1 (e ▸ hpd))).2 hp
      have hrest : rest = [] := by
        cases hr : rest with
        | nil => rfl
        | cons k rest' =>
          have hgo := I.go
          rw [hr] at hgo
          obtain ⟨o, ho, _, hk, _⟩ := schedGo_cons hgo
          have hlt := (Array.getElem?_eq_some_iff.1 ho).1
          exact absurd ((I.listed k hlt).1 (hfull k hlt fun e => (I.zno i rfl).2 (by rw [hr, e]; simp))).1 hk
      have hrun := I.run
      rw [hrest, adraw] at hrun
      cases hrun
      have S' : SR X B n (fun _ => False) ρ stf a w := ⟨I.sr.rel, fun t _ => I.sr.fr t fun ⟨p, _, hp, _⟩ => hPd p hp, I.sr.size, I.sr.marks⟩
      unfold wpOpIn
      simp only [hoz]
      rw [if_pos (wanted_ok hw S' fun _ _ _ _ _ h => h)]
      exact apanOp_ok hP hN hO hpan S' (fun _ _ h => h) fun ρ' w' v E' S2 hv => hQ ρ' a w' v (I.evo.trans E') S2 hv
    · by_cases hp : Pd i
      · exact I.pending hA hP hd hp ⟨o, ho, hdeps⟩ fun Pd' ρ' a' w' I' => ih _ _ _ _ _ _ _ _ _ _ I' hcount
      · have hid : i ∉ done := fun h => hL ((I.listed i hlt).2 ⟨h, hp⟩)
        exact DI.turn (Z := (· = z)) (i := i) hA hP hN hO hd hz hL ⟨o, ho, hdeps⟩ rest done E Pd la st ρ I hid fun _ _ _ _ _ _ _ _ _ I' => ih _ _ _ _ _ _ _ _ _ _ I' hcount
theorem schedGo_init {z : Nat} : ∀ (σ done : List Nat), schedGo cx fn ops (σ ++ [z]) done = true → schedGo cx fn ops σ done = true ∧ z ∉ done ∧ z ∉ σ
  | [], done, h => by
    obtain ⟨_, _, _, h1, _⟩ := schedGo_cons h
    exact ⟨rfl, h1, by simp⟩
  | i :: σ, done, h => by
    obtain ⟨o, ho, h1, h2, h3, h4⟩ := schedGo_cons h
    obtain ⟨h5, h6, h7⟩ := schedGo_init σ (i :: done) h4
    rw [List.cons_append, schedGo] at h
    rw [schedGo]
    rw [ho] at h ⊢
    simp only [Bool.and_eq_true, Bool.or_eq_true, Bool.not_eq_true', List.all_append] at h ⊢
    obtain ⟨⟨⟨q1, q2⟩, q3⟩, _⟩ := h
    refine ⟨⟨⟨⟨q1, q2⟩, q3.imp id fun h => h.1⟩, h5⟩, fun hz => h6 (List.mem_cons_of_mem _ hz), fun hz => ?_⟩
    rcases List.mem_cons.1 hz with rfl | hz
    · exact h6 (by simp)
    · exact h7 hz
end
/-- A region that draws its order. -/
theorem adraw_ok {n : Nat} {st st' : St} {a : Act} {σ : List Nat} {ro : Option Nat} {id : Nat} {Q : Exit → Act → World → Prop} (hP : cx.P = P) (hN : Named P) (hO : OracleOk P O) (hm : P.follows .mixedOrders = true) (hd : ∀ o ∈ ops, ∀ d, o.dst = some d → d < n) (hs : schedOk cx fn ops σ = true)
    (h : adraw cx O fn ops σ [] st = some st') (S : SR X B n (fun _ => False) ρ st a w) (hQ : ∀ ρ' a' w', Evo ρ w st.H ρ' w' st'.H → SR X B n (fun _ => False) ρ' st' a' w' → Q .normal a' w') : (Code.region id ops true).wpIn (FW ro) 0 P Q a w := by
  unfold schedOk at hs
  simp only [Bool.and_eq_true, List.all_eq_true] at hs
  obtain ⟨⟨h1, h2⟩, h3⟩ := hs
  have hall : ∀ j, j < ops.size → j ∈ σ := fun j hj => by simpa using h2 j (List.mem_range.2 hj)
  have hw : HeapIs w { w with drawn := w.drawn + 1 } w.heap := ⟨rfl, rfl, rfl, rfl⟩
  have E0 : Evo ρ w st.H ρ { w with drawn := w.drawn + 1 } st.H := Evo.idle hw
  refine wpIn_region_any hm (DI.any (stf := st') (ρ0 := ρ) (w0 := w) (H0 := st.H) h3 hP hN hO hd h1 hall hQ ops.size _ [] σ [] (fun _ => False) (fun _ => none) st ρ a _ ?_ ?_)
  · exact
    { go := h1
      all := fun j hj _ => .inr (hall j hj)
      zno := fun j hj => hj.elim
      cl := fun j hj => by cases hj
      pd := fun p hp => hp.elim
      lsz := by simp
      listed := fun j hj => by
        constructor
        · intro h
          have : (Array.replicate ops.size false).getD j false = false := by simp [Array.getD_eq_getD_getElem?, hj]
          rw [this] at h; cases h
        · rintro ⟨h, _⟩; cases h
      down := fun j o ho hL => by
        have hj := (Array.getElem?_eq_some_iff.1 ho).1
        have : (Array.replicate ops.size false).getD j false = false := by simp [Array.getD_eq_getD_getElem?, hj]
        rw [this] at hL; cases hL
      run := h
      sr := ⟨S.rel.idle hw, fun t _ => RepA.mono E0 (E0.stay X B) _ _ (S.fr t fun h => h), S.size, S.marks.mono E0⟩
      evo := E0
      pend := fun p _ hp => hp.elim
      pmob := fun p _ hp => hp.elim
      lab := fun p _ hp => hp.elim
      inj := fun p _ _ hp => hp.elim }
  · exact Nat.le_trans List.countP_le_length (by simp)
/-- A region that draws its order and panics. -/
theorem adrawP_ok {n : Nat} {st st' : St} {d : Imm} {a : Act} {σ : List Nat} {ro : Option Nat} {id : Nat} {Q : Exit → Act → World → Prop} (hP : cx.P = P) (hN : Named P) (hO : OracleOk P O) (hm : P.follows .mixedOrders = true) (hd : ∀ o ∈ ops, ∀ d, o.dst = some d → d < n) (hs : schedOk cx fn ops σ = true)
    (h : adrawP cx O fn ops σ st = some (d, st')) (S : SR X B n (fun _ => False) ρ st a w)
    (hQ : ∀ ρ' a' w' v, Evo ρ w st.H ρ' w' st'.H → SR X B n (fun _ => False) ρ' st' a' w' → RepI w' (Nof ρ' st'.H X B) (Nqof ρ' st'.H X) d v → Q (.panic [{ v, recovered := false }]) a' w') : (Code.region id ops true).wpIn (FW ro) 0 P Q a w := by
  unfold schedOk at hs
  simp only [Bool.and_eq_true, List.all_eq_true] at hs
  obtain ⟨⟨h1, h2⟩, h3⟩ := hs
  have hall : ∀ j, j < ops.size → j ∈ σ := fun j hj => by simpa using h2 j (List.mem_range.2 hj)
  have hw : HeapIs w { w with drawn := w.drawn + 1 } w.heap := ⟨rfl, rfl, rfl, rfl⟩
  have E0 : Evo ρ w st.H ρ { w with drawn := w.drawn + 1 } st.H := Evo.idle hw
  unfold adrawP at h
  split at h
  · cases h
  rename_i z hz
  split at h
  · cases h
  rename_i oz hoz
  split at h
  · rename_i hl
    split at h
    · cases h
    rename_i st1 hst1
    split at h
    · rename_i hwt
      obtain ⟨σ', rfl⟩ := List.getLast?_eq_some_iff.1 hz
      rw [List.dropLast_concat] at hst1
      obtain ⟨g1, g2, g3⟩ := schedGo_init _ _ h1
      refine wpIn_region_any hm (DI.anyP (stf := st1) (ρ0 := ρ) (w0 := w) (H0 := st.H) h3 hP hN hO hd hoz hl hwt h h1 hall hQ ops.size _ [] σ' [] (fun _ => False) (fun _ => none) st ρ a _ ?_ ?_)
      · exact
        { go := g1
          all := fun j hj hne => by
            have := hall j hj
            rw [List.mem_append, List.mem_singleton] at this
            exact .inr (this.resolve_right hne)
          zno := fun j hj => by subst hj; exact ⟨g2, g3⟩
          cl := fun j hj => by cases hj
          pd := fun p hp => hp.elim
          lsz := by simp
          listed := fun j hj => by
            constructor
            · intro h
              have : (Array.replicate ops.size false).getD j false = false := by simp [Array.getD_eq_getD_getElem?, hj]
              rw [this] at h; cases h
            · rintro ⟨h, _⟩; cases h
          down := fun j o ho hL => by
            have hj := (Array.getElem?_eq_some_iff.1 ho).1
            have : (Array.replicate ops.size false).getD j false = false := by simp [Array.getD_eq_getD_getElem?, hj]
            rw [this] at hL; cases hL
          run := hst1
          sr := ⟨S.rel.idle hw, fun t _ => RepA.mono E0 (E0.stay X B) _ _ (S.fr t fun h => h), S.size, S.marks.mono E0⟩
          evo := E0
          pend := fun p _ hp => hp.elim
          pmob := fun p _ hp => hp.elim
          lab := fun p _ hp => hp.elim
          inj := fun p _ _ hp => hp.elim }
      · exact Nat.le_trans List.countP_le_length (by simp)
    · cases h
  · cases h
end
end Go.Proofs.Ytnbbhbbhgcipjaa.Am
