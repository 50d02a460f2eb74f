/-
  Code of the abstract machine answers for the model's.
  Loops over functions: the records.
  The abstract machine answers for the model: code, functions, rounds.
  What a run of the abstract machine says of the model.
  A calculus for runs of the abstract machine on symbolic data.
  More fuel changes nothing.
-/
import Derived.Test.YtnbbhbbhgcipjaaMc
import Derived.RangeFuncRecord
set_option linter.unusedVariables false
set_option linter.unnecessarySimpa false
set_option linter.unusedSimpArgs false
set_option linter.unusedSectionVars false
namespace Go.Proofs.Ytnbbhbbhgcipjaa.Am

/-- Does the code fit into so many temporaries, and are its orders good? -/
def codeFit (cx : Cx) (fn : FuncId) (n : Nat) : Code → Bool
  | .region id ops draw => ops.all (fun o => match o.dst with | some d => decide (d < n) | none => true) && (!draw || schedOk cx fn ops (cx.sched fn id))
  | .seq a b | .cond _ a b => codeFit cx fn n a && codeFit cx fn n b
  | .block _ a | .scope a | .loop a => codeFit cx fn n a
  | .rangeFunc _ ps a b => ps.all (fun t => decide (t < n)) && codeFit cx fn n a && codeFit cx fn n b
  | _ => true
theorem fit_dst {cx : Cx} {fn : FuncId} {n id : Nat} {ops : Array Oper} {draw : Bool} (h : codeFit cx fn n (.region id ops draw) = true) : (∀ o ∈ ops, ∀ d, o.dst = some d → d < n) ∧ (draw = true → schedOk cx fn ops (cx.sched fn id) = true) := by
  rw [codeFit] at h
  simp only [Bool.and_eq_true, Bool.or_eq_true, Bool.not_eq_true', Array.all_eq_true_iff_forall_mem] at h
  refine ⟨fun o ho d hd => ?_, fun hdr => h.2.resolve_left (by rw [hdr]; simp)⟩
  have := h.1 o ho
  rw [hd] at this
  simpa using this

variable [LFit]
section
variable {P : Program} {X B : Nat → Prop} {ρ : List (Option Nat)} {w : World} {H : AHeap} {cx : Cx} {O : Oracle} {n : Nat} {st : St} {a : Act}

def exOf : Ex → Exit
  | .nrm => .normal
  | .exit id => .exit id
  | .ret => .ret
/-- The loop whose round it is. -/
def RD (ρ : List (Option Nat)) (H : AHeap) : Option Nat → Option Nat → Prop
  | none, ro => ro = none
  | some l, ro => ∃ bl, ro = some bl ∧ RepFn ρ H (.yield l) (.yield bl)
theorem RD.mono {ρ' : List (Option Nat)} {w' : World} {H' : AHeap} (E : Evo ρ w H ρ' w' H') {rd ro : Option Nat} (h : RD ρ H rd ro) : RD ρ' H' rd ro := by
  cases rd with
  | none => exact h
  | some l =>
    obtain ⟨bl, h1, h2⟩ := h
    exact ⟨bl, h1, RepFn.monoS E.sees h2⟩

theorem SR.cleaned (S : SR X B n (fun _ => False) ρ st a w) (keep : Option (List Nat)) : SR X B n (fun _ => False) ρ (clean keep st) a w := by
  cases keep with
  | none => exact S
  | some l =>
    refine ⟨S.rel, fun t _ => ?_, S.size, S.marks⟩
    have : Fr.get (clean (some l) st).fr t = Fr.get st.fr t ∨ Fr.get (clean (some l) st).fr t = .top := by
      show Fr.get (l.filterMap fun t => (st.fr.lookup t).map (t, ·)) t = _ ∨ Fr.get (l.filterMap fun t => (st.fr.lookup t).map (t, ·)) t = _
      induction l with
      | nil => right; rfl
      | cons x l ih =>
        rw [List.filterMap_cons]
        cases hx : st.fr.lookup x with
        | none => exact ih
        | some v =>
          simp only [Option.map_some]
          rw [get_put]
          by_cases e : t = x
          · subst e; rw [if_pos rfl]; left; unfold Fr.get; rw [hx]; rfl
          · rw [if_neg e]; exact ih
    rcases this with h | h
    · rw [h]; exact S.fr t (fun h => h)
    · rw [h]; trivial
theorem exists_min {p : Nat → Prop} : ∀ j, p j → ∃ m, p m ∧ ∀ i, p i → m ≤ i := by
  intro j
  induction j using Nat.strongRecOn with
  | _ j ih =>
    intro hj
    by_cases h : ∃ i, i < j ∧ p i
    · obtain ⟨i, hi, hp⟩ := h
      exact ih i hi hp
    · exact ⟨j, hj, fun i hi => by
        rcases Nat.lt_or_ge i j with h' | h'
        · exact absurd ⟨i, h', hi⟩ h
        · exact h'⟩
open Classical in
/-- A loop, by how many rounds are left at most. -/
theorem wpIn_loop_by {F : Fence} {m : Nat} {c : Code} {Q : Exit → Act → World → Prop} (I : Nat → Act → World → Prop) {j : Nat} (h0 : I j a w)
    (round : ∀ j a w, I j a w → c.wpIn F m P (Exit.then (fun a' w' => ∃ i, i < j ∧ I i a' w') Q) a w) : (Code.loop c).wpIn F m P Q a w := by
  refine wpIn_loop (fun a w => ∃ j, I j a w) (fun a w => if h : ∃ j, I j a w then Classical.choose (exists_min (p := fun j => I j a w) h.choose h.choose_spec) else 0) ⟨j, h0⟩ fun a w hI => ?_
  have hmin := Classical.choose_spec (exists_min (p := fun j => I j a w) hI.choose hI.choose_spec)
  refine wpIn_mono (round _ a w hmin.1) fun e a' w' hq => ?_
  cases e with
  | normal =>
    obtain ⟨i, hi, hI'⟩ := hq
    have hex : ∃ j, I j a' w' := ⟨i, hI'⟩
    refine ⟨hex, ?_⟩
    rw [dif_pos hex, dif_pos hI]
    have hmin' := Classical.choose_spec (exists_min (p := fun j => I j a' w') hex.choose hex.choose_spec)
    exact Nat.lt_of_le_of_lt (hmin'.2 i hI') hi
  | _ => exact hq
theorem wpIn_scope {F : Fence} {m : Nat} {c : Code} {Q : Exit → Act → World → Prop} (h : c.wpIn F m P (fun e a w => (∀ l, e ≠ .goto l) ∧ Q e a w) a w) : (Code.scope c).wpIn F m P Q a w := by
  intro b k cs hro hb hr
  have s1 : step P (lone (b.atR a (.code (.scope c) :: k)) cs w) = .next (lone (b.atR a (.code c :: .inScope c :: k)) cs w) := step_lone_go (by simp [stepG, stepG.exec, Frame.atR])
  have h0 : (lone (b.atR a (.code (.scope c) :: k)) cs w).fenced P F := fenced_calm hb hr rfl
  obtain ⟨e, a₁, w₁, ⟨hng, hq⟩, harr⟩ := h b (.inScope c :: k) cs hro hb hr
  have s2 : ∀ a w, step P (lone (b.atR a (.inScope c :: k)) cs w) = .next (lone (b.atR a k) cs w) := fun a w => step_lone_go (by simp [stepG, stepG.exec, Frame.atR])
  cases e with
  | normal => exact ⟨.normal, a₁, w₁, hq, .head h0 s1 (StepsIn.trans harr (.one (fenced_calm hb hr rfl) (s2 _ _)))⟩
  | exit id =>
    have hx : exitTo id (.inScope c :: k) = exitTo id k := by simp [exitTo]
    exact ⟨.exit id, a₁, w₁, hq, fun k' hk => .head h0 s1 (harr.1 k' (by rw [hx]; exact hk)), fun hr' hk => let ⟨k₁, h1, h2⟩ := harr.2 hr' (by rw [hx]; exact hk); ⟨k₁, h1, .head h0 s1 h2⟩⟩
  | goto l => exact absurd rfl (hng l)
  | ret => exact ⟨_, a₁, w₁, hq, .of_steps (.one h0 s1) harr⟩
  | panic ch => exact ⟨_, a₁, w₁, hq, .of_steps (.one h0 s1) harr⟩
  | outgrown => exact ⟨_, a₁, w₁, hq, .of_steps (.one h0 s1) harr⟩

/-- What the loops' records are asked. -/
def FitIs (cx : Cx) [LFit] : Prop := ∀ fn ps a b sz, LFit.fit fn ps a b sz ↔ ∃ n, n ≤ sz ∧ (∀ t ∈ ps, t < n) ∧ codeFit cx fn n a = true ∧ codeFit cx fn n b = true

theorem range_idx (ops : Array Oper) : (List.range ops.size).map (ops[·]?) = ops.toList.map some := by
  apply List.ext_getElem?
  intro i
  by_cases h : i < ops.size
  · simp [h]
  · rw [List.getElem?_eq_none (by simp; omega), List.getElem?_eq_none (by simp; omega)]
theorem callee_split {f : AV} {cf : Value} {as args : List AV} {g : FuncId} (h : callee f as = some (.fn g args)) (hf : Rp X B ρ w H f cf) : ∃ cap xs, cf = .func (.func g) #[] cap ∧ args = as ++ xs ∧ RepAL w ρ H (Nof ρ H X B) (Nqof ρ H X) xs cap.toList := by
  unfold callee at h
  split at h
  · cases h
    obtain ⟨l, rfl, hl⟩ := hf
    exact ⟨l, _, rfl, rfl, RepAL.im.2 hl⟩
  · cases h
    obtain ⟨f', l, rfl, hf', hl⟩ := hf
    cases hf'
    exact ⟨l, _, rfl, rfl, hl⟩
  · cases h
  · cases h
end
end Go.Proofs.Ytnbbhbbhgcipjaa.Am

namespace Go.Proofs.Ytnbbhbbhgcipjaa.Am
variable [LFit]
section
variable {P : Program} {X B : Nat → Prop} {ρ : List (Option Nat)} {w : World} {H : AHeap} {cx : Cx} {O : Oracle} {n : Nat} {st : St} {a : Act}

theorem HRel.evo_put (R : HRel X B ρ w H) {w' : World} {l b : Nat} {o o' : AObj} {oc : Obj} (hw : HeapIs w w' (w.heap.setIfInBounds b oc)) (ho : H[l]? = some o) (hlive : o.live = true) (hb : look ρ l = some b) (he : OEvo ρ ρ w w' l o o') : Evo ρ w H ρ w' (H.set l o') := by
  have E0 := (R.put hw ho hlive hb (o' := .gone) (by cases o <;> trivial) trivial).1
  have hl : l < H.length := (List.getElem?_eq_some_iff.1 ho).1
  exact
    { os := hw.os, tape := hw.tape, output := hw.output, size := E0.size, same := E0.same, len := by simp
      obj := fun l' o1 h => by
        by_cases e : l' = l
        · subst e; rw [ho] at h; cases h; exact ⟨o', by simp [hl], he⟩
        · obtain ⟨o2, h1, h2⟩ := E0.obj l' o1 h
          rw [List.getElem?_set_ne (Ne.symm e)] at h1
          exact ⟨o2, by rw [List.getElem?_set_ne (Ne.symm e)]; exact h1, h2⟩
      fresh := fun b' hb' _ => by
        obtain ⟨l', o1, h, hlv, hr⟩ := hb'
        by_cases e : l' = l
        · subst e; exact ⟨l', _, ho, hlive, hr⟩
        · rw [List.getElem?_set_ne (Ne.symm e)] at h; exact ⟨l', o1, h, hlv, hr⟩ }
theorem putObj_is (b : Nat) (oc : Obj) : HeapIs w (w.putObj b oc) (w.heap.setIfInBounds b oc) := ⟨rfl, rfl, rfl, rfl⟩
theorem HRel.putLoop (R : HRel X B ρ w H) {l bl : Nat} {L : Loop} {s s' : LoopState} {p p' : Option Jmp} {fn : FuncId} {fr : Fr} {ps : List Tmp} {ca cb : Code} {d : Nat} (ho : H[l]? = some (.loop s p fn fr ps ca cb d)) (hb : look ρ l = some bl) (hL : w.heap[bl]? = some (.loop L)) :
    Evo ρ w H ρ (w.putObj bl (.loop { L with state := s', pending := p'.map Jmp.code })) (H.set l (.loop s' p' fn fr ps ca cb d)) ∧
    HRel X B ρ (w.putObj bl (.loop { L with state := s', pending := p'.map Jmp.code })) (H.set l (.loop s' p' fn fr ps ca cb d)) := by
  have hw := putObj_is (w := w) bl (.loop { L with state := s', pending := p'.map Jmp.code })
  have he : OEvo ρ ρ w (w.putObj bl (.loop { L with state := s', pending := p'.map Jmp.code })) l (.loop s p fn fr ps ca cb d) (.loop s' p' fn fr ps ca cb d) := ⟨s', p', rfl, rfl⟩
  have E := R.evo_put hw ho rfl hb he
  obtain ⟨bl', L', h1, h2, _, _, h5, h6⟩ := R.obj l _ ho
  rw [hb] at h1; cases h1
  rw [hL] at h2; cases h2
  exact R.put hw ho rfl hb he ⟨bl, _, hb, hw.set_same (Array.getElem?_eq_some_iff.1 hL).1, rfl, rfl, RepFr.monoS E.sees (E.stay X B) h5, h6⟩
theorem HRel.putDfr (R : HRel X B ρ w H) {l b : Nat} (ho : H[l]? = some (.dfr false)) (hb : look ρ l = some b) :
    Evo ρ w H ρ (w.putObj b (.deferred none)) (H.set l (.dfr true)) ∧ HRel X B ρ (w.putObj b (.deferred none)) (H.set l (.dfr true)) := by
  obtain ⟨b', h1, h2⟩ := R.obj l _ ho
  rw [hb] at h1; cases h1
  have hw := putObj_is (w := w) b (.deferred none)
  exact R.put hw ho rfl hb ⟨true, rfl, rfl⟩ ⟨b, hb, hw.set_same (Array.getElem?_eq_some_iff.1 h2).1⟩
/-- A new loop's record. -/
theorem HRel.newLoop (R : HRel X B ρ w H) {fn fn' : FuncId} {fr : Fr} {tmps : Array Value} {ps : Array Tmp} {ca cb : Code} {d : Nat} {dd : Nat} (hfr : RepFr w ρ H (Nof ρ H X B) (Nqof ρ H X) fr tmps) (hfit : LFit.fit fn ps.toList ca cb tmps.size) :
    Evo ρ w H (ρ ++ [some w.heap.size]) (w.alloc (.loop { state := .ready, pending := none, fn := fn', tmps, params := ps, assign := ca, body := cb, defers := d })) (H ++ [.loop .ready none fn fr ps.toList ca cb dd]) ∧
    HRel X B (ρ ++ [some w.heap.size]) (w.alloc (.loop { state := .ready, pending := none, fn := fn', tmps, params := ps, assign := ca, body := cb, defers := d })) (H ++ [.loop .ready none fn fr ps.toList ca cb dd]) := by
  have hw := alloc_is (w := w) (.loop { state := .ready, pending := none, fn := fn', tmps, params := ps, assign := ca, body := cb, defers := d })
  obtain ⟨E0, _⟩ := R.push hw .gone trivial
  have E : Evo ρ w H (ρ ++ [some w.heap.size]) (w.alloc (.loop { state := .ready, pending := none, fn := fn', tmps, params := ps, assign := ca, body := cb, defers := d })) (H ++ [.loop .ready none fn fr ps.toList ca cb dd]) :=
    { os := E0.os, tape := E0.tape, output := E0.output, size := E0.size, same := E0.same, len := by simp
      obj := fun l o h => by
        obtain ⟨o', h1, h2⟩ := E0.obj l o h
        have hl : l < H.length := (List.getElem?_eq_some_iff.1 h).1
        rw [List.getElem?_append_left hl] at h1
        exact ⟨o', by rw [List.getElem?_append_left hl]; exact h1, h2⟩
      fresh := fun b hb hlt => by
        obtain ⟨l, o', h, hl, hr⟩ := hb
        rcases append_case h with ⟨h1, h2⟩ | ⟨rfl, rfl⟩
        · rw [look_append (by rw [R.len]; exact h1)] at hr
          exact ⟨l, o', h2, hl, hr⟩
        · rw [← R.len, look_new] at hr; cases hr; omega }
  exact R.push hw _ ⟨w.heap.size, _, new_look R _, hw.new, rfl, rfl, RepFr.monoS E.sees (E.stay X B) hfr, rfl, rfl, rfl, hfit⟩
end
end Go.Proofs.Ytnbbhbbhgcipjaa.Am

namespace Go.Proofs.Ytnbbhbbhgcipjaa.Am
variable [LFit]
section
variable {P : Program} {X B : Nat → Prop} {ρ : List (Option Nat)} {w : World} {H : AHeap} {cx : Cx} {O : Oracle} {n : Nat} {st : St} {a : Act}

theorem SR.toFr (S : SR X B n (fun _ => False) ρ st a w) : RepFr w ρ st.H (Nof ρ st.H X B) (Nqof ρ st.H X) st.fr a.tmps := fun t => S.fr t fun h => h
theorem SR.of {fr : Fr} {ds : List Nat} (R : HRel X B ρ w H) (hf : RepFr w ρ H (Nof ρ H X B) (Nqof ρ H X) fr a.tmps) (hn : n ≤ a.tmps.size) (hm : MarksRep ρ H ds a.defers) : SR X B n (fun _ => False) ρ ⟨fr, ds, H⟩ a w := ⟨R, fun t _ => hf t, hn, hm⟩
theorem SR.step {ρ' : List (Option Nat)} {w' : World} {H' : AHeap} (S : SR X B n (fun _ => False) ρ st a w) (E : Evo ρ w st.H ρ' w' H') (R : HRel X B ρ' w' H') : SR X B n (fun _ => False) ρ' { st with H := H' } a w' :=
  ⟨R, fun t ht => RepA.mono E (E.stay X B) _ _ (S.fr t ht), S.size, S.marks.mono E⟩

theorem enterLoop_ok (hF : FitIs cx) {fn fn' : FuncId} {rd ro : Option Nat} {ps : Array Tmp} {ca cb : Code} {l : Nat} {st1 : St} (h : enterLoop fn rd ps.toList ca cb st = some (l, st1)) (hrd : RD ρ st.H rd ro) (S : SR X B n (fun _ => False) ρ st a w)
    (hp : ∀ t ∈ ps.toList, t < n) (ha : codeFit cx fn n ca = true) (hb : codeFit cx fn n cb = true) :
    ∃ bl mark w1 ρ1, (Instr.enterLoop fn' a.tmps ps ca cb ro).run P w = .ok (bl, mark) w1 ∧ Evo ρ w st.H ρ1 w1 st1.H ∧ SR X B n (fun _ => False) ρ1 st1 { a with defers := mark ++ a.defers } w1 ∧ RepFn ρ1 st1.H (.yield l) (.yield bl) ∧
      look ρ1 l = some bl ∧ (∃ s p fr a b d, st1.H[l]? = some (.loop s p fn fr ps.toList a b d)) := by
  have hfit : LFit.fit fn ps.toList ca cb a.tmps.size := (hF _ _ _ _ _).2 ⟨n, S.size, hp, ha, hb⟩
  have hloop : ∀ {ρ1 : List (Option Nat)} {H1 : AHeap} {fr : Fr} {d : Nat} {bl : Nat}, look ρ1 H1.length = some bl → RepFn ρ1 (H1 ++ [.loop .ready none fn fr ps.toList ca cb d]) (.yield H1.length) (.yield bl) := fun h => ⟨by simp, fun _ _ _ _ _ _ _ _ _ => ⟨_, h, rfl⟩⟩
  cases rd with
  | none =>
    have hro : ro = none := hrd
    subst hro
    simp only [enterLoop, Option.some.injEq, Prod.mk.injEq] at h
    obtain ⟨rfl, rfl⟩ := h
    have hw := alloc_is (w := w) (.deferred (some []))
    obtain ⟨E1, R1⟩ := S.rel.push hw (.dfr false) ⟨w.heap.size, new_look S.rel _, hw.new⟩
    obtain ⟨E2, R2⟩ := R1.newLoop (fn := fn) (fn' := fn') (d := w.heap.size) (dd := st.H.length) (ca := ca) (cb := cb) (ps := ps) (RepFr.monoS E1.sees (E1.stay X B) S.toFr) hfit
    have e1 : st.H ++ [AObj.dfr false] ++ [AObj.loop .ready none fn st.fr ps.toList ca cb st.H.length] = st.H ++ [.dfr false, .loop .ready none fn st.fr ps.toList ca cb st.H.length] := by simp
    have hsz : (w.alloc (.deferred (some []))).heap.size = w.heap.size + 1 := hw.size_push
    have hlk : look (ρ ++ [some w.heap.size] ++ [some (w.alloc (.deferred (some []))).heap.size]) (st.H.length + 1) = some (w.heap.size + 1) := by
      have := new_look R1 (some (w.alloc (.deferred (some []))).heap.size)
      rw [hsz] at this
      simpa using this
    have hl2 := hloop (ρ1 := ρ ++ [some w.heap.size] ++ [some (w.alloc (.deferred (some []))).heap.size]) (H1 := st.H ++ [.dfr false]) (fr := st.fr) (d := st.H.length) (bl := w.heap.size + 1) (by simpa using hlk)
    rw [e1] at E2 R2 hl2
    refine ⟨w.heap.size + 1, [{ target := .collected w.heap.size, args := #[] }], _, _, run_enterLoop_outer fn' a.tmps ps ca cb, E1.trans E2, ⟨R2, fun t ht => RepA.mono (E1.trans E2) ((E1.trans E2).stay X B) _ _ (S.fr t ht), S.size, _, _, rfl, ⟨by simp, fun s hs => ?_⟩, S.marks.mono (E1.trans E2)⟩, by simpa using hl2, hlk, .ready, none, st.fr, ca, cb, st.H.length, by simp⟩
    refine ⟨w.heap.size, ?_, rfl⟩
    have h1 := new_look S.rel (some w.heap.size)
    rw [look_append (by rw [List.length_append, S.rel.len]; simp)]
    exact h1
  | some l0 =>
    obtain ⟨bl0, rfl, hl0, hfn⟩ := hrd
    simp only [enterLoop] at h
    split at h
    · rename_i s0 p0 fn0 fr0 ps0 a0 b0 d0 ho
      simp only [Option.some.injEq, Prod.mk.injEq] at h
      obtain ⟨rfl, rfl⟩ := h
      obtain ⟨bl', hbl', e⟩ := hfn _ _ _ _ _ _ _ _ ho
      cases e
      obtain ⟨bl2, L0, h1, h2, _⟩ := S.rel.obj l0 _ ho
      rw [hbl'] at h1; cases h1
      obtain ⟨E1, R1⟩ := S.rel.newLoop (fn := fn) (fn' := fn') (d := L0.defers) (dd := d0) (ca := ca) (cb := cb) (ps := ps) S.toFr hfit
      have hlk := new_look S.rel (some w.heap.size)
      refine ⟨w.heap.size, [], _, _, ?_, E1, S.step E1 R1, hloop hlk, hlk, .ready, none, st.fr, ca, cb, d0, by simp⟩
      unfold Instr.enterLoop
      simp only [Sem.run_bind, run_getLoop h2, run_newObj_alloc, Result.andThen, Sem.run_pure]
    · cases h

/-- The code of an activation. -/
theorem aexec_ok (hP : cx.P = P) (hN : Named P) (hO : OracleOk P O) (hm : P.follows .mixedOrders = true) (hF : FitIs cx) {fn : FuncId} {k : Nat} {rd ro : Option Nat} :
    ∀ (c : Code) (st : St) (ex : Ex) (st' : St) (ρ : List (Option Nat)) (a : Act) (w : World) (Q : Exit → Act → World → Prop), codeFit cx fn n c = true → aexec cx O k fn rd c st = some (ex, st') → RD ρ st.H rd ro → SR X B n (fun _ => False) ρ st a w →
      (∀ ρ' a' w', Evo ρ w st.H ρ' w' st'.H → SR X B n (fun _ => False) ρ' st' a' w' → Q (exOf ex) a' w') → c.wpIn (FW ro) 0 P Q a w
  | .skip, st, ex, st', ρ, a, w, Q, _, h, _, S, hQ => by
    rw [aexec] at h; cases h
    exact wpIn_skip (hQ ρ a w (Evo.refl _ _ _) S)
  | .label l, st, ex, st', ρ, a, w, Q, _, h, _, S, hQ => by
    rw [aexec] at h; cases h
    exact wpIn_label (hQ ρ a w (Evo.refl _ _ _) S)
  | .exit id, st, ex, st', ρ, a, w, Q, _, h, _, S, hQ => by
    rw [aexec] at h; cases h
    exact wpIn_exit (hQ ρ a w (Evo.refl _ _ _) S)
  | .ret, st, ex, st', ρ, a, w, Q, _, h, _, S, hQ => by
    rw [aexec] at h; cases h
    exact wpIn_ret (hQ ρ a w (Evo.refl _ _ _) S)
  | .region id ops draw, st, ex, st', ρ, a, w, Q, hf, h, _, S, hQ => by
    rw [aexec] at h
    obtain ⟨hd, hs⟩ := fit_dst hf
    split at h
    · rename_i st1 hst1
      cases h
      cases draw with
      | true =>
        simp only [if_true] at hst1
        exact adraw_ok hP hN hO hm hd (hs rfl) hst1 S fun ρ' a' w' E S' => hQ ρ' a' w' (by cases cx.keep fn id <;> exact E) (S'.cleaned _)
      | false =>
        simp only [Bool.false_eq_true, if_false] at hst1
        exact wpIn_region (aops_ok hP hN hO hd ops.toList _ st st1 ρ a w (range_idx ops) hst1 S fun ρ' a' w' E S' => hQ ρ' a' w' (by cases cx.keep fn id <;> exact E) (S'.cleaned _))
    · cases h
  | .seq x y, st, ex, st', ρ, a, w, Q, hf, h, hrd, S, hQ => by
    rw [codeFit, Bool.and_eq_true] at hf
    rw [aexec] at h
    refine wpIn_seq ?_
    cases hx : aexec cx O k fn rd x st with
    | none => rw [hx] at h; cases h
    | some r =>
      obtain ⟨ex1, st1⟩ := r
      rw [hx] at h
      refine aexec_ok hP hN hO hm hF x st ex1 st1 ρ a w _ hf.1 hx hrd S fun ρ1 a1 w1 E1 S1 => ?_
      cases ex1 with
      | nrm =>
        show y.wpIn (FW ro) 0 P Q a1 w1
        exact aexec_ok hP hN hO hm hF y st1 ex st' ρ1 a1 w1 Q hf.2 h (hrd.mono E1) S1 fun ρ2 a2 w2 E2 S2 => hQ ρ2 a2 w2 (E1.trans E2) S2
      | exit id => cases h; exact hQ ρ1 a1 w1 E1 S1
      | ret => cases h; exact hQ ρ1 a1 w1 E1 S1
  | .cond c x y, st, ex, st', ρ, a, w, Q, hf, h, hrd, S, hQ => by
    rw [codeFit, Bool.and_eq_true] at hf
    rw [aexec] at h
    have hc := S.ev (x := c) fun _ _ h => h
    split at h
    · rename_i t he
      rw [he] at hc
      refine wpIn_cond (t := t) hc ?_
      cases t with
      | true => exact aexec_ok hP hN hO hm hF x st ex st' ρ a w Q hf.1 h hrd S hQ
      | false => exact aexec_ok hP hN hO hm hF y st ex st' ρ a w Q hf.2 h hrd S hQ
    · cases h
  | .block id x, st, ex, st', ρ, a, w, Q, hf, h, hrd, S, hQ => by
    rw [codeFit] at hf
    rw [aexec] at h
    refine wpIn_block ?_
    cases hx : aexec cx O k fn rd x st with
    | none => rw [hx] at h; cases h
    | some r =>
      obtain ⟨ex1, st1⟩ := r
      rw [hx] at h
      refine aexec_ok hP hN hO hm hF x st ex1 st1 ρ a w _ hf hx hrd S fun ρ1 a1 w1 E1 S1 => ?_
      cases ex1 with
      | nrm => cases h; exact hQ ρ1 a1 w1 E1 S1
      | ret => cases h; exact hQ ρ1 a1 w1 E1 S1
      | exit i =>
        dsimp only at h
        by_cases e : i = id
        · rw [if_pos e] at h
          cases h
          show Exit.inBlock id Q (.exit i) a1 w1
          simp only [Exit.inBlock, e, if_true]
          exact hQ ρ1 a1 w1 E1 S1
        · rw [if_neg e] at h
          cases h
          show Exit.inBlock id Q (.exit i) a1 w1
          simp only [Exit.inBlock, e, if_false]
          exact hQ ρ1 a1 w1 E1 S1
  | .scope x, st, ex, st', ρ, a, w, Q, hf, h, hrd, S, hQ => by
    rw [codeFit] at hf
    rw [aexec] at h
    exact wpIn_scope (aexec_ok hP hN hO hm hF x st ex st' ρ a w _ hf h hrd S fun ρ1 a1 w1 E1 S1 => ⟨fun l => by cases ex <;> simp [exOf], hQ ρ1 a1 w1 E1 S1⟩)
  | .loop x, st, ex, st', ρ, a, w, Q, hf, h, hrd, S, hQ => by
    rw [codeFit] at hf
    rw [aexec] at h
    refine wpIn_loop_by (fun j a' w' => ∃ st1 ρ1, aloop (aexec cx O k fn rd x) j st1 = some (ex, st') ∧ Evo ρ w st.H ρ1 w' st1.H ∧ SR X B n (fun _ => False) ρ1 st1 a' w') ⟨st, ρ, h, Evo.refl _ _ _, S⟩ fun j a' w' ⟨st1, ρ1, hl, E1, S1⟩ => ?_
    cases j with
    | zero => rw [aloop] at hl; cases hl
    | succ j =>
      rw [aloop] at hl
      cases hx : aexec cx O k fn rd x st1 with
      | none => rw [hx] at hl; cases hl
      | some r =>
        obtain ⟨ex2, st2⟩ := r
        rw [hx] at hl
        refine aexec_ok hP hN hO hm hF x st1 ex2 st2 ρ1 a' w' _ hf hx (hrd.mono E1) S1 fun ρ2 a2 w2 E2 S2 => ?_
        cases ex2 with
        | nrm => exact ⟨j, by omega, st2, ρ2, hl, E1.trans E2, S2⟩
        | exit id => cases hl; exact hQ ρ2 a2 w2 (E1.trans E2) S2
        | ret => cases hl; exact hQ ρ2 a2 w2 (E1.trans E2) S2
  | .rangeFunc g ps ca cb, st, ex, st', ρ, a, w, Q, hf, h, hrd, S, hQ => by
    rw [codeFit, Bool.and_eq_true, Bool.and_eq_true] at hf
    obtain ⟨⟨hp, hfa⟩, hfb⟩ := hf
    rw [aexec] at h
    cases he : enterLoop fn rd ps.toList ca cb st with
    | none => rw [he] at h; cases h
    | some r =>
      obtain ⟨l, st1⟩ := r
      rw [he] at h
      dsimp only at h
      split at h
      · rename_i gf args hcal
        cases hcall : O (.fn gf args) st1.H with
        | none => rw [hcall] at h; cases h
        | some r =>
          obtain ⟨v, H2⟩ := r
          rw [hcall] at h
          dsimp only at h
          split at h
          · rename_i s p fn2 fr2 ps2 a2 b2 d2 hl2
            split at h
            · cases h
            · rename_i hbusy
              refine wpIn_rangeFunc (F := FW ro) (n := 0) fun fn' _ => ?_
              obtain ⟨bl, mark, w1, ρ1, hrun, E1, S1, hy, hlk, s1, p1, fr1, a1, b1, d1, hl1⟩ := enterLoop_ok (P := P) (fn' := fn') hF he hrd S (fun t ht => by have := (Array.all_eq_true_iff_forall_mem.1 hp) t (by simpa using ht); simpa using this) hfa hfb
              have hg : Rp X B ρ1 w1 st1.H (ev st.fr g) (a.eval g) := RepA.mono E1 (E1.stay X B) _ _ (S.ev fun _ _ h => h)
              obtain ⟨cap, xs, hcf, rfl, hcap⟩ := callee_split hcal hg
              have hargs : RepAL w1 ρ1 st1.H (Nof ρ1 st1.H X B) (Nqof ρ1 st1.H X) ([.fn (.yield l) []] ++ xs) (#[Value.func (.yield bl) #[] #[]] ++ cap).toList := by
                rw [Array.toList_append]
                exact repAL_snoc (ds := xs) (cs := [.fn (.yield l) []]) ⟨_, _, rfl, ⟨.yield bl, #[], rfl, hy, rfl⟩, rfl⟩ hcap
              obtain ⟨⟨fng, cg, hfg, hbg⟩, hcalls⟩ := hO _ _ _ _ hcall _ _ _ _ S1.rel _ hargs
              refine ⟨bl, mark, w1, { target := .fn (.func gf) cap, args := #[.func (.yield bl) #[] #[]] }, w1, gf, #[Value.func (.yield bl) #[] #[]] ++ cap, w1, hrun, ?_, fun _ _ => trivial, ?_, fun h => (by cases h), ?_⟩
              · have e0 : resolve a.eval (rangeCall g bl) 0 = pure { target := .fn (.func gf) cap, args := #[] ++ #[.func (.yield bl) #[] #[]] } := by
                  show Deferred.ofValue (a.eval g) _ = _
                  rw [hcf]; simp [Deferred.ofValue, rangeCall, Act.eval]
                rw [e0]; simp
              · have := callFunc_run (w := w1) hN hfg hbg (#[Value.func (.yield bl) #[] #[]] ++ cap)
                simpa [invoke] using this
              · refine CallsIn.mono (show CallsIn (FW ro) (0 - 1) P gf _ w1 _ from hcalls) fun e w3 hret => ?_
                obtain ⟨cv, ρ2, rfl, E2, R2, _⟩ := hret
                have hlk2 : look ρ2 l = some bl := by
                  obtain ⟨o', ho', e'⟩ := E2.obj l _ hl1
                  rw [hl2] at ho'; cases ho'
                  obtain ⟨_, _, _, e3⟩ := e'
                  exact e3.trans hlk
                obtain ⟨bl2, L, h1, h2, h3, h4, h5⟩ := R2.obj l _ hl2
                rw [hlk2] at h1; cases h1
                have hend := run_endLoop (P := P) h2 (by rw [h3]; exact hbusy)
                obtain ⟨E3, R3⟩ := R2.putLoop (s' := .exhausted) (p' := p) hl2 hlk2 h2
                have hLe : ({ L with state := .exhausted, pending := p.map Jmp.code } : Loop) = { L with state := .exhausted } := by rw [← h4]
                rw [hLe] at E3 R3
                have S3 := S1.step (E2.trans E3) R3
                refine ⟨L.pending, _, hend, ?_⟩
                generalize L.pending = pp at h4 E3 R3 S3
                subst h4
                cases p with
                | none => cases h; exact hQ ρ2 _ _ (E1.trans (E2.trans E3)) S3
                | some j =>
                  cases j with
                  | ret => cases h; exact wpIn_ret (hQ ρ2 _ _ (E1.trans (E2.trans E3)) S3)
                  | exit id => cases h; exact wpIn_exit (hQ ρ2 _ _ (E1.trans (E2.trans E3)) S3)
          · cases h
      · cases h
  | .goto _, _, _, _, _, _, _, _, _, h, _, _, _ => by rw [aexec] at h <;> first | cases h | simp
  | .refuse _, _, _, _, _, _, _, _, _, h, _, _, _ => by rw [aexec] at h <;> first | cases h | simp

/-- The blocks for the deferred calls are shut, and the results are read. -/
theorem acolls_ok {fnc : Func} {tmps : Array Value} {R0 : Ending → World → Prop} : ∀ (ds : List Nat) (defs : List Deferred) (H H' : AHeap) (ρ : List (Option Nat)) (w : World), acolls ds H = some H' → MarksRep ρ H ds defs → HRel X B ρ w H →
    (∀ w', Evo ρ w H ρ w' H' → HRel X B ρ w' H' → ∃ v, (results fnc tmps).run P w' = .ok v w' ∧ R0 (.returned v) w') → LeavesInM Fence.wide 0 P fnc tmps R0 defs .returning w
  | [], defs, H, H', ρ, w, h, hm, R, hk => by
    cases h
    have : defs = [] := hm
    subst this
    obtain ⟨v, h1, h2⟩ := hk w (Evo.refl _ _ _) R
    exact ⟨v, h1, h2⟩
  | l :: ds, defs, H, H', ρ, w, h, hm, R, hk => by
    obtain ⟨d, defs', rfl, hmk, hm'⟩ := hm
    rw [acolls] at h
    split at h
    · rename_i ho
      obtain ⟨b, hb, rfl⟩ := hmk.2 _ ho
      obtain ⟨b', h1, h2⟩ := R.obj l _ ho
      rw [hb] at h1; cases h1
      obtain ⟨E1, R1⟩ := R.putDfr ho hb
      refine ⟨by simp, .inl ⟨b, _, rfl, run_takeDeferred (by simpa using h2), ?_⟩⟩
      exact acolls_ok ds defs' _ H' ρ _ h (hm'.mono E1) R1 fun w' E2 R2 => hk w' (E1.trans E2) R2
    · cases h
def resVal (tmps : Array Value) : ResultVar → Sem Value
  | .tmp t => pure (tmps.getD t undef)
  | .cell a t => do loadVar t (← asAddr (tmps.getD a undef))
theorem run_results {fnc : Func} {tmps : Array Value} {cvs : List Value} (h : (fnc.results.toList.mapM (resVal tmps)).run P w = .ok cvs w) : (results fnc tmps).run P w = .ok (if h : cvs.toArray.size = 1 then cvs.toArray[0] else .tuple cvs.toArray) w := by
  have e : results fnc tmps = (do let vs ← fnc.results.mapM (resVal tmps); pure (if h : vs.size = 1 then vs[0] else .tuple vs)) := by
    unfold results
    congr 1
  rw [e, Array.mapM_eq_mapM_toList]
  simp [h]
theorem aload_ptr (R : HRel X B ρ w H) {t : TypeId} {x v : AV} {cx' : Value} (h : aload P t H x = some v) (hx : Rp X B ρ w H x cx') : ∃ ad, cx' = .pointer (some ad) := by
  unfold aload at h
  split at h
  · obtain ⟨b, o, h1, _⟩ := hx; exact ⟨_, h1⟩
  · simp only [Option.bind_eq_bind, Option.bind_eq_some_iff] at h
    obtain ⟨⟨es, z⟩, hr, _⟩ := h
    obtain ⟨t', ho, hst⟩ := rdr_row hr
    obtain ⟨b, _, h1⟩ := ptr_at ho hst hx
    exact ⟨_, h1⟩
  · cases h
theorem aresult_ok (R : HRel X B ρ w H) {fr : Fr} {tmps : Array Value} (hf : RepFr w ρ H (Nof ρ H X B) (Nqof ρ H X) fr tmps) : ∀ (rs : List ResultVar) (vs : List AV), aresult P fr H rs = some vs →
    ∃ cvs, (rs.mapM (resVal tmps)).run P w = .ok cvs w ∧ RepAL w ρ H (Nof ρ H X B) (Nqof ρ H X) vs cvs
  | [], vs, h => by cases h; exact ⟨[], rfl, rfl⟩
  | .tmp t :: rs, vs, h => by
    rw [aresult, Option.map_eq_some_iff] at h
    obtain ⟨vs', h1, rfl⟩ := h
    obtain ⟨cvs, h2, h3⟩ := aresult_ok R hf rs vs' h1
    refine ⟨tmps.getD t undef :: cvs, ?_, _, _, rfl, hf t, h3⟩
    rw [List.mapM_cons]
    simp [h2, resVal]
  | .cell c t :: rs, vs, h => by
    rw [aresult] at h
    split at h
    · rename_i v hv
      rw [Option.map_eq_some_iff] at h
      obtain ⟨vs', h1, rfl⟩ := h
      obtain ⟨cvs, h2, h3⟩ := aresult_ok R hf rs vs' h1
      obtain ⟨cv, h4, h5⟩ := aload_ok (P := P) R hv (hf c)
      refine ⟨cv :: cvs, ?_, _, _, rfl, h5, h3⟩
      obtain ⟨ad, had⟩ := aload_ptr (P := P) R hv (hf c)
      have h6 : (resVal tmps (.cell c t)).run P w = .ok cv w := by
        rw [had] at h4
        show (do loadVar t (← asAddr (tmps.getD c undef)) : Sem Value).run P w = _
        rw [had]
        exact h4
      rw [List.mapM_cons]
      simp [h6, h2]
    · cases h

/-- What is asked of the functions. -/
def FuncsFit (cx : Cx) : Prop := ∀ (f : FuncId) (fn : Func) (c : Code), cx.fits f = true → cx.P.funcs[f]? = some fn → fn.body = some c → codeFit cx f fn.ntmps c = true
theorem enterFr_get {as : List AV} : ∀ (m t : Nat), Fr.get (enterFr m as) t = if m ≤ t then (as[t - m]?).getD .top else .top := by
  induction as with
  | nil => intro m t; simp [enterFr, Fr.get]
  | cons x as ih =>
    intro m t
    rw [enterFr, get_put, ih]
    by_cases e : t = m
    · subst e; simp
    · by_cases h : m ≤ t
      · rw [if_neg e, if_pos h, if_pos (by omega)]
        have : t - m = (t - (m + 1)) + 1 := by omega
        rw [this, List.getElem?_cons_succ]
      · rw [if_neg e, if_neg h, if_neg (by omega)]
theorem enter_rep {N Nq : Nat → Prop} {as : List AV} {cas : Array Value} {m : Nat} (h : RepAL w ρ H N Nq as cas.toList) : RepFr w ρ H N Nq (enterFr 0 as) (cas ++ Array.replicate (m - cas.size) undef) := by
  intro t
  rw [enterFr_get, if_pos (Nat.zero_le _), Nat.sub_zero]
  have hl : as.length = cas.size := by rw [h.length, Array.length_toList]
  cases ht : as[t]? with
  | none => trivial
  | some v =>
    obtain ⟨u, hu, hr⟩ := h.get ht
    have hlt : t < cas.size := by rw [← hl]; exact (List.getElem?_eq_some_iff.1 ht).1
    rw [Array.getD_eq_getD_getElem?, Array.getElem?_append_left hlt]
    rw [Array.getElem?_toList] at hu
    rw [hu]; exact hr
theorem zip_rep {N Nq : Nat → Prop} : ∀ {ps : List Tmp} {as : List AV} {cas : List Value} {fr : Fr} {tmps : Array Value}, RepAL w ρ H N Nq as cas → RepFr w ρ H N Nq fr tmps → (∀ t ∈ ps, t < tmps.size) →
    RepFr w ρ H N Nq ((ps.zip as).reverse ++ fr) ((ps.zip cas).foldl (fun tmps (x : Tmp × Value) => tmps.setIfInBounds x.1 x.2) tmps)
  | [], _, _, fr, tmps, _, hf, _ => by simpa using hf
  | p :: ps, [], cas, fr, tmps, h, hf, _ => by
    have : cas = [] := h
    subst this
    simpa using hf
  | p :: ps, a :: as, cas, fr, tmps, h, hf, hp => by
    obtain ⟨v, vs, rfl, hv, h⟩ := h
    have hlt := hp p (by simp)
    have hf' : RepFr w ρ H N Nq ((p, a) :: fr) (tmps.setIfInBounds p v) := fun t => by
      rw [get_put]
      have := put_getD (a := ⟨tmps, []⟩) (d := p) (t := t) (v := v) hlt
      simp only [Act.put] at this
      rw [this]
      by_cases e : t = p
      · rw [if_pos e, if_pos e]; exact hv
      · rw [if_neg e, if_neg e]; exact hf t
    have := zip_rep (fr := (p, a) :: fr) (tmps := tmps.setIfInBounds p v) (ps := ps) h hf' (fun t ht => by simpa using hp t (by simp [ht]))
    simpa using this
theorem afinish_ok (hP : cx.P = P) {fnc : Func} {ex : Ex} {st' : St} {v : AV} {H' : AHeap} {ρ1 : List (Option Nat)} {w1 : World} {a1 : Act} (h : afinish cx fnc (some (ex, st')) = some (v, H')) (E : Evo ρ w H ρ1 w1 st'.H) (S : SR X B n (fun _ => False) ρ1 st' a1 w1) :
    bodyPostM Fence.wide 0 P fnc (Ret X B ρ w H v H') (exOf ex) a1 w1 := by
  have key : ∀ {H1 : AHeap} {vs : List AV}, acolls st'.ds st'.H = some H1 → aresult cx.P st'.fr H1 fnc.results.toList = some vs → ((∃ x, vs = [x] ∧ v = x ∧ H' = H1) ∨ ((∀ x, vs ≠ [x]) ∧ v = mkTup vs ∧ H' = H1)) →
      LeavesInM Fence.wide 0 P fnc a1.tmps (Ret X B ρ w H v H') a1.defers .returning w1 := by
    intro H1 vs hc hr hv
    refine acolls_ok st'.ds a1.defers st'.H H1 ρ1 w1 hc S.marks S.rel fun w' E2 R2 => ?_
    have hfr : RepFr w' ρ1 H1 (Nof ρ1 H1 X B) (Nqof ρ1 H1 X) st'.fr a1.tmps := RepFr.monoS E2.sees (E2.stay X B) S.toFr
    subst hP
    obtain ⟨cvs, h1, h2⟩ := aresult_ok (P := cx.P) R2 hfr _ _ hr
    refine ⟨_, run_results h1, _, ρ1, rfl, ?_, ?_, ?_⟩
    · rcases hv with ⟨_, _, _, rfl⟩ | ⟨_, _, rfl⟩ <;> exact E.trans E2
    · rcases hv with ⟨_, _, _, rfl⟩ | ⟨_, _, rfl⟩ <;> exact R2
    · rcases hv with ⟨x, rfl, rfl, rfl⟩ | ⟨hne, rfl, rfl⟩
      · obtain ⟨u, us, rfl, hu, hus⟩ := h2
        have : us = [] := hus
        subst this
        have e : (if h : [u].toArray.size = 1 then [u].toArray[0] else Value.tuple [u].toArray) = u := by simp
        rw [e]; exact hu
      · have hlen := h2.length
        have hsz : ¬ cvs.toArray.size = 1 := by
          intro h
          have : vs.length = 1 := by rw [hlen]; simpa using h
          obtain ⟨x, hx⟩ := List.length_eq_one_iff.1 this
          exact hne x hx
        rw [dif_neg hsz]
        unfold mkTup
        split
        · rename_i ds hds
          rw [allIm_eq hds] at h2
          exact ⟨_, rfl, RepAL.im.1 h2⟩
        · exact ⟨_, rfl, h2⟩
  have hfin : ∀ {r : Option (AV × AHeap)}, r = some (v, H') → r = (match acolls st'.ds st'.H with
      | some H =>
        match aresult cx.P st'.fr H fnc.results.toList with
        | some [v] => some (v, H)
        | some vs => some (mkTup vs, H)
        | none => none
      | none => none) → LeavesInM Fence.wide 0 P fnc a1.tmps (Ret X B ρ w H v H') a1.defers .returning w1 := by
    intro r hr he
    rw [hr] at he
    split at he
    · rename_i H1 hc
      split at he
      · rename_i x hx
        cases he
        exact key hc hx (.inl ⟨_, rfl, rfl, rfl⟩)
      · rename_i vs hne hx
        cases he
        exact key hc hx (.inr ⟨fun x e => hne x (by rw [e]), rfl, rfl⟩)
      · cases he
    · cases he
  cases ex with
  | nrm => exact hfin h (by rfl)
  | ret => exact hfin h (by rfl)
  | exit id => cases h

theorem setEnd_some {H' : AHeap} {l : Nat} {s : LoopState} {p : Option Jmp} (h : setEnd H l s p = some H') : ∃ s0 p0 fn fr ps a b d, H[l]? = some (.loop s0 p0 fn fr ps a b d) ∧ H' = H.set l (.loop s p fn fr ps a b d) := by
  unfold setEnd at h
  split at h
  · rename_i ho; cases h; exact ⟨_, _, _, _, _, _, _, _, ho, rfl⟩
  · cases h
/-- All calls of the abstract machine answer for the model's. -/
theorem acallF_ok (hP : cx.P = P) (hN : Named P) (hm : P.follows .mixedOrders = true) (hF : FitIs cx) (hfit : FuncsFit cx) : ∀ k, OracleOk P (acallF cx k) := by
  intro k
  induction k with
  | zero => intro r H v H' h; rw [acallF] at h; cases h
  | succ k ih =>
    intro r H v H' h X B ρ w R
    cases r with
    | fn f as =>
      intro cas hcas
      rw [acallF] at h
      cases hfits : cx.fits f with
      | false => rw [hfits] at h; cases h
      | true =>
      rw [if_pos hfits] at h
      cases hf : cx.P.funcs[f]? with
      | none => rw [hf] at h; cases h
      | some fnc =>
        rw [hf] at h
        dsimp only at h
        cases hb : fnc.body with
        | none => rw [hb] at h; cases h
        | some c =>
          rw [hb] at h
          dsimp only at h
          subst hP
          refine ⟨⟨fnc, c, hf, hb⟩, ?_⟩
          cases hx : aexec cx (acallF cx k) k f none c ⟨enterFr 0 as, [], H⟩ with
          | none => rw [hx] at h; cases h
          | some r =>
            obtain ⟨ex, st'⟩ := r
            rw [hx] at h
            refine callsIn_of_wp_marks (F := Fence.wide) (n := 0) hf hb trivial ?_
            have S0 : SR X B fnc.ntmps (fun _ => False) ρ ⟨enterFr 0 as, [], H⟩ { tmps := cas ++ Array.replicate (fnc.ntmps - cas.size) undef, defers := [] } w :=
              SR.of R (enter_rep hcas) (by simp; omega) rfl
            exact aexec_ok rfl hN ih hm hF c _ ex st' ρ _ w _ (hfit f fnc c hfits hf hb) hx (rd := none) (ro := none) rfl S0 fun ρ1 a1 w1 E S => afinish_ok rfl h E S
    | round l as =>
      rw [acallF] at h
      split at h
      · rename_i p fn fr ps ca cb d ho
        split at h
        · rename_i hlen
          refine ⟨⟨_, _, _, _, _, _, _, _, ho⟩, fun bl cas hbl hcas => ?_⟩
          obtain ⟨bl', L, h1, h2, h3, h4, h5, h6, h7, h8, h9⟩ := R.obj l _ ho
          rw [hbl] at h1; cases h1
          have hpl : L.params.size = ps.length := by rw [← h6, Array.length_toList]
          have hcl : cas.size = as.length := by have := hcas.length; rw [Array.length_toList] at this; exact this.symm
          refine ⟨L, h2, by rw [hpl, hcl, hlen], ?_⟩
          obtain ⟨n, hn, hpn, hfa, hfb⟩ := (hF _ _ _ _ _).1 h9
          subst hP
          cases hx : aexec cx (acallF cx k) k fn (some l) ca ⟨(ps.zip as).reverse ++ fr, [], H⟩ with
          | none => rw [hx] at h; cases h
          | some r =>
            obtain ⟨ex, st1⟩ := r
            rw [hx] at h
            cases ex with
            | exit id => cases h
            | ret => cases h
            | nrm =>
              dsimp only at h
              split at h
              · rename_i p1 fn1 fr1 ps1 ca1 cb1 d1 ho1
                have hrd : RD ρ H (some l) (some bl) := ⟨bl, rfl, (List.getElem?_eq_some_iff.1 ho).1, fun _ _ _ _ _ _ _ _ _ => ⟨bl, hbl, rfl⟩⟩
                have hzip : ((L.params.zip cas).foldl (fun tmps (x : Tmp × Value) => tmps.setIfInBounds x.1 x.2) L.tmps) = ((ps.zip cas.toList).foldl (fun tmps (x : Tmp × Value) => tmps.setIfInBounds x.1 x.2) L.tmps) := by
                  rw [← Array.foldl_toList, Array.toList_zip, h6]
                have hsz : ∀ (xs : List (Tmp × Value)) (tmps : Array Value), (xs.foldl (fun tmps (x : Tmp × Value) => tmps.setIfInBounds x.1 x.2) tmps).size = tmps.size := by
                  intro xs
                  induction xs with
                  | nil => intro tmps; rfl
                  | cons x xs ihx => intro tmps; rw [List.foldl_cons, ihx]; simp
                have S0 : SR X B n (fun _ => False) ρ ⟨(ps.zip as).reverse ++ fr, [], H⟩ ⟨((ps.zip cas.toList).foldl (fun tmps (x : Tmp × Value) => tmps.setIfInBounds x.1 x.2) L.tmps), []⟩ w :=
                  SR.of R (zip_rep hcas h5 fun t ht => Nat.lt_of_lt_of_le (hpn t ht) hn) (by rw [hsz]; exact hn) rfl
                refine roundIn_of_wpIn (F := Fence.wide) (n := 0) trivial ?_
                show L.assign.wpIn (FW (some bl)) 0 cx.P _ ⟨(L.params.zip cas).foldl (fun tmps (x : Tmp × Value) => tmps.setIfInBounds x.1 x.2) L.tmps, []⟩ w
                rw [hzip, h7]
                refine aexec_ok rfl hN ih hm hF ca _ .nrm st1 ρ _ w _ hfa hx hrd S0 fun ρ1 a1 w1 E1 S1 => ?_
                have hlk1 : look ρ1 l = some bl := by
                  obtain ⟨o', ho', e'⟩ := E1.obj l _ ho
                  rw [ho1] at ho'; cases ho'
                  obtain ⟨_, _, _, e3⟩ := e'
                  exact e3.trans hbl
                have hsame : fn1 = fn ∧ ps1 = ps ∧ ca1 = ca ∧ cb1 = cb := by
                  obtain ⟨o', ho', e'⟩ := E1.obj l _ ho
                  rw [ho1] at ho'; cases ho'
                  obtain ⟨_, _, e2, _⟩ := e'
                  cases e2
                  exact ⟨rfl, rfl, rfl, rfl⟩
                obtain ⟨bl1, L1, g1, g2, g3, g4, g5⟩ := S1.rel.obj l _ ho1
                rw [hlk1] at g1; cases g1
                obtain ⟨E2, R2⟩ := S1.rel.putLoop (s' := .busy) (p' := p1) ho1 hlk1 g2
                have hLe : ({ L1 with state := .busy, pending := p1.map Jmp.code } : Loop) = { L1 with state := .busy } := by rw [← g4]
                rw [hLe] at E2 R2
                refine ⟨_, run_beginRound g2 g3, ?_⟩
                cases hy : aexec cx (acallF cx k) k fn (some l) cb { st1 with H := st1.H.set l (.loop .busy p1 fn1 fr1 ps1 ca1 cb1 d1) } with
                | none => rw [hy] at h; cases h
                | some r2 =>
                  obtain ⟨ex2, st2⟩ := r2
                  rw [hy] at h
                  rw [h8]
                  have E12 := E1.trans E2
                  refine aexec_ok rfl hN ih hm hF cb _ ex2 st2 ρ1 a1 _ _ hfb hy (hrd.mono E12) (S1.step E2 R2) fun ρ3 a3 w3 E3 S3 => ?_
                  have hfin : ∀ (j : Option Jmp), setEnd st2.H l (if j.isNone then .ready else .done) j = some H' → v = .im (.b j.isNone) →
                      ∃ u w', (Instr.endRound bl (j.map Jmp.code)).run cx.P w3 = .ok u w' ∧ Ret X B ρ w H v H' (.returned u) w' := by
                    intro j hj hv
                    obtain ⟨s0, p0, fn0, fr0, ps0, a0, b0, d0, q1, rfl⟩ := setEnd_some hj
                    have hlk3 : look ρ3 l = some bl := by
                      obtain ⟨o', ho', e'⟩ := (E12.trans E3).obj l _ ho
                      rw [q1] at ho'; cases ho'
                      obtain ⟨_, _, _, e3⟩ := e'
                      exact e3.trans hbl
                    obtain ⟨bl3, L3, k1, k2, _⟩ := S3.rel.obj l _ q1
                    rw [hlk3] at k1; cases k1
                    obtain ⟨E4, R4⟩ := S3.rel.putLoop (s' := if j.isNone then .ready else .done) (p' := j) q1 hlk3 k2
                    have hend := run_endRound (P := cx.P) (j.map Jmp.code) k2
                    have hjn : (j.map Jmp.code).isNone = j.isNone := by cases j <;> rfl
                    rw [hjn] at hend
                    exact ⟨_, _, hend, _, ρ3, rfl, (E12.trans E3).trans E4, R4, by rw [hv]; rfl⟩
                  cases ex2 with
                  | nrm =>
                    simp only [endRoundA, Option.map_eq_some_iff, Prod.mk.injEq] at h
                    obtain ⟨H1, q1, q2, rfl⟩ := h
                    exact hfin none q1 q2.symm
                  | ret =>
                    simp only [endRoundA, Option.map_eq_some_iff, Prod.mk.injEq] at h
                    obtain ⟨H1, q1, q2, rfl⟩ := h
                    exact hfin (some .ret) q1 q2.symm
                  | exit id =>
                    simp only [endRoundA, Option.map_eq_some_iff, Prod.mk.injEq] at h
                    obtain ⟨H1, q1, q2, rfl⟩ := h
                    exact hfin (some (.exit id)) q1 q2.symm
              · cases h
        · cases h
      · cases h
end
end Go.Proofs.Ytnbbhbbhgcipjaa.Am

namespace Go.Proofs.Ytnbbhbbhgcipjaa.Am
@[reducible] def lfit (cx : Cx) : LFit := ⟨fun fn ps a b sz => ∃ n, n ≤ sz ∧ (∀ t ∈ ps, t < n) ∧ codeFit cx fn n a = true ∧ codeFit cx fn n b = true⟩
def fnFit (cx : Cx) (f : FuncId) (fn : Func) : Bool := match fn.body with | some c => codeFit cx f fn.ntmps c | none => true
def named (P : Program) : Bool := P.funcs.all fun fn => !(fn.name == "runtime.NumGoroutine")
def progFit (cx : Cx) : Bool := named cx.P && cx.P.funcs.toList.zipIdx.all fun (fn, f) => !(cx.fits f) || fnFit cx f fn
theorem progFit_ok {cx : Cx} (h : progFit cx = true) : Named cx.P ∧ FuncsFit cx := by
  unfold progFit at h
  rw [Bool.and_eq_true, List.all_eq_true] at h
  obtain ⟨h0, h⟩ := h
  refine ⟨fun f fn hf => ?_, fun f fn c hs hf hb => ?_⟩
  · unfold named at h0
    rw [Array.all_eq_true_iff_forall_mem] at h0
    simpa using h0 fn (Array.mem_of_getElem? hf)
  · have := h (fn, f) (List.mem_zipIdx_iff_getElem?.2 (by simpa using hf))
    simp only [hs, Bool.not_true, Bool.false_or] at this
    unfold fnFit at this
    rw [hb] at this
    exact this
/-- Nothing that was there before is touched, and the value is the one that is said. -/
def Says (d : Imm) (w : World) (e : Ending) (w' : World) : Prop :=
  ∃ cv, e = .returned cv ∧ RepI w' (fun _ => False) (fun _ => False) d cv ∧ (∀ b, b < w.heap.size → w'.heap[b]? = w.heap[b]?) ∧ w.heap.size ≤ w'.heap.size ∧ w'.os = w.os ∧ w'.tape = w.tape ∧ w'.output = w.output
theorem calls_of_am {cx : Cx} (hm : cx.P.follows .mixedOrders = true) (hfit : progFit cx = true) {k : Nat} {f : FuncId} {args : List Imm} {d : Imm} {H' : AHeap} (h : acallF cx k (.fn f (args.map .im)) [] = some (.im d, H')) {cas : Array Value} {w : World}
    (ha : RepL w (fun _ => False) (fun _ => False) args cas.toList) : Calls cx.P f cas w (Says d w) := by
  letI := lfit cx
  obtain ⟨hN, hF⟩ := progFit_ok hfit
  have hL : FitIs cx := fun _ _ _ _ _ => Iff.rfl
  have R : HRel (fun _ => False) (fun _ => False) [] w [] := HRel.iso (fun _ h => h.elim) (fun _ h => h.elim)
  have hsub : ∀ b, ¬ (Nof [] [] (fun _ => False) (fun _ => False) b) := fun b h => by
    rcases h with h | h | h
    · exact h.nil
    · exact h
    · exact h
  have hsubq : ∀ b, ¬ (Nqof [] [] (fun _ => False) b) := fun b h => by
    rcases h with h | h
    · exact h.nil
    · exact h
  have ha' : RepAL w [] [] (Nof [] [] (fun _ => False) (fun _ => False)) (Nqof [] [] (fun _ => False)) (args.map .im) cas.toList :=
    RepAL.im.2 (RepL.mono ⟨Nat.le_refl _, fun _ _ _ => rfl, fun b _ h => (hsub b h).elim, fun b _ h => (hsubq b h).elim, fun b h => h⟩ _ _ ha)
  obtain ⟨_, hc⟩ := acallF_ok rfl hN hm hL hF k _ _ _ _ h _ _ _ _ R cas ha'
  refine callsIn_wide.1 (hc.mono fun e w' hr => ?_)
  obtain ⟨cv, ρ', rfl, E, R', hv⟩ := hr
  refine ⟨cv, rfl, RepI.mono ⟨Nat.le_refl _, fun _ _ _ => rfl, fun _ _ h => h.elim, fun _ _ h => h.elim, fun b h => ?_⟩ _ _ hv, fun b hb => E.old hb, E.size, E.os, E.tape, E.output⟩
  exact h.imp id .inl
end Go.Proofs.Ytnbbhbbhgcipjaa.Am

namespace Go.Proofs.Ytnbbhbbhgcipjaa.Am
/-- A value first, then what is to hold of it. -/
def ob {α : Type} (x : Option α) (f : α → Prop) : Prop := ∃ a, x = some a ∧ f a
theorem ob_some {α : Type} (a : α) (f : α → Prop) : ob (some a) f = f a := by simp [ob]
theorem ob_none {α : Type} (f : α → Prop) : ob none f = False := by simp [ob]
@[congr] theorem ob_congr {α : Type} {x y : Option α} (f : α → Prop) (h : x = y) : ob x f = ob y f := by rw [h]
def eb {α : Type} (x : α) (f : α → Prop) : Prop := f x
theorem eb_eq {α : Type} (x : α) (f : α → Prop) : eb x f = f x := rfl
@[congr] theorem eb_congr {α : Type} {x y : α} (f : α → Prop) (h : x = y) : eb x f = eb y f := by rw [h]
def sel (b : Bool) (p q : Prop) : Prop := if b then p else q
theorem sel_true (p q : Prop) : sel true p q = p := rfl
theorem sel_false (p q : Prop) : sel false p q = q := rfl
theorem sel_not (b : Bool) (p q : Prop) : sel (!b) p q = sel b q p := by cases b <;> rfl
@[congr] theorem sel_congr {b b' : Bool} (p q : Prop) (h : b = b') : sel b p q = sel b' p q := by rw [h]
theorem sel_dec {a : Prop} [Decidable a] {p q : Prop} (h : a → p) (h' : ¬a → q) : sel (decide a) p q := by
  by_cases x : a <;> simp [sel, x] <;> first | exact h x | exact h' x
theorem sel_bool {b : Bool} {p q : Prop} (h : b = true → p) (h' : b = false → q) : sel b p q := by
  cases b <;> simp [sel] <;> first | exact h rfl | exact h' rfl
def selO (y : Option Bool) (want : Bool) (p q : Prop) : Prop := match y with | some b => if b = want then p else q | none => q
theorem selO_none (w : Bool) (p q : Prop) : selO none w p q = q := rfl
theorem selO_t (b : Bool) (p q : Prop) : selO (some b) true p q = sel b p q := by cases b <;> rfl
theorem selO_f (b : Bool) (p q : Prop) : selO (some b) false p q = sel b q p := by cases b <;> rfl
@[congr] theorem selO_congr {b b' : Option Bool} (w : Bool) (p q : Prop) (h : b = b') : selO b w p q = selO b' w p q := by rw [h]
section
variable (cx : Cx)
def WC (r : Req) (H : AHeap) (Q : AV → AHeap → Prop) : Prop :=
  ∃ v H', (∃ k0, ∀ k, k0 ≤ k → acall cx (acallF cx k) r H = some (v, H')) ∧ Q v H'
/-- A function's run, in a heap. -/
def FN (f : FuncId) (args : List AV) (H : AHeap) (Q : AV → AHeap → Prop) : Prop :=
  ∃ v H', (∃ k0, ∀ k, k0 ≤ k → acallF cx k (.fn f args) H = some (v, H')) ∧ Q v H'
/-- A function on immutable data that returns such. -/
def PF (f : FuncId) (ds : List Imm) (R : Imm → Prop) : Prop := FN cx f (ds.map .im) [] fun v _ => ∃ d, v = .im d ∧ R d
def WOp (fn : FuncId) (o : Oper) (st : St) (K : St → Prop) : Prop :=
  ob (aop cx fn o st.fr st.H) fun r => match r with
    | .val v H => K ⟨putT st.fr o.dst v, st.ds, H⟩
    | .skip H => K ⟨putT st.fr o.dst (.im .und), st.ds, H⟩
    | .call r => WC cx r st.H fun v H => K ⟨putT st.fr o.dst v, st.ds, H⟩
def WO (fn : FuncId) (all : List Oper) : List Oper → St → (St → Prop) → Prop
  | [], st, Q => Q st
  | o :: rest, st, Q =>
    match o.guard with
    | none => WOp cx fn o st fun st' => WO fn all rest st' Q
    | some (j, want) => ob (yieldedA all st.fr j) fun y => selO y want (WOp cx fn o st fun st' => WO fn all rest st' Q) (WO fn all rest (unwanted o st) Q)
def WD (fn : FuncId) (ops : Array Oper) : List Nat → List (Nat × List Nat) → St → (St → Prop) → Prop
  | [], _, st, Q => Q st
  | i :: rest, E, st, Q =>
    ob ops[i]? fun o => ob (wantedA ops.toList o st.fr) fun y => sel y
      (sel (mob cx fn o) (bad cx fn o st = false ∧ WOp cx fn o st fun st' => WD fn ops rest ((i, rdA o st.fr st.H) :: E) st' Q)
        (clear cx fn ops o st E = true ∧ WOp cx fn o st fun st' => WD fn ops rest E st' Q))
      (WD fn ops rest E (unwanted o st) Q)
def kseq (w : St → (Ex → St → Prop) → Prop) (Q : Ex → St → Prop) (e : Ex) (st : St) : Prop := match e with | .nrm => w st Q | e => Q e st
def kblock (id : Nat) (Q : Ex → St → Prop) (e : Ex) (st : St) : Prop := match e with | .exit i => if i = id then Q .nrm st else Q (.exit i) st | e => Q e st
def kreg (keep : Option (List Nat)) (Q : Ex → St → Prop) (st : St) : Prop := Q .nrm (clean keep st)
/-- A loop. -/
def WL (fn : FuncId) (rd : Option Nat) (a : Code) (st : St) (Q : Ex → St → Prop) : Prop :=
  ∃ e st', (∃ k0, ∀ k n, k0 ≤ k → k0 ≤ n → aloop (aexec cx (acallF cx k) k fn rd a) n st = some (e, st')) ∧ Q e st'
def WR (fn : FuncId) (rd : Option Nat) (f : Operand) (ps : Array Tmp) (a b : Code) (st : St) (Q : Ex → St → Prop) : Prop :=
  ∃ e st', (∃ k0, ∀ k, k0 ≤ k → aexec cx (acallF cx k) k fn rd (.rangeFunc f ps a b) st = some (e, st')) ∧ Q e st'
def W (fn : FuncId) (rd : Option Nat) : Code → St → (Ex → St → Prop) → Prop
  | .skip, st, Q => Q .nrm st
  | .label _, st, Q => Q .nrm st
  | .region id ops false, st, Q => WO cx fn ops.toList ops.toList st (kreg (cx.keep fn id) Q)
  | .region id ops true, st, Q => WD cx fn ops (cx.sched fn id) [] st (kreg (cx.keep fn id) Q)
  | .seq a b, st, Q => W fn rd a st (kseq (fun st Q => W fn rd b st Q) Q)
  | .cond c a b, st, Q => ob (abool (ev st.fr c)) fun t => sel t (W fn rd a st Q) (W fn rd b st Q)
  | .block id a, st, Q => W fn rd a st (kblock id Q)
  | .scope a, st, Q => W fn rd a st Q
  | .loop a, st, Q => WL cx fn rd a st Q
  | .rangeFunc f ps a b, st, Q => WR cx fn rd f ps a b st Q
  | .exit id, st, Q => Q (.exit id) st
  | .ret, st, Q => Q .ret st
  | _, _, _ => False
variable {cx}
@[congr] theorem WO_congr {fn : FuncId} {all rest : List Oper} {st st' : St} (Q : St → Prop) (h : st = st') : WO cx fn all rest st Q = WO cx fn all rest st' Q := by rw [h]
@[congr] theorem WD_congr {fn : FuncId} {ops : Array Oper} {l : List Nat} {E : List (Nat × List Nat)} {st st' : St} (Q : St → Prop) (h : st = st') : WD cx fn ops l E st Q = WD cx fn ops l E st' Q := by rw [h]
@[congr] theorem WC_congr {r r' : Req} {H H' : AHeap} (Q : AV → AHeap → Prop) (h : r = r') (h' : H = H') : WC cx r H Q = WC cx r' H' Q := by rw [h, h']
@[congr] theorem W_congr {fn : FuncId} {rd : Option Nat} {c : Code} {st st' : St} (Q : Ex → St → Prop) (h : st = st') : W cx fn rd c st Q = W cx fn rd c st' Q := by rw [h]
@[congr] theorem WL_congr {fn : FuncId} {rd : Option Nat} {c : Code} {st st' : St} (Q : Ex → St → Prop) (h : st = st') : WL cx fn rd c st Q = WL cx fn rd c st' Q := by rw [h]
@[congr] theorem WR_congr {fn : FuncId} {rd : Option Nat} {f : Operand} {ps : Array Tmp} {a b : Code} {st st' : St} (Q : Ex → St → Prop) (h : st = st') : WR cx fn rd f ps a b st Q = WR cx fn rd f ps a b st' Q := by rw [h]
@[congr] theorem kseq_congr {w : St → (Ex → St → Prop) → Prop} {Q : Ex → St → Prop} {e : Ex} {st st' : St} (h : st = st') : kseq w Q e st = kseq w Q e st' := by rw [h]
@[congr] theorem kblock_congr {id : Nat} {Q : Ex → St → Prop} {e : Ex} {st st' : St} (h : st = st') : kblock id Q e st = kblock id Q e st' := by rw [h]
theorem FN.mono {f : FuncId} {args : List AV} {H : AHeap} {Q R : AV → AHeap → Prop} (h : FN cx f args H Q) (hR : ∀ v H', Q v H' → R v H') : FN cx f args H R := by
  obtain ⟨e, s, h, q⟩ := h; exact ⟨e, s, h, hR e s q⟩
theorem PF.mono {f : FuncId} {ds : List Imm} {Q R : Imm → Prop} (h : PF cx f ds Q) (hR : ∀ d, Q d → R d) : PF cx f ds R :=
  FN.mono h fun _ _ ⟨d, e, q⟩ => ⟨d, e, hR d q⟩
theorem WC.mono {r : Req} {H : AHeap} {Q R : AV → AHeap → Prop} (h : WC cx r H Q) (hR : ∀ v H', Q v H' → R v H') : WC cx r H R := by
  obtain ⟨e, s, h, q⟩ := h; exact ⟨e, s, h, hR e s q⟩
/-! ### That it is sound -/
theorem WOp.sound {fn : FuncId} {o : Oper} {st : St} {K : St → Prop} (h : WOp cx fn o st K) : ∃ st', (∃ k0, ∀ k, k0 ≤ k → astep cx (acallF cx k) fn o st = some st') ∧ K st' := by
  obtain ⟨r, ho, h⟩ := h
  cases r with
  | val v H => exact ⟨_, ⟨0, fun k _ => by unfold astep; rw [ho]⟩, h⟩
  | skip H => exact ⟨_, ⟨0, fun k _ => by unfold astep; rw [ho]⟩, h⟩
  | call r =>
    obtain ⟨v, H, ⟨k0, h0⟩, h⟩ := h
    exact ⟨_, ⟨k0, fun k hk => by unfold astep; rw [ho]; dsimp only; rw [h0 k hk]⟩, h⟩
theorem WO.sound {fn : FuncId} {all : List Oper} : ∀ {rest : List Oper} {st : St} {Q : St → Prop}, WO cx fn all rest st Q → ∃ st', (∃ k0, ∀ k, k0 ≤ k → aops cx (acallF cx k) fn all rest st = some st') ∧ Q st'
  | [], st, Q, h => ⟨st, ⟨0, fun _ _ => rfl⟩, h⟩
  | o :: rest, st, Q, h => by
    unfold WO at h
    cases hg : o.guard with
    | none =>
      rw [hg] at h
      obtain ⟨st1, ⟨k0, h0⟩, h⟩ := WOp.sound h
      obtain ⟨st2, ⟨k1, h1⟩, q⟩ := WO.sound h
      refine ⟨st2, ⟨max k0 k1, fun k hk => ?_⟩, q⟩
      unfold aops
      simp only [wantedA, hg]
      rw [h0 k (by omega)]
      exact h1 k (by omega)
    | some g =>
      obtain ⟨j, want⟩ := g
      rw [hg] at h
      obtain ⟨y, hy, h⟩ := h
      by_cases hw : y = some want
      · subst hw
        simp only [selO, if_true] at h
        obtain ⟨st1, ⟨k0, h0⟩, h⟩ := WOp.sound h
        obtain ⟨st2, ⟨k1, h1⟩, q⟩ := WO.sound h
        refine ⟨st2, ⟨max k0 k1, fun k hk => ?_⟩, q⟩
        unfold aops
        simp only [wantedA, hg, hy, Option.map_some, beq_self_eq_true]
        rw [h0 k (by omega)]
        exact h1 k (by omega)
      · have h' : WO cx fn all rest (unwanted o st) Q := by
          unfold selO at h
          cases y with
          | none => exact h
          | some b => simp only [Option.some.injEq] at hw; simpa [hw] using h
        obtain ⟨st2, ⟨k1, h1⟩, q⟩ := WO.sound h'
        refine ⟨st2, ⟨k1, fun k hk => ?_⟩, q⟩
        unfold aops
        simp only [wantedA, hg, hy, Option.map_some]
        rw [show (y == some want) = false by simpa using hw]
        exact h1 k hk
theorem WD.sound {fn : FuncId} {ops : Array Oper} : ∀ {l : List Nat} {E : List (Nat × List Nat)} {st : St} {Q : St → Prop}, WD cx fn ops l E st Q → ∃ st', (∃ k0, ∀ k, k0 ≤ k → adraw cx (acallF cx k) fn ops l E st = some st') ∧ Q st'
  | [], _, st, Q, h => ⟨st, ⟨0, fun _ _ => rfl⟩, h⟩
  | i :: rest, E, st, Q, h => by
    unfold WD at h
    obtain ⟨o, ho, y, hy, h⟩ := h
    unfold sel at h
    cases y with
    | false =>
      obtain ⟨st2, ⟨k1, h1⟩, q⟩ := WD.sound h
      refine ⟨st2, ⟨k1, fun k hk => ?_⟩, q⟩
      unfold adraw
      simp only [ho, hy]
      exact h1 k hk
    | true =>
      simp only [if_true] at h
      by_cases hm : mob cx fn o = true
      · rw [if_pos hm] at h
        obtain ⟨hb, h⟩ := h
        obtain ⟨st1, ⟨k0, h0⟩, h⟩ := WOp.sound h
        obtain ⟨st2, ⟨k1, h1⟩, q⟩ := WD.sound h
        refine ⟨st2, ⟨max k0 k1, fun k hk => ?_⟩, q⟩
        unfold adraw
        simp only [ho, hy, hm, hb, if_true, Bool.false_eq_true, if_false]
        rw [h0 k (by omega)]
        exact h1 k (by omega)
      · rw [if_neg hm] at h
        obtain ⟨hb, h⟩ := h
        obtain ⟨st1, ⟨k0, h0⟩, h⟩ := WOp.sound h
        obtain ⟨st2, ⟨k1, h1⟩, q⟩ := WD.sound h
        refine ⟨st2, ⟨max k0 k1, fun k hk => ?_⟩, q⟩
        unfold adraw
        simp only [ho, hy, hm, hb, if_true, Bool.false_eq_true, if_false]
        rw [h0 k (by omega)]
        exact h1 k (by omega)
theorem W.sound {fn : FuncId} {rd : Option Nat} : ∀ {c : Code} {st : St} {Q : Ex → St → Prop}, W cx fn rd c st Q → ∃ e st', (∃ k0, ∀ k, k0 ≤ k → aexec cx (acallF cx k) k fn rd c st = some (e, st')) ∧ Q e st' := by
  intro c
  induction c with
  | skip => intro st Q h; exact ⟨_, _, ⟨0, fun _ _ => rfl⟩, h⟩
  | label _ => intro st Q h; exact ⟨_, _, ⟨0, fun _ _ => rfl⟩, h⟩
  | region id ops draw =>
    intro st Q h
    cases draw with
    | false =>
      obtain ⟨st1, ⟨k0, h0⟩, h⟩ := WO.sound h
      exact ⟨_, _, ⟨k0, fun k hk => by unfold aexec; simp only [Bool.false_eq_true, if_false]; rw [h0 k hk]⟩, h⟩
    | true =>
      obtain ⟨st1, ⟨k0, h0⟩, h⟩ := WD.sound h
      exact ⟨_, _, ⟨k0, fun k hk => by unfold aexec; simp only [if_true]; rw [h0 k hk]⟩, h⟩
  | seq a b iha ihb =>
    intro st Q h
    obtain ⟨e, st1, ⟨k0, h0⟩, h⟩ := iha h
    cases e with
    | nrm =>
      obtain ⟨e', st2, ⟨k1, h1⟩, q⟩ := ihb h
      exact ⟨e', st2, ⟨max k0 k1, fun k hk => by unfold aexec; rw [h0 k (by omega)]; exact h1 k (by omega)⟩, q⟩
    | exit i => exact ⟨_, st1, ⟨k0, fun k hk => by unfold aexec; rw [h0 k hk]⟩, h⟩
    | ret => exact ⟨_, st1, ⟨k0, fun k hk => by unfold aexec; rw [h0 k hk]⟩, h⟩
  | cond c a b iha ihb =>
    intro st Q h
    obtain ⟨t, ht, h⟩ := h
    have hc : ev st.fr c = .im (.b t) := by
      unfold abool at ht
      split at ht
      · rename_i x; simp only [Option.some.injEq] at ht; subst ht; assumption
      · cases ht
    cases t with
    | true =>
      obtain ⟨e, st1, ⟨k0, h0⟩, h⟩ := iha h
      exact ⟨_, st1, ⟨k0, fun k hk => by unfold aexec; rw [hc]; exact h0 k hk⟩, h⟩
    | false =>
      obtain ⟨e, st1, ⟨k0, h0⟩, h⟩ := ihb h
      exact ⟨_, st1, ⟨k0, fun k hk => by unfold aexec; rw [hc]; exact h0 k hk⟩, h⟩
  | block id a ih =>
    intro st Q h
    obtain ⟨e, st1, ⟨k0, h0⟩, h⟩ := ih h
    cases e with
    | nrm => exact ⟨_, st1, ⟨k0, fun k hk => by unfold aexec; rw [h0 k hk]⟩, h⟩
    | exit i =>
      unfold kblock at h
      dsimp only at h
      by_cases hi : i = id
      · rw [if_pos hi] at h
        exact ⟨_, st1, ⟨k0, fun k hk => by unfold aexec; rw [h0 k hk]; dsimp only; rw [if_pos hi]⟩, h⟩
      · rw [if_neg hi] at h
        exact ⟨_, st1, ⟨k0, fun k hk => by unfold aexec; rw [h0 k hk]; dsimp only; rw [if_neg hi]⟩, h⟩
    | ret => exact ⟨_, st1, ⟨k0, fun k hk => by unfold aexec; rw [h0 k hk]⟩, h⟩
  | scope a ih =>
    intro st Q h
    obtain ⟨e, st1, ⟨k0, h0⟩, h⟩ := ih h
    exact ⟨_, st1, ⟨k0, fun k hk => by unfold aexec; exact h0 k hk⟩, h⟩
  | loop a ih =>
    intro st Q h
    obtain ⟨e, st1, ⟨k0, h0⟩, h⟩ := h
    exact ⟨_, st1, ⟨k0, fun k hk => by unfold aexec; exact h0 k k hk hk⟩, h⟩
  | rangeFunc f ps a b => intro st Q h; exact h
  | exit id => intro st Q h; exact ⟨_, _, ⟨0, fun _ _ => rfl⟩, h⟩
  | ret => intro st Q h; exact ⟨_, _, ⟨0, fun _ _ => rfl⟩, h⟩
  | _ => intro st Q h; exact h.elim
/-- A loop, by an invariant and a number that falls. -/
theorem WL.inv {fn : FuncId} {rd : Option Nat} {a : Code} {Q : Ex → St → Prop} (I : Nat → St → Prop)
    (h : ∀ n st, I n st → W cx fn rd a st fun e st' => match e with | .nrm => ∃ m, m < n ∧ I m st' | e => Q e st') : ∀ n st, I n st → WL cx fn rd a st Q := by
  intro n
  induction n using Nat.strongRecOn with
  | ind n ih =>
    intro st hi
    obtain ⟨e, st1, ⟨k0, h0⟩, h1⟩ := W.sound (h n st hi)
    cases e with
    | nrm =>
      obtain ⟨m, hm, h1⟩ := h1
      obtain ⟨e, st2, ⟨k1, h2⟩, q⟩ := ih m hm st1 h1
      refine ⟨e, st2, ⟨max k0 k1 + 1, fun k n hk hn => ?_⟩, q⟩
      obtain ⟨n, rfl⟩ : ∃ n', n = n' + 1 := ⟨n - 1, by omega⟩
      unfold aloop
      rw [h0 k (by omega)]
      exact h2 k n (by omega) (by omega)
    | exit i =>
      refine ⟨_, st1, ⟨k0 + 1, fun k n hk hn => ?_⟩, h1⟩
      obtain ⟨n, rfl⟩ : ∃ n', n = n' + 1 := ⟨n - 1, by omega⟩
      unfold aloop
      rw [h0 k (by omega)]
    | ret =>
      refine ⟨_, st1, ⟨k0 + 1, fun k n hk hn => ?_⟩, h1⟩
      obtain ⟨n, rfl⟩ : ∃ n', n = n' + 1 := ⟨n - 1, by omega⟩
      unfold aloop
      rw [h0 k (by omega)]
/-- How a function ends. -/
def kfin (cx : Cx) (rs : List ResultVar) (R : AV → AHeap → Prop) (e : Ex) (st : St) : Prop :=
  match e with
  | .exit _ => False
  | _ => ob (acolls st.ds st.H) fun H => ob (aresult cx.P st.fr H rs) fun vs => match vs with | [v] => R v H | vs => R (mkTup vs) H
theorem FN.intro {f : FuncId} {fn : Func} {c : Code} {args : List AV} {H : AHeap} {R : AV → AHeap → Prop} (hf : cx.P.funcs[f]? = some fn) (hfit : cx.fits f = true) (hb : fn.body = some c)
    (h : W cx f none c ⟨enterFr 0 args, [], H⟩ (kfin cx fn.results.toList R)) : FN cx f args H R := by
  obtain ⟨e, st, ⟨k0, h0⟩, h⟩ := W.sound h
  have key : ∃ v H', afinish cx fn (some (e, st)) = some (v, H') ∧ R v H' := by
    unfold afinish
    cases e with
    | exit i => exact h.elim
    | nrm =>
      obtain ⟨H1, h1, vs, h2, h⟩ := h
      simp only [h1, h2]
      split at h
      · exact ⟨_, _, rfl, h⟩
      · rename_i hv
        split
        · rename_i v e; exact (hv v (by simpa using e)).elim
        · rename_i e; simp only [Option.some.injEq] at e; subst e; exact ⟨_, _, rfl, h⟩
        · rename_i e; cases e
    | ret =>
      obtain ⟨H1, h1, vs, h2, h⟩ := h
      simp only [h1, h2]
      split at h
      · exact ⟨_, _, rfl, h⟩
      · rename_i hv
        split
        · rename_i v e; exact (hv v (by simpa using e)).elim
        · rename_i e; simp only [Option.some.injEq] at e; subst e; exact ⟨_, _, rfl, h⟩
        · rename_i e; cases e
  obtain ⟨v, H', hv, hR⟩ := key
  refine ⟨v, H', ⟨k0 + 1, fun k hk => ?_⟩, hR⟩
  obtain ⟨k, rfl⟩ : ∃ k', k = k' + 1 := ⟨k - 1, by omega⟩
  unfold acallF
  simp only [hfit, if_true, hf, hb]
  rw [h0 k (by omega)]
  exact hv
theorem PF.intro {f : FuncId} {fn : Func} {c : Code} {ds : List Imm} {R : Imm → Prop} (hf : cx.P.funcs[f]? = some fn) (hfit : cx.fits f = true) (hb : fn.body = some c)
    (h : W cx f none c ⟨enterFr 0 (ds.map .im), [], []⟩ (kfin cx fn.results.toList fun v _ => ∃ d, v = .im d ∧ R d)) : PF cx f ds R := FN.intro hf hfit hb h
/-- A call on immutable data. -/
theorem WC.pf {f : FuncId} {ds : List Imm} {args : List AV} {H : AHeap} {R : Imm → Prop} {Q : AV → AHeap → Prop} (h : PF cx f ds R) (ha : args = ds.map .im) (hs : cx.shared f = false) (hR : ∀ d, R d → Q (.im d) H) : WC cx (.fn f args) H Q := by
  subst ha
  obtain ⟨v, G, ⟨k0, h0⟩, d, rfl, hd⟩ := h
  refine ⟨.im d, H, ⟨k0, fun k hk => ?_⟩, hR d hd⟩
  have hv : views H (ds.map .im) = some ds := by
    unfold views
    rw [List.mapM_map]
    have : (view true viewDepth H ∘ AV.im) = (fun d => some d) := by funext d; simp [viewDepth, view]
    rw [this]
    clear h0
    induction ds with
    | nil => rfl
    | cons d ds ih => simp [List.mapM_cons, ih]
  have hall : (ds.map AV.im).all AV.isIm = true := by simp [List.all_eq_true, AV.isIm]
  unfold acall
  simp only [viaView, hs, Bool.false_eq_true, if_false, hv]
  rw [h0 k hk]
  simp [pack, rowOf, view, viewDepth, hall]
/-- What a run says to the model. -/
theorem PF.calls {f : FuncId} {ds : List Imm} {R : Imm → Prop} (h : PF cx f ds R) (hm : cx.P.follows .mixedOrders = true) (hfit : progFit cx = true) {cas : Array Value} {w : World}
    (ha : RepL w (fun _ => False) (fun _ => False) ds cas.toList) : ∃ d, R d ∧ Calls cx.P f cas w (Says d w) := by
  obtain ⟨v, G, ⟨k0, h0⟩, d, rfl, hd⟩ := h
  exact ⟨d, hd, calls_of_am hm hfit (h0 k0 (Nat.le_refl _)) ha⟩
end
end Go.Proofs.Ytnbbhbbhgcipjaa.Am

namespace Go.Proofs.Ytnbbhbbhgcipjaa.Am
section
variable {cx : Cx}
def Sub (O O' : Oracle) : Prop := ∀ r H x, O r H = some x → O' r H = some x
theorem acall_le {O O' : Oracle} (h : Sub O O') {r : Req} {H : AHeap} {x : AV × AHeap} (hx : acall cx O r H = some x) : acall cx O' r H = some x := by
  cases r with
  | fn f args =>
    unfold acall at hx ⊢
    dsimp only at hx ⊢
    split at hx
    · rename_i ds _
      cases hO : O (.fn f (ds.map .im)) [] with
      | none => rw [hO] at hx; cases hx
      | some p => rw [hO] at hx; rw [h _ _ _ hO]; exact hx
    · cases hO : O (.fn f args) H with
      | none => rw [hO] at hx; cases hx
      | some p => rw [hO] at hx; rw [h _ _ _ hO]; exact hx
  | round l args =>
    unfold acall at hx ⊢
    dsimp only at hx ⊢
    cases hO : O (.round l args) H with
    | none => rw [hO] at hx; cases hx
    | some p => rw [hO] at hx; rw [h _ _ _ hO]; exact hx
theorem astep_le {O O' : Oracle} (h : Sub O O') {fn : FuncId} {o : Oper} {st st' : St} (hx : astep cx O fn o st = some st') : astep cx O' fn o st = some st' := by
  unfold astep at hx ⊢
  split at hx
  · rename_i e; exact hx
  · rename_i e; exact hx
  · rename_i r e
    cases hO : acall cx O r st.H with
    | none => rw [hO] at hx; cases hx
    | some p =>
      rw [hO] at hx
      simp only [acall_le h hO]
      exact hx
  · cases hx
theorem aops_le {O O' : Oracle} (h : Sub O O') {fn : FuncId} {ops : List Oper} : ∀ {l : List Oper} {st st' : St}, aops cx O fn ops l st = some st' → aops cx O' fn ops l st = some st'
  | [], _, _, hx => hx
  | o :: l, st, st', hx => by
    unfold aops at hx ⊢
    split at hx
    · rename_i e
      cases hs : astep cx O fn o st with
      | none => rw [hs] at hx; cases hx
      | some s => rw [hs] at hx; rw [astep_le h hs]; exact aops_le h hx
    · rename_i e; exact aops_le h hx
    · cases hx
theorem adraw_le {O O' : Oracle} (h : Sub O O') {fn : FuncId} {ops : Array Oper} : ∀ {l : List Nat} {E : List (Nat × List Nat)} {st st' : St}, adraw cx O fn ops l E st = some st' → adraw cx O' fn ops l E st = some st'
  | [], _, _, _, hx => hx
  | i :: l, E, st, st', hx => by
    unfold adraw at hx ⊢
    cases ho : ops[i]? with
    | none => rw [ho] at hx; cases hx
    | some o =>
      rw [ho] at hx
      dsimp only at hx ⊢
      cases hw : wantedA ops.toList o st.fr with
      | none => rw [hw] at hx; cases hx
      | some b =>
        rw [hw] at hx
        cases b with
        | false => exact adraw_le h hx
        | true =>
          dsimp only at hx ⊢
          by_cases hm : mob cx fn o = true
          · rw [if_pos hm] at hx ⊢
            by_cases hb : bad cx fn o st = true
            · rw [if_pos hb] at hx; cases hx
            · rw [if_neg hb] at hx ⊢
              cases hs : astep cx O fn o st with
              | none => rw [hs] at hx; cases hx
              | some s => rw [hs] at hx; rw [astep_le h hs]; exact adraw_le h hx
          · rw [if_neg hm] at hx ⊢
            by_cases hb : clear cx fn ops o st E = true
            · rw [if_pos hb] at hx ⊢
              cases hs : astep cx O fn o st with
              | none => rw [hs] at hx; cases hx
              | some s => rw [hs] at hx; rw [astep_le h hs]; exact adraw_le h hx
            · rw [if_neg hb] at hx; cases hx
theorem aloop_le {f g : St → Option (Ex × St)} (h : ∀ st x, f st = some x → g st = some x) : ∀ {k k' : Nat} {st : St} {x : Ex × St}, k ≤ k' → aloop f k st = some x → aloop g k' st = some x
  | 0, _, _, _, _, hx => by cases hx
  | k + 1, 0, _, _, hk, _ => by omega
  | k + 1, k' + 1, st, x, hk, hx => by
    unfold aloop at hx ⊢
    cases hf : f st with
    | none => rw [hf] at hx; cases hx
    | some p =>
      obtain ⟨e, st'⟩ := p
      rw [hf] at hx
      rw [h _ _ hf]
      cases e with
      | nrm => exact aloop_le h (by omega) hx
      | exit i => exact hx
      | ret => exact hx
theorem aexec_le {O O' : Oracle} (h : Sub O O') {k k' : Nat} (hk : k ≤ k') {fn : FuncId} {rd : Option Nat} : ∀ {c : Code} {st : St} {x : Ex × St}, aexec cx O k fn rd c st = some x → aexec cx O' k' fn rd c st = some x := by
  intro c
  induction c with
  | region id ops draw =>
    intro st x hx
    unfold aexec at hx ⊢
    cases draw with
    | true =>
      simp only [if_true] at hx ⊢
      cases hs : adraw cx O fn ops (cx.sched fn id) [] st with
      | none => rw [hs] at hx; cases hx
      | some s => rw [hs] at hx; rw [adraw_le h hs]; exact hx
    | false =>
      simp only [Bool.false_eq_true, if_false] at hx ⊢
      cases hs : aops cx O fn ops.toList ops.toList st with
      | none => rw [hs] at hx; cases hx
      | some s => rw [hs] at hx; rw [aops_le h hs]; exact hx
  | seq a b iha ihb =>
    intro st x hx
    unfold aexec at hx ⊢
    cases ha : aexec cx O k fn rd a st with
    | none => rw [ha] at hx; cases hx
    | some p =>
      obtain ⟨e, st'⟩ := p
      rw [ha] at hx
      rw [iha ha]
      cases e with
      | nrm => exact ihb hx
      | exit i => exact hx
      | ret => exact hx
  | cond c a b iha ihb =>
    intro st x hx
    unfold aexec at hx ⊢
    split at hx
    · rename_i t e
      split at hx
      · rename_i ht; rw [if_pos ht]; exact iha hx
      · rename_i ht; rw [if_neg ht]; exact ihb hx
    · cases hx
  | block id a ih =>
    intro st x hx
    unfold aexec at hx ⊢
    cases ha : aexec cx O k fn rd a st with
    | none => rw [ha] at hx; cases hx
    | some p =>
      obtain ⟨e, st'⟩ := p
      rw [ha] at hx
      rw [ih ha]
      exact hx
  | scope a ih =>
    intro st x hx
    unfold aexec at hx ⊢
    exact ih hx
  | loop a ih =>
    intro st x hx
    unfold aexec at hx ⊢
    exact aloop_le (fun st x h => ih h) hk hx
  | rangeFunc f ps a b =>
    intro st x hx
    unfold aexec at hx ⊢
    cases he : enterLoop fn rd ps.toList a b st with
    | none => rw [he] at hx; cases hx
    | some p =>
      obtain ⟨l, st1⟩ := p
      rw [he] at hx
      dsimp only at hx ⊢
      split at hx
      · rename_i g args hc
        cases hO : O (.fn g args) st1.H with
        | none => rw [hO] at hx; cases hx
        | some p => rw [hO] at hx; rw [h _ _ _ hO]; exact hx
      · cases hx
  | _ => intro st x hx; exact hx
theorem acallF_le : ∀ {k k' : Nat}, k ≤ k' → Sub (acallF cx k) (acallF cx k')
  | 0, _, _ => fun r H x hx => by cases r <;> cases hx
  | k + 1, 0, hk => by omega
  | k + 1, k' + 1, hk => fun r H x hx => by
    have ih := acallF_le (k := k) (k' := k') (by omega)
    cases r with
    | fn f args =>
      unfold acallF at hx ⊢
      by_cases hf : cx.fits f = true
      · rw [if_pos hf] at hx ⊢
        cases h1 : cx.P.funcs[f]? with
        | none => rw [h1] at hx; cases hx
        | some fn =>
          rw [h1] at hx
          dsimp only at hx ⊢
          cases h2 : fn.body with
          | none => rw [h2] at hx; cases hx
          | some c =>
            rw [h2] at hx
            dsimp only at hx ⊢
            cases h3 : aexec cx (acallF cx k) k f none c ⟨enterFr 0 args, [], H⟩ with
            | none => rw [h3] at hx; cases hx
            | some p => rw [h3] at hx; rw [aexec_le ih (by omega) h3]; exact hx
      · rw [if_neg hf] at hx; cases hx
    | round l args =>
      unfold acallF at hx ⊢
      cases h1 : H[l]? with
      | none => rw [h1] at hx; cases hx
      | some o =>
        rw [h1] at hx
        split at hx
        · rename_i p0 fn fr ps a b d e
          cases e
          split at hx
          · rename_i hlen
            rw [if_pos hlen]
            cases h3 : aexec cx (acallF cx k) k fn (some l) a ⟨(ps.zip args).reverse ++ fr, [], H⟩ with
            | none => rw [h3] at hx; cases hx
            | some p =>
              obtain ⟨e, st1⟩ := p
              rw [h3] at hx
              rw [aexec_le ih (by omega) h3]
              cases e with
              | nrm =>
                dsimp only at hx ⊢
                cases h4 : st1.H[l]? with
                | none => rw [h4] at hx; cases hx
                | some o =>
                  rw [h4] at hx
                  split at hx
                  · rename_i p' fn' fr' ps' a' b' d' e
                    cases e
                    cases h5 : aexec cx (acallF cx k) k fn (some l) b { st1 with H := st1.H.set l (.loop .busy p' fn' fr' ps' a' b' d') } with
                    | none => rw [h5] at hx; cases hx
                    | some q => rw [h5] at hx; rw [aexec_le ih (by omega) h5]; exact hx
                  · cases hx
              | exit i => cases hx
              | ret => cases hx
          · cases hx
        · cases hx
theorem PF.of_run {f : FuncId} {ds : List Imm} {k : Nat} {d : Imm} {H : AHeap} (h : acallF cx k (.fn f (ds.map .im)) [] = some (.im d, H)) : PF cx f ds fun y => y = d :=
  ⟨_, _, ⟨k, fun _ hk => acallF_le hk _ _ _ h⟩, d, rfl, rfl⟩
end
end Go.Proofs.Ytnbbhbbhgcipjaa.Am
