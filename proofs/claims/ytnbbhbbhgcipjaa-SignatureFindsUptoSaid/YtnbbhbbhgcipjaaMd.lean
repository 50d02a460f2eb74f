/-
  The walk of code in an activation whose function is known: what is asked of a round that panics, and of a call that was put off.
  Code of the abstract machine answers for the model's.
  Loops over functions: the records.
  The abstract machine answers for the model: code, functions, rounds.
  The abstract machine answers for the model: functions, rounds.
  What a run of the abstract machine says of the model.
  A calculus for runs of the abstract machine on symbolic data.
  More fuel changes nothing.
-/
import Derived.Test.YtnbbhbbhgcipjaaMc
import Derived.RangeFuncIn
import Derived.RangeFuncLeaves
import Derived.RecoverIn
import Derived.RangeFuncRecord
set_option linter.unusedVariables false
set_option linter.unnecessarySimpa false
set_option linter.unusedSimpArgs false
set_option linter.unusedSectionVars false
namespace Go.Proofs.Ytnbbhbbhgcipjaa.Am
/-- Is there such a function? -/
def known (P : Program) (f : FuncId) : Prop := ∃ fn, P.funcs[f]? = some fn
/-- A walk in the activation of a known function. -/
def wpV (F : Fence) (n : Nat) (P : Program) (c : Code) (Q : Exit → Act → World → Prop) (a : Act) (w : World) : Prop :=
  ∀ (b : Frame), known P b.fn → ∀ (k : List Item) (cs : List Frame), b.roundOf = F.round → F.fn b.fn → F.room (cs.length + 1 + n) →
    ∃ e a' w', Q e a' w' ∧ ArrivesIn (Machine.fenced P F) P (lone (b.atR a (.code c :: k)) cs w) b k cs e a' w'
section
variable {F : Fence} {n : Nat} {P : Program} {Q : Exit → Act → World → Prop} {a : Act} {w : World}
theorem wpV_of {c : Code} (h : c.wpIn F n P Q a w) : wpV F n P c Q a w := fun b _ => h b
theorem wpV_mono {c : Code} {Q' : Exit → Act → World → Prop} (h : wpV F n P c Q a w) (hq : ∀ e a w, Q e a w → Q' e a w) : wpV F n P c Q' a w :=
  fun b hv k cs hro hb hr => let ⟨e, a', w', q, r⟩ := h b hv k cs hro hb hr; ⟨e, a', w', hq _ _ _ q, r⟩
theorem wpV_seq {x y : Code} (h : wpV F n P x (Exit.then (wpV F n P y Q) Q) a w) : wpV F n P (.seq x y) Q a w := by
  intro b hv k cs hro hb hr
  have h0 : (lone (b.atR a (.code (.seq x y) :: k)) cs w).fenced P F := fenced_calm hb hr rfl
  obtain ⟨e, a₁, w₁, hq, harr⟩ := h b hv (.code y :: k) cs hro hb hr
  cases e with
  | normal =>
    obtain ⟨e₂, a₂, w₂, hq₂, harr₂⟩ := hq b hv k cs hro hb hr
    exact ⟨e₂, a₂, w₂, hq₂, .of_steps (.head h0 stepR_seq harr) harr₂⟩
  | _ => exact ⟨_, a₁, w₁, hq, .of_steps (.one h0 stepR_seq) (.pass (x := .code y) rfl (fun _ _ => .inl (by simp)) harr)⟩
theorem wpV_cond {c : Operand} {x y : Code} {t : Bool} (hc : a.eval c = .bool t) (h : wpV F n P (if t then x else y) Q a w) : wpV F n P (.cond c x y) Q a w :=
  fun b hv k cs hro hb hr => let ⟨e, a', w', q, r⟩ := h b hv k cs hro hb hr; ⟨e, a', w', q, .of_steps (.one (fenced_calm hb hr rfl) (stepR_cond hc)) r⟩
theorem wpV_block {id : Nat} {c : Code} (h : wpV F n P c (Exit.inBlock id Q) a w) : wpV F n P (.block id c) Q a w := by
  intro b hv k cs hro hb hr
  have h0 : (lone (b.atR a (.code (.block id c) :: k)) cs w).fenced P F := fenced_calm hb hr rfl
  obtain ⟨e, a₁, w₁, hq, harr⟩ := h b hv (.inBlock id :: k) cs hro hb hr
  cases e with
  | normal => exact ⟨.normal, a₁, w₁, hq, .head h0 stepR_block (StepsIn.trans harr (.one (fenced_calm hb hr rfl) stepR_inBlock))⟩
  | exit id' =>
    by_cases hid : id' = id
    · simp only [Exit.inBlock, hid, if_true] at hq
      exact ⟨.normal, a₁, w₁, hq, .head h0 stepR_block (harr.1 k (by simp [exitTo, hid]))⟩
    · simp only [Exit.inBlock, hid, if_false] at hq
      have this : (id == id') = false := by simp; exact fun h => hid h.symm
      have hx : exitTo id' (.inBlock id :: k) = exitTo id' k := by simp [exitTo, this]
      exact ⟨.exit id', a₁, w₁, hq, fun k' hk => .head h0 stepR_block (harr.1 k' (by rw [hx]; exact hk)),
        fun hr' hk => let ⟨k₁, h1, h2⟩ := harr.2 hr' (by rw [hx]; exact hk); ⟨k₁, h1, .head h0 stepR_block h2⟩⟩
  | goto l =>
    have hx : gotoIn l (.inBlock id :: k) = gotoIn l k := by simp [gotoIn]
    exact ⟨_, a₁, w₁, hq, fun k' hk => .head h0 stepR_block (harr.1 k' (by rw [hx]; exact hk)),
      fun hr' hk => let ⟨k₁, h1, h2⟩ := harr.2 hr' (by rw [hx]; exact hk); ⟨k₁, h1, .head h0 stepR_block h2⟩⟩
  | _ => exact ⟨_, a₁, w₁, hq, .of_steps (.one h0 stepR_block) harr⟩
theorem wpV_scope {c : Code} (h : wpV F n P c (fun e a w => (∀ l, e ≠ .goto l) ∧ Q e a w) a w) : wpV F n P (.scope c) Q a w := by
  intro b hv k cs hro hb hr
  have s1 : step P (lone (b.atR a (.code (.scope c) :: k)) cs w) = .next (lone (b.atR a (.code c :: .inScope c :: k)) cs w) := step_lone_go (by simp [stepG, stepG.exec, Frame.atR])
  have h0 : (lone (b.atR a (.code (.scope c) :: k)) cs w).fenced P F := fenced_calm hb hr rfl
  obtain ⟨e, a₁, w₁, ⟨hng, hq⟩, harr⟩ := h b hv (.inScope c :: k) cs hro hb hr
  have s2 : ∀ a w, step P (lone (b.atR a (.inScope c :: k)) cs w) = .next (lone (b.atR a k) cs w) := fun a w => step_lone_go (by simp [stepG, stepG.exec, Frame.atR])
  cases e with
  | normal => exact ⟨.normal, a₁, w₁, hq, .head h0 s1 (StepsIn.trans harr (.one (fenced_calm hb hr rfl) (s2 _ _)))⟩
  | exit id =>
    have hx : exitTo id (.inScope c :: k) = exitTo id k := by simp [exitTo]
    exact ⟨.exit id, a₁, w₁, hq, fun k' hk => .head h0 s1 (harr.1 k' (by rw [hx]; exact hk)), fun hr' hk => let ⟨k₁, h1, h2⟩ := harr.2 hr' (by rw [hx]; exact hk); ⟨k₁, h1, .head h0 s1 h2⟩⟩
  | goto l => exact absurd rfl (hng l)
  | _ => exact ⟨_, a₁, w₁, hq, .of_steps (.one h0 s1) harr⟩
/-- A loop, by how many rounds are left at most. -/
theorem wpV_loop_by {c : Code} (I : Nat → Act → World → Prop) {j : Nat} (h₀ : I j a w)
    (round : ∀ j a w, I j a w → wpV F n P c (Exit.then (fun a' w' => ∃ i, i < j ∧ I i a' w') Q) a w) : wpV F n P (.loop c) Q a w := by
  intro b hv k cs hro hb hr
  have key : ∀ j a w, I j a w → ∃ e a' w', Q e a' w' ∧ ArrivesIn (Machine.fenced P F) P (lone (b.atR a (.code c :: .inLoop c :: k)) cs w) b k cs e a' w' := by
    intro j
    induction j using Nat.strongRecOn with
    | _ j ih =>
      intro a w hI
      obtain ⟨e, a₁, w₁, hq, harr⟩ := round j a w hI b hv (.inLoop c :: k) cs hro hb hr
      cases e with
      | normal =>
        obtain ⟨i, hlt, hI₁⟩ := hq
        obtain ⟨e₂, a₂, w₂, hq₂, harr₂⟩ := ih i hlt a₁ w₁ hI₁
        exact ⟨e₂, a₂, w₂, hq₂, .of_steps (StepsIn.trans harr (.one (fenced_calm hb hr rfl) stepR_inLoop)) harr₂⟩
      | _ => exact ⟨_, a₁, w₁, hq, .pass (x := .inLoop c) rfl (fun _ _ => .inl (by simp)) harr⟩
  obtain ⟨e, a', w', hq, harr⟩ := key _ a w h₀
  exact ⟨e, a', w', hq, .of_steps (.one (fenced_calm hb hr rfl) stepR_loop) harr⟩
/-- What is asked when the function that is ranged over has ended. -/
def rangeV (F : Fence) (n : Nat) (P : Program) (l : Nat) (Q : Exit → Act → World → Prop) (a' : Act) : Ending → World → Prop
  | .returned _, w₃ => ∃ jump w₄, (Instr.endLoop l).run P w₃ = .ok jump w₄ ∧ (match jump with | none => Q .normal a' w₄ | some c => wpV F n P c Q a' w₄)
  | .panicked chain, w₃ => Q (.panic chain) a' w₃
  | .outgrown, _ => LetsOut Q
/-- A loop over a function, in an activation of a known function. -/
theorem wpV_rangeFunc {g : Operand} {ps : Array Tmp} {assign body : Code}
    (h : ∀ fn, known P fn → F.fn fn → ∃ (l : Nat) (mark : List Deferred) (w₁ : World) (d : Deferred) (w₁' : World) (f : FuncId) (args : Array Value) (w₂ : World),
      (Instr.enterLoop fn a.tmps ps assign body F.round).run P w = .ok (l, mark) w₁ ∧ (resolve a.eval (rangeCall g l) 0).run P w₁ = .ok d w₁' ∧
      (∀ f', Target.leads P w₁' d.target d.args = some f' → F.fn f') ∧ (invoke d.target d.args).run P w₁' = .ok (.enter f args) w₂ ∧ (F.depth.isSome = true → 1 ≤ n) ∧
      CallsIn F (n - 1) P f args w₂ (rangeV F n P l Q { a with defers := mark ++ a.defers })) : wpV F n P (.rangeFunc g ps assign body) Q a w := by
  intro b hv k cs hro hb hr
  obtain ⟨l, mark, w₁, d, w₁', f, args, w₂, he, hres, hlead, hinv, hn, hF, hcall⟩ := h b.fn hv hb
  rw [← hro] at he
  have h0 : (lone (b.atR a (.code (.rangeFunc g ps assign body) :: k)) cs w).fenced P F := by
    refine fenced_lone (.inl hb) (fun f' hf' => hlead f' ?_) (Fence.room_le hr (by omega))
    have hev := Frame.eval_atR b a (.code (.rangeFunc g ps assign body) :: k)
    simp only [Frame.atR] at hev
    simp only [Frame.about, Frame.atR, he, hev, hres] at hf'
    exact hf'
  have henter := stepR_rangeFunc (P := P) (b := b) (a := a) (k := k) (cs := cs) (w := w) he hres hinv
  have hroom : F.room ((b.atR { a with defers := mark ++ a.defers } (.inRangeFunc l :: k) :: cs).length + 1 + (n - 1)) := Fence.room_enter hr hn
  obtain ⟨e, w₃, fr, hR, hsteps, hfn, hleave⟩ := hcall (b.atR { a with defers := mark ++ a.defers } (.inRangeFunc l :: k) :: cs) hroom
  cases e with
  | outgrown =>
    obtain ⟨a₀, w₀, hq⟩ := hR
    exact ⟨.outgrown, a₀, w₀, hq, .inr (Outgrown.of_steps (.one henter) hsteps)⟩
  | returned v =>
    have hl : (lone fr (b.atR { a with defers := mark ++ a.defers } (.inRangeFunc l :: k) :: cs) w₃).fenced P F := fenced_leaving (hfn ▸ hF) hroom hleave
    obtain ⟨jump, w₄, hend, hj⟩ := hR
    have sback : StepsIn (Machine.fenced P F) P (lone (b.atR a (.code (.rangeFunc g ps assign body) :: k)) cs w) (lone (b.atR { a with defers := mark ++ a.defers } ((jump.map Item.code).toList ++ k)) cs w₄) := by
      refine .head h0 henter (StepsIn.trans hsteps (.head hl ?_ (.one (fenced_calm (fr := b.atR { a with defers := mark ++ a.defers } (.endRangeFunc l :: k)) hb hr rfl) (stepR_endRangeFunc hend))))
      rw [← finish_atR_inRangeFunc l v]; exact step_leave_returned hleave
    cases jump with
    | none => exact ⟨.normal, _, w₄, hj, sback⟩
    | some c =>
      obtain ⟨e', a'', w₅, hq, harr⟩ := hj b hv k cs hro hb hr
      exact ⟨e', a'', w₅, hq, .of_steps sback harr⟩
  | panicked chain =>
    have hl : (lone fr (b.atR { a with defers := mark ++ a.defers } (.inRangeFunc l :: k) :: cs) w₃).fenced P F := fenced_leaving (hfn ▸ hF) hroom hleave
    refine ⟨.panic chain, _, w₃, hR, .inRangeFunc l :: k, .head h0 henter (StepsIn.trans hsteps (.one hl ?_))⟩
    rw [← Frame.raise_atR]; exact step_leave_panicked hleave
/-- What is asked at a round's end. -/
def roundV (P : Program) (l : Nat) (R : Ending → World → Prop) : Exit → Act → World → Prop
  | .normal, _, w => ∃ v w', (Instr.endRound l none).run P w = .ok v w' ∧ R (.returned v) w'
  | .ret, _, w => ∃ v w', (Instr.endRound l (some .ret)).run P w = .ok v w' ∧ R (.returned v) w'
  | .exit id, _, w => ∃ v w', (Instr.endRound l (some (.exit id))).run P w = .ok v w' ∧ R (.returned v) w'
  | .panic ch, a, w => a.defers = [] ∧ R (.panicked ch) w
  | _, _, _ => False
theorem roundIn_of_wpV {l : Nat} {f : FuncId} {tmps : Array Value} {assign body : Code} {R : Ending → World → Prop} (hv : known P f) (hF : F.fn f)
    (h : wpV (F.inRound l) n P assign (Exit.then (fun a₁ w₁ => ∃ w₂, (Instr.beginRound l).run P w₁ = .ok () w₂ ∧ wpV (F.inRound l) n P body (roundV P l R) a₁ w₂) (fun _ _ _ => False)) { tmps := tmps, defers := [] } w) :
    RoundIn F n P l f tmps assign body w R := by
  refine ⟨hF, fun c cs hr => ?_⟩
  let b : Frame := { (default : Frame) with fn := f, kind := .normal, roundOf := some l }
  have hb0 : Frame.round l f tmps assign body .normal = b.atR { tmps := tmps, defers := [] } [.code assign, .beginRound, .code body] := by simp [Frame.round, Frame.atR, b]
  have hr' : (F.inRound l).room ((c :: cs).length + 1 + n) := hr
  have hF' : (F.inRound l).fn b.fn := hF
  have hvb : known P b.fn := hv
  obtain ⟨e, a₁, w₁, hq, harr⟩ := h b hvb [.beginRound, .code body] (c :: cs) rfl hF' hr'
  rw [← hb0] at harr
  cases e with
  | normal =>
    obtain ⟨w₂, hbr, hbody⟩ := hq
    have s1 : StepsIn (Machine.fenced P (F.inRound l)) P (lone (b.atR a₁ [.beginRound, .code body]) (c :: cs) w₁) (lone (b.atR a₁ [.code body]) (c :: cs) w₂) :=
      .one (fenced_calm (fr := b.atR a₁ [.beginRound, .code body]) hF' hr' rfl) (stepR_beginRound rfl hbr)
    obtain ⟨e₂, a₂, w₃, hq₂, harr₂⟩ := hbody b hvb [] (c :: cs) rfl hF' hr'
    cases e₂ with
    | normal =>
      obtain ⟨v, w₄, hend, hR⟩ := hq₂
      exact ⟨.returned v, w₄, hR, (StepsIn.trans harr s1).trans (StepsIn.trans harr₂ (.one (fenced_calm (fr := b.atR a₂ []) hF' hr' rfl) (stepR_round_end rfl rfl hend)))⟩
    | ret =>
      obtain ⟨v, w₄, hend, hR⟩ := hq₂
      obtain ⟨k₁, hs⟩ := harr₂.2 rfl
      exact ⟨.returned v, w₄, hR, (StepsIn.trans harr s1).trans (StepsIn.trans hs (.one (fenced_calm (fr := b.atR a₂ (.code .ret :: k₁)) hF' hr' rfl) (stepR_round_ret rfl rfl hend)))⟩
    | exit id =>
      obtain ⟨v, w₄, hend, hR⟩ := hq₂
      obtain ⟨k₁, hk, hs⟩ := harr₂.2 rfl rfl
      exact ⟨.returned v, w₄, hR, (StepsIn.trans harr s1).trans (StepsIn.trans hs (.one (fenced_calm (fr := b.atR a₂ (.code (.exit id) :: k₁)) hF' hr' rfl) (stepR_round_exit rfl rfl hk hend)))⟩
    | panic chain =>
      obtain ⟨hd, hR⟩ := hq₂
      obtain ⟨todo, hs⟩ := harr₂
      have hlv : ({ b.atR a₂ todo with mode := .panicking chain } : Frame).leaving P w₃ (.panicked chain) := ⟨rfl, hd, hvb⟩
      refine ⟨.panicked chain, w₃, hR, (StepsIn.trans harr s1).trans (StepsIn.trans hs (.one (fenced_leaving (F := F.inRound l) (n := n) hF' hr' hlv) (step_leave_panicked hlv)))⟩
    | goto t => exact hq₂.elim
    | outgrown => exact hq₂.elim
  | _ => exact hq.elim
/-- A function, out of its body. -/
theorem callsIn_of_wpV {f : FuncId} {fn : Func} {c : Code} {args : Array Value} {R : Ending → World → Prop} (hf : P.funcs[f]? = some fn) (hb : fn.body = some c) (hF : F.fn f)
    (h : wpV F n P c (bodyPostM F n P fn R) { tmps := args ++ Array.replicate (fn.ntmps - args.size) undef, defers := [] } w) (hro : F.round = none) : CallsIn F n P f args w R := by
  refine ⟨hF, fun cs hr => ?_⟩
  let b : Frame := { (default : Frame) with fn := f, kind := .normal, roundOf := none }
  have henter : Frame.enter P f args .normal = b.atR { tmps := args ++ Array.replicate (fn.ntmps - args.size) undef, defers := [] } [.code c] := by simp [Frame.enter, Frame.atR, hf, hb, b]
  obtain ⟨e, a', w', hq, harr⟩ := h b ⟨fn, hf⟩ [] cs hro.symm hF hr
  rw [← henter] at harr
  cases e with
  | normal =>
    obtain ⟨e', w'', fr', hR, hs, hfn, hl⟩ := leaves_stepsInM a'.defers .returning w' { b.atR a' [] with mode := .returning } cs rfl rfl rfl hf rfl hF hr hq
    exact ⟨e', w'', fr', hR, ComesIn.of_steps (StepsIn.trans harr (.one (fenced_calm (fr := b.atR a' []) hF hr rfl) (stepR_end rfl))) hs, hfn, hl⟩
  | ret =>
    obtain ⟨todo, hs₀⟩ := harr.1 rfl
    obtain ⟨e', w'', fr', hR, hs, hfn, hl⟩ := leaves_stepsInM a'.defers .returning w' { b.atR a' todo with mode := .returning } cs rfl rfl rfl hf rfl hF hr hq
    exact ⟨e', w'', fr', hR, ComesIn.of_steps hs₀ hs, hfn, hl⟩
  | panic chain =>
    obtain ⟨todo, hs₀⟩ := harr
    obtain ⟨e', w'', fr', hR, hs, hfn, hl⟩ := leaves_stepsInM a'.defers (.panicking chain) w' { b.atR a' todo with mode := .panicking chain } cs rfl rfl rfl hf rfl hF hr hq
    exact ⟨e', w'', fr', hR, ComesIn.of_steps hs₀ hs, hfn, hl⟩
  | exit id => exact hq.elim
  | goto l => exact hq.elim
  | outgrown => exact ⟨.outgrown, w', b, hq, harr.resolve_left (by simp [b]), rfl, trivial⟩
/-- A function that was put off and recovers first of all, out of its body. -/
theorem callsDIn_of_wpV {f : FuncId} {fn : Func} {x y : Code} {args : Array Value} {u : FrameMode} {R : Ending → FrameMode → World → Prop} (hf : P.funcs[f]? = some fn) (hb : fn.body = some (.seq x y)) (hF : F.fn f) (hro : F.round = none)
    (h : ∀ (c₀ : Frame) (cs : List Frame), c₀.mode = u →
      x.wpSIn F n P (fun e a cs' w' => e = .normal ∧ cs'.length = cs.length + 1 ∧ wpV F n P y (fun e a' w' => bodyPostS P fn c₀ cs R e a' cs' w') a w') { tmps := args ++ Array.replicate (fn.ntmps - args.size) undef, defers := [] } (c₀ :: cs) w) : CallsDIn F n P f args u w R := by
  refine ⟨hF, fun c₀ cs hu hroom => ?_⟩
  let b : Frame := { (default : Frame) with fn := f, kind := .deferred, roundOf := none }
  have henter : Frame.enter P f args .deferred = b.atR { tmps := args ++ Array.replicate (fn.ntmps - args.size) undef, defers := [] } [.code (.seq x y)] := by simp [Frame.enter, Frame.atR, hf, hb, b]
  have h0 : (lone (b.atR { tmps := args ++ Array.replicate (fn.ntmps - args.size) undef, defers := [] } [.code (.seq x y)]) (c₀ :: cs) w).fenced P F := fenced_calm (fr := b.atR { tmps := args ++ Array.replicate (fn.ntmps - args.size) undef, defers := [] } [.code (.seq x y)]) hF hroom rfl
  obtain ⟨e₁, a₁, cs₁, w₁, hl₁, ⟨rfl, hlen, hy⟩, harr₁⟩ := h c₀ cs hu b [.code y] rfl rfl hF hroom
  have hroom₁ : F.room (cs₁.length + 1 + n) := by rw [hlen]; exact hroom
  obtain ⟨e, a', w', hq, harr₂⟩ := hy b ⟨fn, hf⟩ [] cs₁ hro.symm hF hroom₁
  have harr : ArrivesIn (Machine.fenced P F) P (lone (b.atR { tmps := args ++ Array.replicate (fn.ntmps - args.size) undef, defers := [] } [.code (.seq x y)]) (c₀ :: cs) w) b [] cs₁ e a' w' := .of_steps (.head h0 stepR_seq harr₁) harr₂
  rw [← henter] at harr
  cases e with
  | normal =>
    obtain ⟨hd, u', rfl, v, hr, hR⟩ := hq
    exact ⟨.returned v, u', w', _, hR, StepsIn.trans harr (.one (fenced_calm (fr := b.atR a' []) hF hroom rfl) (stepR_end rfl)), rfl, rfl, rfl, hd, fn, hf, hr⟩
  | ret =>
    obtain ⟨hd, u', rfl, v, hr, hR⟩ := hq
    obtain ⟨todo, hs⟩ := harr.1 rfl
    exact ⟨.returned v, u', w', _, hR, hs, rfl, rfl, rfl, hd, fn, hf, hr⟩
  | panic chain =>
    obtain ⟨hd, u', rfl, hR⟩ := hq
    obtain ⟨todo, hs⟩ := harr
    exact ⟨.panicked chain, u', w', _, hR, hs, rfl, rfl, rfl, hd, fn, hf⟩
  | exit id => exact hq.elim
  | goto l => exact hq.elim
  | outgrown =>
    obtain ⟨u', hR⟩ := hq
    exact ⟨.outgrown, u', w', b, hR, harr.resolve_left (by simp [b]), rfl, rfl, trivial⟩
end
end Go.Proofs.Ytnbbhbbhgcipjaa.Am

namespace Go.Proofs.Ytnbbhbbhgcipjaa.Am

/-- Code that puts nothing off. -/
def codeNd : Code → Bool
  | .region _ ops _ => noDfr ops
  | .seq a b | .cond _ a b => codeNd a && codeNd b
  | .block _ a | .scope a | .loop a => codeNd a
  | .rangeFunc _ _ a b => codeNd a && codeNd b
  | _ => true
/-- Does the code fit into so many temporaries, and are its orders good? -/
def codeFit (cx : Cx) (fn : FuncId) (n : Nat) : Code → Bool
  | .region id ops draw => ops.all (fun o => match o.dst with | some d => decide (d < n) | none => true) && (!draw || schedOk cx fn ops (cx.sched fn id))
  | .seq a b | .cond _ a b => codeFit cx fn n a && codeFit cx fn n b
  | .block _ a | .scope a | .loop a => codeFit cx fn n a
  | .rangeFunc _ ps a b => ps.all (fun t => decide (t < n)) && codeFit cx fn n a && codeFit cx fn n b && (codeNd a && codeNd b)
  | _ => true
theorem fit_dst {cx : Cx} {fn : FuncId} {n id : Nat} {ops : Array Oper} {draw : Bool} (h : codeFit cx fn n (.region id ops draw) = true) : (∀ o ∈ ops, ∀ d, o.dst = some d → d < n) ∧ (draw = true → schedOk cx fn ops (cx.sched fn id) = true) := by
  rw [codeFit] at h
  simp only [Bool.and_eq_true, Bool.or_eq_true, Bool.not_eq_true', Array.all_eq_true_iff_forall_mem] at h
  refine ⟨fun o ho d hd => ?_, fun hdr => h.2.resolve_left (by rw [hdr]; simp)⟩
  have := h.1 o ho
  rw [hd] at this
  simpa using this

variable [LFit]
section
variable {P : Program} {X B : Nat → Prop} {ρ : List (Option Nat)} {w : World} {H : AHeap} {cx : Cx} {O : Oracle} {n : Nat} {st : St} {a : Act}

/-- How code is left. -/
def ExR (X B : Nat → Prop) (ρ : List (Option Nat)) (w : World) (H : AHeap) : Ex → Exit → Prop
  | .nrm, e => e = .normal
  | .exit id, e => e = .exit id
  | .ret, e => e = .ret
  | .pan d, e => ∃ v, e = .panic [{ v, recovered := false }] ∧ RepI w (Nof ρ H X B) (Nqof ρ H X) d v
/-- The loop whose round it is. -/
def RD (ρ : List (Option Nat)) (H : AHeap) : Option Nat → Option Nat → Prop
  | none, ro => ro = none
  | some l, ro => ∃ bl, ro = some bl ∧ RepFn ρ H (.yield l) (.yield bl)
theorem RD.mono {ρ' : List (Option Nat)} {w' : World} {H' : AHeap} (E : Evo ρ w H ρ' w' H') {rd ro : Option Nat} (h : RD ρ H rd ro) : RD ρ' H' rd ro := by
  cases rd with
  | none => exact h
  | some l =>
    obtain ⟨bl, h1, h2⟩ := h
    exact ⟨bl, h1, RepFn.monoS E.sees h2⟩

theorem SR.cleaned (S : SR X B n (fun _ => False) ρ st a w) (keep : Option (List Nat)) : SR X B n (fun _ => False) ρ (clean keep st) a w := by
  cases keep with
  | none => exact S
  | some l =>
    refine ⟨S.rel, fun t _ => ?_, S.size, S.marks⟩
    have : Fr.get (clean (some l) st).fr t = Fr.get st.fr t ∨ Fr.get (clean (some l) st).fr t = .top := by
      show Fr.get (l.filterMap fun t => (st.fr.lookup t).map (t, ·)) t = _ ∨ Fr.get (l.filterMap fun t => (st.fr.lookup t).map (t, ·)) t = _
      induction l with
      | nil => right; rfl
      | cons x l ih =>
        rw [List.filterMap_cons]
        cases hx : st.fr.lookup x with
        | none => exact ih
        | some v =>
          simp only [Option.map_some]
          rw [get_put]
          by_cases e : t = x
          · subst e; rw [if_pos rfl]; left; unfold Fr.get; rw [hx]; rfl
          · rw [if_neg e]; exact ih
    rcases this with h | h
    · rw [h]; exact S.fr t (fun h => h)
    · rw [h]; trivial
/-- What the loops' records are asked. -/
def FitIs (cx : Cx) [LFit] : Prop := ∀ fn ps a b sz f, LFit.fit fn ps a b sz f ↔ known cx.P f ∧ ∃ n, n ≤ sz ∧ (∀ t ∈ ps, t < n) ∧ codeFit cx fn n a = true ∧ codeFit cx fn n b = true ∧ codeNd a = true ∧ codeNd b = true

theorem range_idx (ops : Array Oper) : (List.range ops.size).map (ops[·]?) = ops.toList.map some := by
  apply List.ext_getElem?
  intro i
  by_cases h : i < ops.size
  · simp [h]
  · rw [List.getElem?_eq_none (by simp; omega), List.getElem?_eq_none (by simp; omega)]
theorem callee_split {f : AV} {cf : Value} {as args : List AV} {g : FuncId} (h : callee f as = some (.fn g args)) (hf : Rp X B ρ w H f cf) : ∃ cap xs, cf = .func (.func g) #[] cap ∧ args = as ++ xs ∧ RepAL w ρ H (Nof ρ H X B) (Nqof ρ H X) xs cap.toList := by
  unfold callee at h
  split at h
  · cases h
    obtain ⟨l, rfl, hl⟩ := hf
    exact ⟨l, _, rfl, rfl, RepAL.im.2 hl⟩
  · cases h
    obtain ⟨f', l, rfl, hf', hl⟩ := hf
    cases hf'
    exact ⟨l, _, rfl, rfl, hl⟩
  · cases h
  · cases h
end
end Go.Proofs.Ytnbbhbbhgcipjaa.Am

namespace Go.Proofs.Ytnbbhbbhgcipjaa.Am
variable [LFit]
section
variable {P : Program} {X B : Nat → Prop} {ρ : List (Option Nat)} {w : World} {H : AHeap} {cx : Cx} {O : Oracle} {n : Nat} {st : St} {a : Act}

theorem HRel.evo_put (R : HRel X B ρ w H) {w' : World} {l b : Nat} {o o' : AObj} {oc : Obj} (hw : HeapIs w w' (w.heap.setIfInBounds b oc)) (ho : H[l]? = some o) (hlive : o.live = true) (hb : look ρ l = some b) (he : OEvo ρ ρ w w' l o o') : Evo ρ w H ρ w' (H.set l o') := by
  have E0 := (R.put hw ho hlive hb (o' := .gone) (by cases o <;> trivial) trivial).1
  have hl : l < H.length := (List.getElem?_eq_some_iff.1 ho).1
  exact
    { os := hw.os, tape := hw.tape, output := hw.output, size := E0.size, same := E0.same, len := by simp
      obj := fun l' o1 h => by
        by_cases e : l' = l
        · subst e; rw [ho] at h; cases h; exact ⟨o', by simp [hl], he⟩
        · obtain ⟨o2, h1, h2⟩ := E0.obj l' o1 h
          rw [List.getElem?_set_ne (Ne.symm e)] at h1
          exact ⟨o2, by rw [List.getElem?_set_ne (Ne.symm e)]; exact h1, h2⟩
      fresh := fun b' hb' _ => by
        obtain ⟨l', o1, h, hlv, hr⟩ := hb'
        by_cases e : l' = l
        · subst e; exact ⟨l', _, ho, hlive, hr⟩
        · rw [List.getElem?_set_ne (Ne.symm e)] at h; exact ⟨l', o1, h, hlv, hr⟩ }
theorem putObj_is (b : Nat) (oc : Obj) : HeapIs w (w.putObj b oc) (w.heap.setIfInBounds b oc) := ⟨rfl, rfl, rfl, rfl⟩
theorem HRel.putLoop (R : HRel X B ρ w H) {l bl : Nat} {L : Loop} {s s' : LoopState} {p p' : Option Jmp} {fn : FuncId} {fr : Fr} {ps : List Tmp} {ca cb : Code} {d : Nat} (ho : H[l]? = some (.loop s p fn fr ps ca cb d)) (hb : look ρ l = some bl) (hL : w.heap[bl]? = some (.loop L)) :
    Evo ρ w H ρ (w.putObj bl (.loop { L with state := s', pending := p'.map Jmp.code })) (H.set l (.loop s' p' fn fr ps ca cb d)) ∧
    HRel X B ρ (w.putObj bl (.loop { L with state := s', pending := p'.map Jmp.code })) (H.set l (.loop s' p' fn fr ps ca cb d)) := by
  have hw := putObj_is (w := w) bl (.loop { L with state := s', pending := p'.map Jmp.code })
  have he : OEvo ρ ρ w (w.putObj bl (.loop { L with state := s', pending := p'.map Jmp.code })) l (.loop s p fn fr ps ca cb d) (.loop s' p' fn fr ps ca cb d) := ⟨s', p', rfl, rfl⟩
  have E := R.evo_put hw ho rfl hb he
  obtain ⟨bl', L', h1, h2, _, _, h5, h6⟩ := R.obj l _ ho
  rw [hb] at h1; cases h1
  rw [hL] at h2; cases h2
  exact R.put hw ho rfl hb he ⟨bl, _, hb, hw.set_same (Array.getElem?_eq_some_iff.1 hL).1, rfl, rfl, RepFr.monoS E.sees (E.stay X B) h5, h6⟩
theorem HRel.putDfr (R : HRel X B ρ w H) {l b : Nat} (ho : H[l]? = some (.dfr false)) (hb : look ρ l = some b) :
    Evo ρ w H ρ (w.putObj b (.deferred none)) (H.set l (.dfr true)) ∧ HRel X B ρ (w.putObj b (.deferred none)) (H.set l (.dfr true)) := by
  obtain ⟨b', h1, h2⟩ := R.obj l _ ho
  rw [hb] at h1; cases h1
  have hw := putObj_is (w := w) b (.deferred none)
  exact R.put hw ho rfl hb ⟨true, rfl, rfl⟩ ⟨b, hb, hw.set_same (Array.getElem?_eq_some_iff.1 h2).1⟩
/-- A new loop's record. -/
theorem HRel.newLoop (R : HRel X B ρ w H) {fn fn' : FuncId} {fr : Fr} {tmps : Array Value} {ps : Array Tmp} {ca cb : Code} {d : Nat} {dd : Nat} (hfr : RepFr w ρ H (Nof ρ H X B) (Nqof ρ H X) fr tmps) (hfit : LFit.fit fn ps.toList ca cb tmps.size fn') :
    Evo ρ w H (ρ ++ [some w.heap.size]) (w.alloc (.loop { state := .ready, pending := none, fn := fn', tmps, params := ps, assign := ca, body := cb, defers := d })) (H ++ [.loop .ready none fn fr ps.toList ca cb dd]) ∧
    HRel X B (ρ ++ [some w.heap.size]) (w.alloc (.loop { state := .ready, pending := none, fn := fn', tmps, params := ps, assign := ca, body := cb, defers := d })) (H ++ [.loop .ready none fn fr ps.toList ca cb dd]) := by
  have hw := alloc_is (w := w) (.loop { state := .ready, pending := none, fn := fn', tmps, params := ps, assign := ca, body := cb, defers := d })
  obtain ⟨E0, _⟩ := R.push hw .gone trivial
  have E : Evo ρ w H (ρ ++ [some w.heap.size]) (w.alloc (.loop { state := .ready, pending := none, fn := fn', tmps, params := ps, assign := ca, body := cb, defers := d })) (H ++ [.loop .ready none fn fr ps.toList ca cb dd]) :=
    { os := E0.os, tape := E0.tape, output := E0.output, size := E0.size, same := E0.same, len := by simp
      obj := fun l o h => by
        obtain ⟨o', h1, h2⟩ := E0.obj l o h
        have hl : l < H.length := (List.getElem?_eq_some_iff.1 h).1
        rw [List.getElem?_append_left hl] at h1
        exact ⟨o', by rw [List.getElem?_append_left hl]; exact h1, h2⟩
      fresh := fun b hb hlt => by
        obtain ⟨l, o', h, hl, hr⟩ := hb
        rcases append_case h with ⟨h1, h2⟩ | ⟨rfl, rfl⟩
        · rw [look_append (by rw [R.len]; exact h1)] at hr
          exact ⟨l, o', h2, hl, hr⟩
        · rw [← R.len, look_new] at hr; cases hr; omega }
  exact R.push hw _ ⟨w.heap.size, _, new_look R _, hw.new, rfl, rfl, RepFr.monoS E.sees (E.stay X B) hfr, rfl, rfl, rfl, hfit⟩
end
end Go.Proofs.Ytnbbhbbhgcipjaa.Am

namespace Go.Proofs.Ytnbbhbbhgcipjaa.Am
variable [LFit]
section
variable {P : Program} {X B : Nat → Prop} {ρ : List (Option Nat)} {w : World} {H : AHeap} {cx : Cx} {O : Oracle} {n : Nat} {st : St} {a : Act}

theorem SR.toFr (S : SR X B n (fun _ => False) ρ st a w) : RepFr w ρ st.H (Nof ρ st.H X B) (Nqof ρ st.H X) st.fr a.tmps := fun t => S.fr t fun h => h
theorem SR.of {fr : Fr} {ds : List Dfr} (R : HRel X B ρ w H) (hf : RepFr w ρ H (Nof ρ H X B) (Nqof ρ H X) fr a.tmps) (hn : n ≤ a.tmps.size) (hm : MarksRep X B ρ w H ds a.defers) : SR X B n (fun _ => False) ρ ⟨fr, ds, H⟩ a w := ⟨R, fun t _ => hf t, hn, hm⟩
theorem SR.step {ρ' : List (Option Nat)} {w' : World} {H' : AHeap} (S : SR X B n (fun _ => False) ρ st a w) (E : Evo ρ w st.H ρ' w' H') (R : HRel X B ρ' w' H') : SR X B n (fun _ => False) ρ' { st with H := H' } a w' :=
  ⟨R, fun t ht => RepA.mono E (E.stay X B) _ _ (S.fr t ht), S.size, S.marks.mono E⟩

theorem enterLoop_ok (hF : FitIs cx) {fn fn' : FuncId} {rd ro : Option Nat} {ps : Array Tmp} {ca cb : Code} {l : Nat} {st1 : St} (h : enterLoop fn rd ps.toList ca cb st = some (l, st1)) (hrd : RD ρ st.H rd ro) (S : SR X B n (fun _ => False) ρ st a w)
    (hp : ∀ t ∈ ps.toList, t < n) (ha : codeFit cx fn n ca = true) (hb : codeFit cx fn n cb = true) (hda : codeNd ca = true) (hdb : codeNd cb = true) (hk : known cx.P fn') :
    ∃ bl mark w1 ρ1, (Instr.enterLoop fn' a.tmps ps ca cb ro).run P w = .ok (bl, mark) w1 ∧ Evo ρ w st.H ρ1 w1 st1.H ∧ SR X B n (fun _ => False) ρ1 st1 { a with defers := mark ++ a.defers } w1 ∧ RepFn ρ1 st1.H (.yield l) (.yield bl) ∧
      look ρ1 l = some bl ∧ (∃ s p fr a b d, st1.H[l]? = some (.loop s p fn fr ps.toList a b d)) := by
  have hfit : LFit.fit fn ps.toList ca cb a.tmps.size fn' := (hF _ _ _ _ _ _).2 ⟨hk, n, S.size, hp, ha, hb, hda, hdb⟩
  have hloop : ∀ {ρ1 : List (Option Nat)} {H1 : AHeap} {fr : Fr} {d : Nat} {bl : Nat}, look ρ1 H1.length = some bl → RepFn ρ1 (H1 ++ [.loop .ready none fn fr ps.toList ca cb d]) (.yield H1.length) (.yield bl) := fun h => ⟨by simp, fun _ _ _ _ _ _ _ _ _ => ⟨_, h, rfl⟩⟩
  cases rd with
  | none =>
    have hro : ro = none := hrd
    subst hro
    simp only [enterLoop, Option.some.injEq, Prod.mk.injEq] at h
    obtain ⟨rfl, rfl⟩ := h
    have hw := alloc_is (w := w) (.deferred (some []))
    obtain ⟨E1, R1⟩ := S.rel.push hw (.dfr false) ⟨w.heap.size, new_look S.rel _, hw.new⟩
    obtain ⟨E2, R2⟩ := R1.newLoop (fn := fn) (fn' := fn') (d := w.heap.size) (dd := st.H.length) (ca := ca) (cb := cb) (ps := ps) (RepFr.monoS E1.sees (E1.stay X B) S.toFr) hfit
    have e1 : st.H ++ [AObj.dfr false] ++ [AObj.loop .ready none fn st.fr ps.toList ca cb st.H.length] = st.H ++ [.dfr false, .loop .ready none fn st.fr ps.toList ca cb st.H.length] := by simp
    have hsz : (w.alloc (.deferred (some []))).heap.size = w.heap.size + 1 := hw.size_push
    have hlk : look (ρ ++ [some w.heap.size] ++ [some (w.alloc (.deferred (some []))).heap.size]) (st.H.length + 1) = some (w.heap.size + 1) := by
      have := new_look R1 (some (w.alloc (.deferred (some []))).heap.size)
      rw [hsz] at this
      simpa using this
    have hl2 := hloop (ρ1 := ρ ++ [some w.heap.size] ++ [some (w.alloc (.deferred (some []))).heap.size]) (H1 := st.H ++ [.dfr false]) (fr := st.fr) (d := st.H.length) (bl := w.heap.size + 1) (by simpa using hlk)
    rw [e1] at E2 R2 hl2
    refine ⟨w.heap.size + 1, [{ target := .collected w.heap.size, args := #[] }], _, _, run_enterLoop_outer fn' a.tmps ps ca cb, E1.trans E2, ⟨R2, fun t ht => RepA.mono (E1.trans E2) ((E1.trans E2).stay X B) _ _ (S.fr t ht), S.size, _, _, rfl, ⟨by simp, fun s hs => ?_⟩, S.marks.mono (E1.trans E2)⟩, by simpa using hl2, hlk, .ready, none, st.fr, ca, cb, st.H.length, by simp⟩
    refine ⟨w.heap.size, ?_, rfl⟩
    have h1 := new_look S.rel (some w.heap.size)
    rw [look_append (by rw [List.length_append, S.rel.len]; simp)]
    exact h1
  | some l0 =>
    obtain ⟨bl0, rfl, hl0, hfn⟩ := hrd
    simp only [enterLoop] at h
    split at h
    · rename_i s0 p0 fn0 fr0 ps0 a0 b0 d0 ho
      simp only [Option.some.injEq, Prod.mk.injEq] at h
      obtain ⟨rfl, rfl⟩ := h
      obtain ⟨bl', hbl', e⟩ := hfn _ _ _ _ _ _ _ _ ho
      cases e
      obtain ⟨bl2, L0, h1, h2, _⟩ := S.rel.obj l0 _ ho
      rw [hbl'] at h1; cases h1
      obtain ⟨E1, R1⟩ := S.rel.newLoop (fn := fn) (fn' := fn') (d := L0.defers) (dd := d0) (ca := ca) (cb := cb) (ps := ps) S.toFr hfit
      have hlk := new_look S.rel (some w.heap.size)
      refine ⟨w.heap.size, [], _, _, ?_, E1, S.step E1 R1, hloop hlk, hlk, .ready, none, st.fr, ca, cb, d0, by simp⟩
      unfold Instr.enterLoop
      simp only [Sem.run_bind, run_getLoop h2, run_newObj_alloc, Result.andThen, Sem.run_pure]
    · cases h

/-- The code of an activation. -/
theorem aexec_ok (hP : cx.P = P) (hN : Named P) (hO : OracleOk P O) (hm : P.follows .mixedOrders = true) (hF : FitIs cx) {fn : FuncId} {k : Nat} {rd ro : Option Nat} :
    ∀ (c : Code) (st : St) (ex : Ex) (st' : St) (ρ : List (Option Nat)) (a : Act) (w : World) (Q : Exit → Act → World → Prop), codeFit cx fn n c = true → (ro = none ∨ codeNd c = true) → aexec cx O k fn rd c st = some (ex, st') → RD ρ st.H rd ro → SR X B n (fun _ => False) ρ st a w →
      (∀ ρ' a' w' e, Evo ρ w st.H ρ' w' st'.H → SR X B n (fun _ => False) ρ' st' a' w' → ExR X B ρ' w' st'.H ex e → Q e a' w') → wpV (FW ro) 0 P c Q a w
  | .skip, st, ex, st', ρ, a, w, Q, _, _, h, _, S, hQ => by
    rw [aexec] at h; cases h
    exact wpV_of (wpIn_skip (hQ ρ a w _ (Evo.refl _ _ _) S rfl))
  | .label l, st, ex, st', ρ, a, w, Q, _, _, h, _, S, hQ => by
    rw [aexec] at h; cases h
    exact wpV_of (wpIn_label (hQ ρ a w _ (Evo.refl _ _ _) S rfl))
  | .exit id, st, ex, st', ρ, a, w, Q, _, _, h, _, S, hQ => by
    rw [aexec] at h; cases h
    exact wpV_of (wpIn_exit (hQ ρ a w _ (Evo.refl _ _ _) S rfl))
  | .ret, st, ex, st', ρ, a, w, Q, _, _, h, _, S, hQ => by
    rw [aexec] at h; cases h
    exact wpV_of (wpIn_ret (hQ ρ a w _ (Evo.refl _ _ _) S rfl))
  | .region id ops draw, st, ex, st', ρ, a, w, Q, hf, hnd, h, _, S, hQ => by
    rw [aexec] at h
    obtain ⟨hd, hs⟩ := fit_dst hf
    split at h
    · rename_i st1 hst1
      cases h
      cases draw with
      | true =>
        simp only [if_true] at hst1
        exact wpV_of (adraw_ok hP hN hO hm hd (hs rfl) hst1 S fun ρ' a' w' E S' => hQ ρ' a' w' _ (by cases cx.keep fn id <;> exact E) (S'.cleaned _) rfl)
      | false =>
        simp only [Bool.false_eq_true, if_false] at hst1
        exact wpV_of (wpIn_region (aops_ok hP hN hO hd hnd ops.toList _ st st1 ρ a w (range_idx ops) hst1 S fun ρ' a' w' E S' => hQ ρ' a' w' _ (by cases cx.keep fn id <;> exact E) (S'.cleaned _) rfl))
    · cases draw with
      | true =>
        simp only [if_true, Option.map_eq_some_iff, Prod.mk.injEq] at h
        obtain ⟨⟨d, st1⟩, h1, rfl, rfl⟩ := h
        exact wpV_of (adrawP_ok hP hN hO hm hd (hs rfl) h1 S fun ρ' a' w' v E S' hv => hQ ρ' a' w' _ E S' ⟨v, rfl, hv⟩)
      | false =>
        simp only [Bool.false_eq_true, if_false, Option.map_eq_some_iff, Prod.mk.injEq] at h
        obtain ⟨⟨d, st1⟩, h1, rfl, rfl⟩ := h
        exact wpV_of (wpIn_region (apan_ok hP hN hO hd hnd ops.toList _ st st1 d ρ a w (range_idx ops) h1 S fun ρ' a' w' v E S' hv => hQ ρ' a' w' _ E S' ⟨v, rfl, hv⟩))
  | .seq x y, st, ex, st', ρ, a, w, Q, hf, hnd, h, hrd, S, hQ => by
    rw [codeFit, Bool.and_eq_true] at hf
    rw [codeNd, Bool.and_eq_true] at hnd
    rw [aexec] at h
    refine wpV_seq ?_
    cases hx : aexec cx O k fn rd x st with
    | none => rw [hx] at h; cases h
    | some r =>
      obtain ⟨ex1, st1⟩ := r
      rw [hx] at h
      refine aexec_ok hP hN hO hm hF x st ex1 st1 ρ a w _ hf.1 (hnd.imp id And.left) hx hrd S fun ρ1 a1 w1 e1 E1 S1 hex => ?_
      cases ex1 with
      | nrm =>
        cases hex
        show wpV (FW ro) 0 P y Q a1 w1
        exact aexec_ok hP hN hO hm hF y st1 ex st' ρ1 a1 w1 Q hf.2 (hnd.imp id And.right) h (hrd.mono E1) S1 fun ρ2 a2 w2 e2 E2 S2 hex => hQ ρ2 a2 w2 e2 (E1.trans E2) S2 hex
      | exit id => cases h; cases hex; exact hQ ρ1 a1 w1 _ E1 S1 rfl
      | ret => cases h; cases hex; exact hQ ρ1 a1 w1 _ E1 S1 rfl
      | pan d => cases h; obtain ⟨v, rfl, hv⟩ := hex; exact hQ ρ1 a1 w1 _ E1 S1 ⟨v, rfl, hv⟩
  | .cond c x y, st, ex, st', ρ, a, w, Q, hf, hnd, h, hrd, S, hQ => by
    rw [codeFit, Bool.and_eq_true] at hf
    rw [codeNd, Bool.and_eq_true] at hnd
    rw [aexec] at h
    have hc := S.ev (x := c) fun _ _ h => h
    split at h
    · rename_i t he
      rw [he] at hc
      refine wpV_cond (t := t) hc ?_
      cases t with
      | true => exact aexec_ok hP hN hO hm hF x st ex st' ρ a w Q hf.1 (hnd.imp id And.left) h hrd S hQ
      | false => exact aexec_ok hP hN hO hm hF y st ex st' ρ a w Q hf.2 (hnd.imp id And.right) h hrd S hQ
    · cases h
  | .block id x, st, ex, st', ρ, a, w, Q, hf, hnd, h, hrd, S, hQ => by
    rw [codeFit] at hf
    rw [codeNd] at hnd
    rw [aexec] at h
    refine wpV_block ?_
    cases hx : aexec cx O k fn rd x st with
    | none => rw [hx] at h; cases h
    | some r =>
      obtain ⟨ex1, st1⟩ := r
      rw [hx] at h
      refine aexec_ok hP hN hO hm hF x st ex1 st1 ρ a w _ hf hnd hx hrd S fun ρ1 a1 w1 e1 E1 S1 hex => ?_
      cases ex1 with
      | nrm => cases h; cases hex; exact hQ ρ1 a1 w1 _ E1 S1 rfl
      | ret => cases h; cases hex; exact hQ ρ1 a1 w1 _ E1 S1 rfl
      | pan d => cases h; obtain ⟨v, rfl, hv⟩ := hex; exact hQ ρ1 a1 w1 _ E1 S1 ⟨v, rfl, hv⟩
      | exit i =>
        cases hex
        dsimp only at h
        by_cases e : i = id
        · rw [if_pos e] at h
          cases h
          show Exit.inBlock id Q (.exit i) a1 w1
          simp only [Exit.inBlock, e, if_true]
          exact hQ ρ1 a1 w1 _ E1 S1 rfl
        · rw [if_neg e] at h
          cases h
          show Exit.inBlock id Q (.exit i) a1 w1
          simp only [Exit.inBlock, e, if_false]
          exact hQ ρ1 a1 w1 _ E1 S1 rfl
  | .scope x, st, ex, st', ρ, a, w, Q, hf, hnd, h, hrd, S, hQ => by
    rw [codeFit] at hf
    rw [codeNd] at hnd
    rw [aexec] at h
    exact wpV_scope (aexec_ok hP hN hO hm hF x st ex st' ρ a w _ hf hnd h hrd S fun ρ1 a1 w1 e1 E1 S1 hex => ⟨fun l => by
      cases ex <;> first | (obtain ⟨v, rfl, _⟩ := hex; simp) | (cases hex; simp), hQ ρ1 a1 w1 _ E1 S1 hex⟩)
  | .loop x, st, ex, st', ρ, a, w, Q, hf, hnd, h, hrd, S, hQ => by
    rw [codeFit] at hf
    rw [codeNd] at hnd
    rw [aexec] at h
    refine wpV_loop_by (fun j a' w' => ∃ st1 ρ1, aloop (aexec cx O k fn rd x) j st1 = some (ex, st') ∧ Evo ρ w st.H ρ1 w' st1.H ∧ SR X B n (fun _ => False) ρ1 st1 a' w') ⟨st, ρ, h, Evo.refl _ _ _, S⟩ fun j a' w' ⟨st1, ρ1, hl, E1, S1⟩ => ?_
    cases j with
    | zero => rw [aloop] at hl; cases hl
    | succ j =>
      rw [aloop] at hl
      cases hx : aexec cx O k fn rd x st1 with
      | none => rw [hx] at hl; cases hl
      | some r =>
        obtain ⟨ex2, st2⟩ := r
        rw [hx] at hl
        refine aexec_ok hP hN hO hm hF x st1 ex2 st2 ρ1 a' w' _ hf hnd hx (hrd.mono E1) S1 fun ρ2 a2 w2 e2 E2 S2 hex => ?_
        cases ex2 with
        | nrm => cases hex; exact ⟨j, by omega, st2, ρ2, hl, E1.trans E2, S2⟩
        | exit id => cases hl; cases hex; exact hQ ρ2 a2 w2 _ (E1.trans E2) S2 rfl
        | ret => cases hl; cases hex; exact hQ ρ2 a2 w2 _ (E1.trans E2) S2 rfl
        | pan d => cases hl; obtain ⟨v, rfl, hv⟩ := hex; exact hQ ρ2 a2 w2 _ (E1.trans E2) S2 ⟨v, rfl, hv⟩
  | .rangeFunc g ps ca cb, st, ex, st', ρ, a, w, Q, hf, hnd, h, hrd, S, hQ => by
    rw [codeFit, Bool.and_eq_true, Bool.and_eq_true, Bool.and_eq_true, Bool.and_eq_true] at hf
    obtain ⟨⟨⟨hp, hfa⟩, hfb⟩, hda, hdb⟩ := hf
    rw [aexec] at h
    cases he : enterLoop fn rd ps.toList ca cb st with
    | none => rw [he] at h; cases h
    | some r =>
      obtain ⟨l, st1⟩ := r
      rw [he] at h
      dsimp only at h
      split at h
      · rename_i gf args hcal
        cases hcall : O (.fn gf args) st1.H with
        | none => rw [hcall] at h; cases h
        | some r =>
          obtain ⟨v, H2⟩ := r
          rw [hcall] at h
          dsimp only at h
          refine wpV_rangeFunc (F := FW ro) (n := 0) fun fn' hkn _ => ?_
          obtain ⟨bl, mark, w1, ρ1, hrun, E1, S1, hy, hlk, s1, p1, fr1, a1, b1, d1, hl1⟩ := enterLoop_ok (P := P) (fn' := fn') hF he hrd S (fun t ht => by have := (Array.all_eq_true_iff_forall_mem.1 hp) t (by simpa using ht); simpa using this) hfa hfb hda hdb (hP ▸ hkn)
          have hg : Rp X B ρ1 w1 st1.H (ev st.fr g) (a.eval g) := RepA.mono E1 (E1.stay X B) _ _ (S.ev fun _ _ h => h)
          obtain ⟨cap, xs, hcf, rfl, hcap⟩ := callee_split hcal hg
          have hargs : RepAL w1 ρ1 st1.H (Nof ρ1 st1.H X B) (Nqof ρ1 st1.H X) ([.fn (.yield l) []] ++ xs) (#[Value.func (.yield bl) #[] #[]] ++ cap).toList := by
            rw [Array.toList_append]
            exact repAL_snoc (ds := xs) (cs := [.fn (.yield l) []]) ⟨_, _, rfl, ⟨.yield bl, #[], rfl, hy, rfl⟩, rfl⟩ hcap
          obtain ⟨⟨fng, cg, hfg, hbg⟩, hcalls⟩ := hO _ _ _ _ hcall _ _ _ _ S1.rel _ hargs
          refine ⟨bl, mark, w1, { target := .fn (.func gf) cap, args := #[.func (.yield bl) #[] #[]] }, w1, gf, #[Value.func (.yield bl) #[] #[]] ++ cap, w1, hrun, ?_, fun _ _ => trivial, ?_, fun h => (by cases h), ?_⟩
          · have e0 : resolve a.eval (rangeCall g bl) 0 = pure { target := .fn (.func gf) cap, args := #[] ++ #[.func (.yield bl) #[] #[]] } := by
              show Deferred.ofValue (a.eval g) _ = _
              rw [hcf]; simp [Deferred.ofValue, rangeCall, Act.eval]
            rw [e0]; simp
          · have := callFunc_run (w := w1) hN hfg hbg (#[Value.func (.yield bl) #[] #[]] ++ cap)
            simpa [invoke] using this
          · refine CallsIn.mono (show CallsIn (FW ro) (0 - 1) P gf _ w1 _ from hcalls) fun e w3 hret => ?_
            cases hpv : isPan v with
            | some d =>
              rw [hpv] at h
              cases h
              obtain ⟨cv, ρ2, rfl, E2, R2, hv⟩ := hret.pan hpv
              exact hQ ρ2 _ _ _ (E1.trans E2) (S1.step E2 R2) ⟨cv, rfl, hv⟩
            | none =>
              rw [hpv] at h
              dsimp only at h
              obtain ⟨cv, ρ2, rfl, E2, R2, _⟩ := hret.ret hpv
              split at h
              · rename_i s p fn2 fr2 ps2 a2 b2 d2 hl2
                split at h
                · cases h
                · rename_i hbusy
                  have hlk2 : look ρ2 l = some bl := by
                    obtain ⟨o', ho', e'⟩ := E2.obj l _ hl1
                    rw [hl2] at ho'; cases ho'
                    obtain ⟨_, _, _, e3⟩ := e'
                    exact e3.trans hlk
                  obtain ⟨bl2, L, h1, h2, h3, h4, h5⟩ := R2.obj l _ hl2
                  rw [hlk2] at h1; cases h1
                  have hend := run_endLoop (P := P) h2 (by rw [h3]; exact hbusy)
                  obtain ⟨E3, R3⟩ := R2.putLoop (s' := .exhausted) (p' := p) hl2 hlk2 h2
                  have hLe : ({ L with state := .exhausted, pending := p.map Jmp.code } : Loop) = { L with state := .exhausted } := by rw [← h4]
                  rw [hLe] at E3 R3
                  have S3 := S1.step (E2.trans E3) R3
                  refine ⟨L.pending, _, hend, ?_⟩
                  generalize L.pending = pp at h4 E3 R3 S3
                  subst h4
                  cases p with
                  | none => cases h; exact hQ ρ2 _ _ _ (E1.trans (E2.trans E3)) S3 rfl
                  | some j =>
                    cases j with
                    | ret => cases h; exact wpV_of (wpIn_ret (hQ ρ2 _ _ _ (E1.trans (E2.trans E3)) S3 rfl))
                    | exit id => cases h; exact wpV_of (wpIn_exit (hQ ρ2 _ _ _ (E1.trans (E2.trans E3)) S3 rfl))
              · cases h
      · cases h
  | .goto _, _, _, _, _, _, _, _, _, _, h, _, _, _ => by rw [aexec] at h <;> first | cases h | simp
  | .refuse _, _, _, _, _, _, _, _, _, _, h, _, _, _ => by rw [aexec] at h <;> first | cases h | simp

end
end Go.Proofs.Ytnbbhbbhgcipjaa.Am

namespace Go.Proofs.Ytnbbhbbhgcipjaa.Am
variable [LFit]
section
variable {P : Program} {X B : Nat → Prop} {ρ : List (Option Nat)} {w : World} {H : AHeap} {cx : Cx} {O : Oracle} {n : Nat} {st : St} {a : Act}

def resVal (tmps : Array Value) : ResultVar → Sem Value
  | .tmp t => pure (tmps.getD t undef)
  | .cell a t => do loadVar t (← asAddr (tmps.getD a undef))
theorem run_results {fnc : Func} {tmps : Array Value} {cvs : List Value} (h : (fnc.results.toList.mapM (resVal tmps)).run P w = .ok cvs w) : (results fnc tmps).run P w = .ok (if h : cvs.toArray.size = 1 then cvs.toArray[0] else .tuple cvs.toArray) w := by
  have e : results fnc tmps = (do let vs ← fnc.results.mapM (resVal tmps); pure (if h : vs.size = 1 then vs[0] else .tuple vs)) := by
    unfold results
    congr 1
  rw [e, Array.mapM_eq_mapM_toList]
  simp [h]
theorem aload_ptr (R : HRel X B ρ w H) {t : TypeId} {x v : AV} {cx' : Value} (h : aload P t H x = some v) (hx : Rp X B ρ w H x cx') : ∃ ad, cx' = .pointer (some ad) := by
  unfold aload at h
  split at h
  · obtain ⟨b, o, h1, _⟩ := hx; exact ⟨_, h1⟩
  · simp only [Option.bind_eq_bind, Option.bind_eq_some_iff] at h
    obtain ⟨⟨es, z⟩, hr, _⟩ := h
    obtain ⟨t', ho, hst⟩ := rdr_row hr
    obtain ⟨b, _, h1⟩ := ptr_at ho hst hx
    exact ⟨_, h1⟩
  · cases h
theorem aresult_ok (R : HRel X B ρ w H) {fr : Fr} {tmps : Array Value} (hf : RepFr w ρ H (Nof ρ H X B) (Nqof ρ H X) fr tmps) : ∀ (rs : List ResultVar) (vs : List AV), aresult P fr H rs = some vs →
    ∃ cvs, (rs.mapM (resVal tmps)).run P w = .ok cvs w ∧ RepAL w ρ H (Nof ρ H X B) (Nqof ρ H X) vs cvs
  | [], vs, h => by cases h; exact ⟨[], rfl, rfl⟩
  | .tmp t :: rs, vs, h => by
    rw [aresult, Option.map_eq_some_iff] at h
    obtain ⟨vs', h1, rfl⟩ := h
    obtain ⟨cvs, h2, h3⟩ := aresult_ok R hf rs vs' h1
    refine ⟨tmps.getD t undef :: cvs, ?_, _, _, rfl, hf t, h3⟩
    rw [List.mapM_cons]
    simp [h2, resVal]
  | .cell c t :: rs, vs, h => by
    rw [aresult] at h
    split at h
    · rename_i v hv
      rw [Option.map_eq_some_iff] at h
      obtain ⟨vs', h1, rfl⟩ := h
      obtain ⟨cvs, h2, h3⟩ := aresult_ok R hf rs vs' h1
      obtain ⟨cv, h4, h5⟩ := aload_ok (P := P) R hv (hf c)
      refine ⟨cv :: cvs, ?_, _, _, rfl, h5, h3⟩
      obtain ⟨ad, had⟩ := aload_ptr (P := P) R hv (hf c)
      have h6 : (resVal tmps (.cell c t)).run P w = .ok cv w := by
        rw [had] at h4
        show (do loadVar t (← asAddr (tmps.getD c undef)) : Sem Value).run P w = _
        rw [had]
        exact h4
      rw [List.mapM_cons]
      simp [h6, h2]
    · cases h

/-- What is asked of the functions. -/
def FuncsFit (cx : Cx) : Prop := ∀ (f : FuncId) (fn : Func) (c : Code), cx.fits f = true → cx.P.funcs[f]? = some fn → fn.body = some c → codeFit cx f fn.ntmps c = true
theorem enterFr_get {as : List AV} : ∀ (m t : Nat), Fr.get (enterFr m as) t = if m ≤ t then (as[t - m]?).getD .top else .top := by
  induction as with
  | nil => intro m t; simp [enterFr, Fr.get]
  | cons x as ih =>
    intro m t
    rw [enterFr, get_put, ih]
    by_cases e : t = m
    · subst e; simp
    · by_cases h : m ≤ t
      · rw [if_neg e, if_pos h, if_pos (by omega)]
        have : t - m = (t - (m + 1)) + 1 := by omega
        rw [this, List.getElem?_cons_succ]
      · rw [if_neg e, if_neg h, if_neg (by omega)]
theorem enter_rep {N Nq : Nat → Prop} {as : List AV} {cas : Array Value} {m : Nat} (h : RepAL w ρ H N Nq as cas.toList) : RepFr w ρ H N Nq (enterFr 0 as) (cas ++ Array.replicate (m - cas.size) undef) := by
  intro t
  rw [enterFr_get, if_pos (Nat.zero_le _), Nat.sub_zero]
  have hl : as.length = cas.size := by rw [h.length, Array.length_toList]
  cases ht : as[t]? with
  | none => trivial
  | some v =>
    obtain ⟨u, hu, hr⟩ := h.get ht
    have hlt : t < cas.size := by rw [← hl]; exact (List.getElem?_eq_some_iff.1 ht).1
    rw [Array.getD_eq_getD_getElem?, Array.getElem?_append_left hlt]
    rw [Array.getElem?_toList] at hu
    rw [hu]; exact hr
theorem zip_rep {N Nq : Nat → Prop} : ∀ {ps : List Tmp} {as : List AV} {cas : List Value} {fr : Fr} {tmps : Array Value}, RepAL w ρ H N Nq as cas → RepFr w ρ H N Nq fr tmps → (∀ t ∈ ps, t < tmps.size) →
    RepFr w ρ H N Nq ((ps.zip as).reverse ++ fr) ((ps.zip cas).foldl (fun tmps (x : Tmp × Value) => tmps.setIfInBounds x.1 x.2) tmps)
  | [], _, _, fr, tmps, _, hf, _ => by simpa using hf
  | p :: ps, [], cas, fr, tmps, h, hf, _ => by
    have : cas = [] := h
    subst this
    simpa using hf
  | p :: ps, a :: as, cas, fr, tmps, h, hf, hp => by
    obtain ⟨v, vs, rfl, hv, h⟩ := h
    have hlt := hp p (by simp)
    have hf' : RepFr w ρ H N Nq ((p, a) :: fr) (tmps.setIfInBounds p v) := fun t => by
      rw [get_put]
      have := put_getD (a := ⟨tmps, []⟩) (d := p) (t := t) (v := v) hlt
      simp only [Act.put] at this
      rw [this]
      by_cases e : t = p
      · rw [if_pos e, if_pos e]; exact hv
      · rw [if_neg e, if_neg e]; exact hf t
    have := zip_rep (fr := (p, a) :: fr) (tmps := tmps.setIfInBounds p v) (ps := ps) h hf' (fun t ht => by simpa using hp t (by simp [ht]))
    simpa using this
/-- How it stands with panics when a function is left. -/
def ModeR (X B : Nat → Prop) (ρ : List (Option Nat)) (w : World) (H : AHeap) : Option Imm → FrameMode → Prop
  | none, u => u = .returning
  | some d, u => ∃ v, u = .panicking [{ v, recovered := false }] ∧ RepI w (Nof ρ H X B) (Nqof ρ H X) d v
theorem ModeR.mono {ρ' : List (Option Nat)} {w' : World} {H' : AHeap} (E : Evo ρ w H ρ' w' H') {m : Option Imm} {u : FrameMode} (h : ModeR X B ρ w H m u) : ModeR X B ρ' w' H' m u := by
  cases m with
  | none => exact h
  | some d =>
    obtain ⟨v, e, hv⟩ := h
    exact ⟨v, e, RepA.mono E (E.stay X B) (.im d) v hv⟩
theorem ModeR.run {m : Option Imm} {u : FrameMode} (h : ModeR X B ρ w H m u) : u ≠ .run := by
  cases m with
  | none => have : u = .returning := h; rw [this]; simp
  | some d => obtain ⟨v, rfl, _⟩ := h; simp
/-- The results are read. -/
theorem aret_ok (hP : cx.P = P) {fnc : Func} {fr : Fr} {tmps : Array Value} {v : AV} {H' : AHeap} (h : aret cx fnc fr H = some (v, H')) (R : HRel X B ρ w H) (hf : RepFr w ρ H (Nof ρ H X B) (Nqof ρ H X) fr tmps) :
    H' = H ∧ isPan v = none ∧ ∃ cv, (results fnc tmps).run P w = .ok cv w ∧ Rp X B ρ w H v cv := by
  subst hP
  unfold aret at h
  split at h
  · rename_i x hx
    split at h
    · cases h
    rename_i hp
    cases h
    obtain ⟨cvs, h1, h2⟩ := aresult_ok (P := cx.P) R hf _ _ hx
    refine ⟨rfl, by simpa using hp, _, run_results h1, ?_⟩
    obtain ⟨u, us, rfl, hu, hus⟩ := h2
    have : us = [] := hus
    subst this
    have e : (if h : [u].toArray.size = 1 then [u].toArray[0] else Value.tuple [u].toArray) = u := by simp
    rw [e]; exact hu
  · rename_i vs hne hx
    split at h
    · cases h
    rename_i hp
    cases h
    obtain ⟨cvs, h1, h2⟩ := aresult_ok (P := cx.P) R hf _ _ hx
    refine ⟨rfl, by simpa using hp, _, run_results h1, ?_⟩
    have hlen := h2.length
    have hsz : ¬ cvs.toArray.size = 1 := by
      intro h
      have : vs.length = 1 := by rw [hlen]; simpa using h
      obtain ⟨x, rfl⟩ := List.length_eq_one_iff.1 this
      exact hne x rfl
    rw [dif_neg hsz]
    unfold mkTup
    split
    · rename_i ds hds
      rw [allIm_eq hds] at h2
      exact ⟨_, rfl, RepAL.im.1 h2⟩
    · exact ⟨_, rfl, h2⟩
  · cases h
theorem recOf_some {l : List Oper} {t u : Tmp} (h : recOf l = some (t, u)) : ∃ (o1 o2 : Oper) (ts : Array TypeId), l = [o1, o2] ∧ o1.dst = some t ∧ o1.op = .call ⟨.builtin .recover, #[], ts⟩ ∧ o1.guard = none ∧ o2.dst = some u ∧ o2.op = .assign (.tmp t) ∧ o2.guard = none := by
  unfold recOf at h
  split at h
  · rename_i o1 o2
    split at h
    · rename_i t1 u1 t' e1 e2 e3
      split at h
      · rename_i hc
        cases h
        simp only [Bool.and_eq_true, beq_iff_eq, Option.isNone_iff_eq_none] at hc
        obtain ⟨⟨⟨h1, h2⟩, h3⟩, rfl⟩ := hc
        unfold isRecover at h1
        split at h1
        · rename_i c hc
          obtain ⟨cl, as, ts⟩ := c
          rw [Bool.and_eq_true] at h1
          obtain ⟨h4, h5⟩ := h1
          have h6 : as = #[] := by simpa using h5
          subst h6
          dsimp only at h4
          split at h4
          · exact ⟨o1, o2, ts, rfl, e1, hc, h2, e2, e3, h3⟩
          · cases h4
        · cases h1
      · cases h
    · cases h
  · cases h
/-- A call that was put off. -/
theorem adefer_ok (hP : cx.P = P) (hN : Named P) (hO : OracleOk P O) (hm : P.follows .mixedOrders = true) (hF : FitIs cx) (hfit : FuncsFit cx) {k : Nat} {g : FuncId} {as : List AV} {m : Option Imm} {H' : AHeap} (h : adefer cx O k g as m H = some H') (R : HRel X B ρ w H)
    {cas : Array Value} (ha : RepAL w ρ H (Nof ρ H X B) (Nqof ρ H X) as cas.toList) {u : FrameMode} (hu : ModeR X B ρ w H m u) :
    (∃ fn c, P.funcs[g]? = some fn ∧ fn.body = some c) ∧ CallsDIn Fence.wide 0 P g cas u w fun e u' w' => settle u' = .returning ∧ (∃ v, e = .returned v) ∧ ∃ ρ', Evo ρ w H ρ' w' H' ∧ HRel X B ρ' w' H' := by
  unfold adefer at h
  split at h
  · rename_i fn hfits hfn
    split at h
    · rename_i id ops c hb
      split at h
      · rename_i t' u1 hrc
        · subst hP
          obtain ⟨o1, o2, ts, hops, hd1, hop1, hg1, hd2, hop2, hg2⟩ := recOf_some hrc
          refine ⟨⟨fn, _, hfn, hb⟩, ?_⟩
          have hcf := hfit g fn _ hfits hfn hb
          rw [codeFit, Bool.and_eq_true] at hcf
          obtain ⟨hdst, _⟩ := fit_dst hcf.1
          have hops' : ops = #[o1, o2] := by rw [← Array.toArray_toList (xs := ops), hops]
          have ht' : ∀ d, some t' = some d → d < fn.ntmps := fun d hd => hdst o1 (by rw [hops']; simp) d (hd1.trans hd)
          have hu1 : ∀ d, some u1 = some d → d < fn.ntmps := fun d hd => hdst o2 (by rw [hops']; simp) d (hd2.trans hd)
          have S0 : SR X B fn.ntmps (fun _ => False) ρ ⟨enterFr 0 as, [], H⟩ { tmps := cas ++ Array.replicate (fn.ntmps - cas.size) undef, defers := [] } w :=
            SR.of R (enter_rep ha) (by simp; omega) rfl
          cases hx : aexec cx O k g none c ⟨(u1, .im (m.getD .nili)) :: (t', .im (m.getD .nili)) :: enterFr 0 as, [], H⟩ with
          | none => rw [hx] at h; cases h
          | some r =>
            obtain ⟨ex, st'⟩ := r
            rw [hx] at h
            have hend : ∀ {e : Exit} {cs : List Frame} {c₀ : Frame} {u' : FrameMode}, settle u' = .returning → (ex = .nrm ∧ e = .normal ∨ ex = .ret ∧ e = .ret) → ∀ ρ' a' w', Evo ρ w H ρ' w' st'.H → SR X B fn.ntmps (fun _ => False) ρ' st' a' w' →
                bodyPostS cx.P fn c₀ cs (fun e u' w' => settle u' = .returning ∧ (∃ v, e = .returned v) ∧ ∃ ρ', Evo ρ w H ρ' w' H' ∧ HRel X B ρ' w' H') e a' ({ c₀ with mode := u' } :: cs) w' := by
              intro e cs c₀ u' hs he ρ' a' w' E S
              have hh : st'.ds.isEmpty = true ∧ fn.results.isEmpty = true ∧ H' = st'.H := by
                rcases he with ⟨rfl, _⟩ | ⟨rfl, _⟩ <;>
                · dsimp only at h
                  split at h
                  · rename_i hc
                    rw [Bool.and_eq_true] at hc
                    cases h
                    exact ⟨hc.1, hc.2, rfl⟩
                  · cases h
              obtain ⟨h1, h2, rfl⟩ := hh
              have hds : a'.defers = [] := by
                have := S.marks
                rw [List.isEmpty_iff.1 h1] at this
                exact this
              have hr : fn.results.toList = [] := by
                have := Array.isEmpty_iff.1 h2
                rw [this]
              have hrun : ∃ v, (results fn a'.tmps).run cx.P w' = .ok v w' := ⟨_, run_results (cvs := []) (by rw [hr]; rfl)⟩
              obtain ⟨v, hv⟩ := hrun
              rcases he with ⟨_, rfl⟩ | ⟨_, rfl⟩ <;> exact ⟨hds, u', rfl, v, hv, hs, ⟨v, rfl⟩, ρ', E, S.rel⟩
            refine callsDIn_of_wpV (F := Fence.wide) (n := 0) hfn hb trivial rfl fun c₀ cs hmode => wpSIn_region ?_
            have hstep : ∀ {cs' : List Frame} {v : Value} {u' : FrameMode}, Rp X B ρ w H (.im (m.getD .nili)) v → settle u' = .returning → cs' = { c₀ with mode := u' } :: cs →
                cs'.length = cs.length + 1 ∧ wpV Fence.wide 0 cx.P c (fun e a' w' => bodyPostS cx.P fn c₀ cs (fun e u' w' => settle u' = .returning ∧ (∃ v, e = .returned v) ∧ ∃ ρ', Evo ρ w H ρ' w' H' ∧ HRel X B ρ' w' H') e a' cs' w')
                  ((({ tmps := cas ++ Array.replicate (fn.ntmps - cas.size) undef, defers := [] } : Act).put (some t') v).put (some u1) v) w := by
              intro cs' v u' hv hs hcs
              subst hcs
              refine ⟨rfl, ?_⟩
              have S1 := S0.put (Evo.refl _ _ _) R (dst := some t') ht' hv
              have S2 := S1.put (Evo.refl _ _ _) R (dst := some u1) hu1 hv
              refine aexec_ok rfl hN hO hm hF c _ ex st' ρ _ w _ hcf.2 (.inl rfl) hx (rd := none) (ro := none) rfl S2 fun ρ' a' w' e E S hex => ?_
              cases ex with
              | nrm => cases hex; exact hend hs (.inl ⟨rfl, rfl⟩) ρ' a' w' E S
              | ret => cases hex; exact hend hs (.inr ⟨rfl, rfl⟩) ρ' a' w' E S
              | exit id => cases h
              | pan d => cases h
            have hrange : List.range ops.size = [0, 1] := by rw [hops']; rfl
            rw [hrange]
            have e0 : ops[0]? = some o1 := by rw [hops']; rfl
            have e1 : ops[1]? = some o2 := by rw [hops']; rfl
            have hput : ∀ (a : Act) (v : Value), t' < a.tmps.size → (a.put (some t') v).eval (.tmp t') = v := fun a v hlt => by
              show (a.put (some t') v).tmps.getD t' undef = v
              rw [put_getD hlt, if_pos rfl]
            have hlt : t' < (cas ++ Array.replicate (fn.ntmps - cas.size) undef).size := Nat.lt_of_lt_of_le (ht' t' rfl) S0.size
            have hrec : ∀ {cs' : List Frame} {v : Value}, (cs'.length = cs.length + 1 ∧ wpV Fence.wide 0 cx.P c (fun e a' w' => bodyPostS cx.P fn c₀ cs (fun e u' w' => settle u' = .returning ∧ (∃ v, e = .returned v) ∧ ∃ ρ', Evo ρ w H ρ' w' H' ∧ HRel X B ρ' w' H') e a' cs' w')
                  ((({ tmps := cas ++ Array.replicate (fn.ntmps - cas.size) undef, defers := [] } : Act).put (some t') v).put (some u1) v) w) →
                wpOpsSIn Fence.wide 0 cx.P ops (fun e a cs' w' => e = .normal ∧ cs'.length = cs.length + 1 ∧ wpV Fence.wide 0 cx.P c (fun e a' w' => bodyPostS cx.P fn c₀ cs (fun e u' w' => settle u' = .returning ∧ (∃ v, e = .returned v) ∧ ∃ ρ', Evo ρ w H ρ' w' H' ∧ HRel X B ρ' w' H') e a' cs' w') a w') [1]
                  (({ tmps := cas ++ Array.replicate (fn.ntmps - cas.size) undef, defers := [] } : Act).put (some t') v) cs' w := by
              intro cs' v hgo
              simp only [wpOpsSIn, e1]
              refine ⟨fun _ _ => trivial, ?_⟩
              rw [if_pos (by simp [Region.wanted, hg2])]
              have : (execOp (({ tmps := cas ++ Array.replicate (fn.ntmps - cas.size) undef, defers := [] } : Act).put (some t') v).eval o2).run cx.P w = .ok (.value v) w := by
                have := hput { tmps := cas ++ Array.replicate (fn.ntmps - cas.size) undef, defers := [] } v hlt
                simp [execOp, hop2, this]
              rw [this, hd2]
              exact ⟨trivial, hgo⟩
            rw [wpOpsSIn]
            simp only [e0]
            refine ⟨fun _ _ => trivial, ?_⟩
            rw [if_pos (by simp [Region.wanted, hg1])]
            have : (execOp ({ tmps := cas ++ Array.replicate (fn.ntmps - cas.size) undef, defers := [] } : Act).eval o1).run cx.P w = .ok .recover w := by
              simp [execOp, hop1, resolve, invoke]
              rfl
            rw [this, hd1]
            cases m with
            | none =>
              have hur : u = .returning := hu
              have : recoverD (c₀ :: cs) = none := by simp [recoverD, hmode, hur]
              simp only [this]
              refine hrec (hstep (u' := .returning) rfl rfl ?_)
              rw [← hur, ← hmode]
            | some d =>
              obtain ⟨v, hur, hv⟩ := hu
              have : recoverD (c₀ :: cs) = some (v, { c₀ with mode := .panicking [{ v, recovered := true }] } :: cs) := by simp [recoverD, hmode, hur]
              simp only [this]
              exact hrec (hstep (u' := .panicking [{ v, recovered := true }]) hv rfl rfl)
      · cases h
    · cases h
  · cases h
/-- How a function is left. -/
theorem aleave_ok (hP : cx.P = P) (hN : Named P) (hO : OracleOk P O) (hmo : P.follows .mixedOrders = true) (hF : FitIs cx) (hfit : FuncsFit cx) {k : Nat} {fnc : Func} {fr : Fr} {tmps : Array Value} {v : AV} {H' : AHeap} {ρ0 : List (Option Nat)} {w0 : World} {H0 : AHeap} :
    ∀ (ds : List Dfr) (defs : List Deferred) (m : Option Imm) (u : FrameMode) (H : AHeap) (ρ : List (Option Nat)) (w : World), aleave cx O k fnc fr ds m H = some (v, H') → MarksRep X B ρ w H ds defs → HRel X B ρ w H → RepFr w ρ H (Nof ρ H X B) (Nqof ρ H X) fr tmps →
      ModeR X B ρ w H m u → Evo ρ0 w0 H0 ρ w H → LeavesInM Fence.wide 0 P fnc tmps (RetX X B ρ0 w0 H0 v H') defs u w
  | [], defs, none, u, H, ρ, w, h, hm, R, hf, hu, E => by
    have : defs = [] := hm
    subst this
    have : u = .returning := hu
    subst this
    rw [aleave] at h
    obtain ⟨rfl, hp, cv, h1, h2⟩ := aret_ok hP h R hf
    refine ⟨cv, h1, ?_⟩
    unfold RetX
    rw [hp]
    exact ⟨cv, ρ, rfl, E, R, h2⟩
  | [], defs, some d, u, H, ρ, w, h, hm, R, hf, hu, E => by
    have : defs = [] := hm
    subst this
    obtain ⟨cv, rfl, hv⟩ := hu
    rw [aleave] at h
    simp only [Option.some.injEq, Prod.mk.injEq] at h
    obtain ⟨rfl, rfl⟩ := h
    exact ⟨cv, ρ, rfl, E, R, hv⟩
  | .mark l :: ds, defs, m, u, H, ρ, w, h, hm, R, hf, hu, E => by
    obtain ⟨d, defs', rfl, hmk, hm'⟩ := hm
    rw [aleave] at h
    split at h
    · rename_i ho
      obtain ⟨b, hb, rfl⟩ := hmk.2 _ ho
      obtain ⟨b', h1, h2⟩ := R.obj l _ ho
      rw [hb] at h1; cases h1
      obtain ⟨E1, R1⟩ := R.putDfr ho hb
      refine ⟨hu.run, .inl ⟨b, _, rfl, run_takeDeferred (by simpa using h2), ?_⟩⟩
      exact aleave_ok hP hN hO hmo hF hfit ds defs' m u _ ρ _ h (hm'.mono E1) R1 (RepFr.monoS E1.sees (E1.stay X B) hf) (hu.mono E1) (E.trans E1)
    · cases h
  | .fn g as :: ds, defs, m, u, H, ρ, w, h, hm, R, hf, hu, E => by
    obtain ⟨d, defs', rfl, ⟨cap, cas, rfl, hargs⟩, hm'⟩ := hm
    rw [aleave] at h
    split at h
    · rename_i H1 hd
      obtain ⟨⟨fng, cg, hfg, hbg⟩, hc⟩ := adefer_ok hP hN hO hmo hF hfit hd R hargs hu
      refine ⟨hu.run, .inr ⟨fun h => (by cases h), _, _, g, cas ++ cap, rfl, ?_, fun _ _ => trivial, CallsDIn.mono hc ?_⟩⟩
      · have := callFunc_run (w := w) hN hfg hbg (cas ++ cap)
        simpa [invoke] using this
      · rintro e u' w' ⟨hs, ⟨v', rfl⟩, ρ', E1, R1⟩
        show LeavesInM Fence.wide 0 P fnc tmps (RetX X B ρ0 w0 H0 v H') defs' (settle u') w'
        rw [hs]
        exact aleave_ok hP hN hO hmo hF hfit ds defs' none .returning _ ρ' w' h (hm'.mono E1) R1 (RepFr.monoS E1.sees (E1.stay X B) hf) rfl (E.trans E1)
    · cases h
theorem afinish_ok (hP : cx.P = P) (hN : Named P) (hO : OracleOk P O) (hmo : P.follows .mixedOrders = true) (hF : FitIs cx) (hfit : FuncsFit cx) {k : Nat} {fnc : Func} {ex : Ex} {e : Exit} {st' : St} {v : AV} {H' : AHeap} {ρ1 : List (Option Nat)} {w1 : World} {a1 : Act} (h : afinish cx O k fnc (some (ex, st')) = some (v, H'))
    (E : Evo ρ w H ρ1 w1 st'.H) (S : SR X B n (fun _ => False) ρ1 st' a1 w1) (hex : ExR X B ρ1 w1 st'.H ex e) : bodyPostM Fence.wide 0 P fnc (RetX X B ρ w H v H') e a1 w1 := by
  cases ex with
  | nrm => cases hex; exact aleave_ok hP hN hO hmo hF hfit st'.ds a1.defers none .returning _ ρ1 w1 h S.marks S.rel S.toFr rfl E
  | ret => cases hex; exact aleave_ok hP hN hO hmo hF hfit st'.ds a1.defers none .returning _ ρ1 w1 h S.marks S.rel S.toFr rfl E
  | exit id => cases h
  | pan d =>
    obtain ⟨cv, rfl, hv⟩ := hex
    exact aleave_ok hP hN hO hmo hF hfit st'.ds a1.defers (some d) _ _ ρ1 w1 h S.marks S.rel S.toFr ⟨cv, rfl, hv⟩ E

theorem setEnd_some {H' : AHeap} {l : Nat} {s : LoopState} {p : Option Jmp} (h : setEnd H l s p = some H') : ∃ s0 p0 fn fr ps a b d, H[l]? = some (.loop s0 p0 fn fr ps a b d) ∧ H' = H.set l (.loop s p fn fr ps a b d) := by
  unfold setEnd at h
  split at h
  · rename_i ho; cases h; exact ⟨_, _, _, _, _, _, _, _, ho, rfl⟩
  · cases h
/-- All calls of the abstract machine answer for the model's. -/
theorem acallF_ok (hP : cx.P = P) (hN : Named P) (hm : P.follows .mixedOrders = true) (hF : FitIs cx) (hfit : FuncsFit cx) : ∀ k, OracleOk P (acallF cx k) := by
  intro k
  induction k with
  | zero => intro r H v H' h; rw [acallF] at h; cases h
  | succ k ih =>
    intro r H v H' h X B ρ w R
    cases r with
    | fn f as =>
      intro cas hcas
      rw [acallF] at h
      cases hfits : cx.fits f with
      | false => rw [hfits] at h; cases h
      | true =>
      rw [if_pos hfits] at h
      cases hf : cx.P.funcs[f]? with
      | none => rw [hf] at h; cases h
      | some fnc =>
        rw [hf] at h
        dsimp only at h
        cases hb : fnc.body with
        | none => rw [hb] at h; cases h
        | some c =>
          rw [hb] at h
          dsimp only at h
          subst hP
          refine ⟨⟨fnc, c, hf, hb⟩, ?_⟩
          cases hx : aexec cx (acallF cx k) k f none c ⟨enterFr 0 as, [], H⟩ with
          | none => rw [hx] at h; cases h
          | some r =>
            obtain ⟨ex, st'⟩ := r
            rw [hx] at h
            refine callsIn_of_wpV (F := Fence.wide) (n := 0) hf hb trivial ?_ rfl
            have S0 : SR X B fnc.ntmps (fun _ => False) ρ ⟨enterFr 0 as, [], H⟩ { tmps := cas ++ Array.replicate (fnc.ntmps - cas.size) undef, defers := [] } w :=
              SR.of R (enter_rep hcas) (by simp; omega) rfl
            exact aexec_ok rfl hN ih hm hF c _ ex st' ρ _ w _ (hfit f fnc c hfits hf hb) (.inl rfl) hx (rd := none) (ro := none) rfl S0 fun ρ1 a1 w1 e E S hex => afinish_ok rfl hN ih hm hF hfit h E S hex
    | round l as =>
      rw [acallF] at h
      split at h
      · rename_i p fn fr ps ca cb d ho
        split at h
        · rename_i hlen
          refine ⟨⟨_, _, _, _, _, _, _, _, ho⟩, fun bl cas hbl hcas => ?_⟩
          obtain ⟨bl', L, h1, h2, h3, h4, h5, h6, h7, h8, h9⟩ := R.obj l _ ho
          rw [hbl] at h1; cases h1
          have hpl : L.params.size = ps.length := by rw [← h6, Array.length_toList]
          have hcl : cas.size = as.length := by have := hcas.length; rw [Array.length_toList] at this; exact this.symm
          refine ⟨L, h2, by rw [hpl, hcl, hlen], ?_⟩
          obtain ⟨hkn, n, hn, hpn, hfa, hfb, hda, hdb⟩ := (hF _ _ _ _ _ _).1 h9
          subst hP
          cases hx : aexec cx (acallF cx k) k fn (some l) ca ⟨(ps.zip as).reverse ++ fr, [], H⟩ with
          | none => rw [hx] at h; cases h
          | some r =>
            obtain ⟨ex, st1⟩ := r
            rw [hx] at h
            cases ex with
            | exit id => cases h
            | ret => cases h
            | pan d => cases h
            | nrm =>
              dsimp only at h
              split at h
              · rename_i p1 fn1 fr1 ps1 ca1 cb1 d1 ho1
                have hrd : RD ρ H (some l) (some bl) := ⟨bl, rfl, (List.getElem?_eq_some_iff.1 ho).1, fun _ _ _ _ _ _ _ _ _ => ⟨bl, hbl, rfl⟩⟩
                have hzip : ((L.params.zip cas).foldl (fun tmps (x : Tmp × Value) => tmps.setIfInBounds x.1 x.2) L.tmps) = ((ps.zip cas.toList).foldl (fun tmps (x : Tmp × Value) => tmps.setIfInBounds x.1 x.2) L.tmps) := by
                  rw [← Array.foldl_toList, Array.toList_zip, h6]
                have hsz : ∀ (xs : List (Tmp × Value)) (tmps : Array Value), (xs.foldl (fun tmps (x : Tmp × Value) => tmps.setIfInBounds x.1 x.2) tmps).size = tmps.size := by
                  intro xs
                  induction xs with
                  | nil => intro tmps; rfl
                  | cons x xs ihx => intro tmps; rw [List.foldl_cons, ihx]; simp
                have S0 : SR X B n (fun _ => False) ρ ⟨(ps.zip as).reverse ++ fr, [], H⟩ ⟨((ps.zip cas.toList).foldl (fun tmps (x : Tmp × Value) => tmps.setIfInBounds x.1 x.2) L.tmps), []⟩ w :=
                  SR.of R (zip_rep hcas h5 fun t ht => Nat.lt_of_lt_of_le (hpn t ht) hn) (by rw [hsz]; exact hn) rfl
                refine roundIn_of_wpV (F := Fence.wide) (n := 0) hkn trivial ?_
                show wpV (FW (some bl)) 0 cx.P L.assign _ ⟨(L.params.zip cas).foldl (fun tmps (x : Tmp × Value) => tmps.setIfInBounds x.1 x.2) L.tmps, []⟩ w
                rw [hzip, h7]
                refine aexec_ok rfl hN ih hm hF ca _ .nrm st1 ρ _ w _ hfa (.inr hda) hx hrd S0 fun ρ1 a1 w1 e1 E1 S1 hex => ?_
                cases hex
                have hlk1 : look ρ1 l = some bl := by
                  obtain ⟨o', ho', e'⟩ := E1.obj l _ ho
                  rw [ho1] at ho'; cases ho'
                  obtain ⟨_, _, _, e3⟩ := e'
                  exact e3.trans hbl
                have hsame : fn1 = fn ∧ ps1 = ps ∧ ca1 = ca ∧ cb1 = cb := by
                  obtain ⟨o', ho', e'⟩ := E1.obj l _ ho
                  rw [ho1] at ho'; cases ho'
                  obtain ⟨_, _, e2, _⟩ := e'
                  cases e2
                  exact ⟨rfl, rfl, rfl, rfl⟩
                obtain ⟨bl1, L1, g1, g2, g3, g4, g5⟩ := S1.rel.obj l _ ho1
                rw [hlk1] at g1; cases g1
                obtain ⟨E2, R2⟩ := S1.rel.putLoop (s' := .busy) (p' := p1) ho1 hlk1 g2
                have hLe : ({ L1 with state := .busy, pending := p1.map Jmp.code } : Loop) = { L1 with state := .busy } := by rw [← g4]
                rw [hLe] at E2 R2
                refine ⟨_, run_beginRound g2 g3, ?_⟩
                cases hy : aexec cx (acallF cx k) k fn (some l) cb { st1 with H := st1.H.set l (.loop .busy p1 fn1 fr1 ps1 ca1 cb1 d1) } with
                | none => rw [hy] at h; cases h
                | some r2 =>
                  obtain ⟨ex2, st2⟩ := r2
                  rw [hy] at h
                  rw [h8]
                  have E12 := E1.trans E2
                  refine aexec_ok rfl hN ih hm hF cb _ ex2 st2 ρ1 a1 _ _ hfb (.inr hdb) hy (hrd.mono E12) (S1.step E2 R2) fun ρ3 a3 w3 e3 E3 S3 hex => ?_
                  have hfin : ∀ (j : Option Jmp), setEnd st2.H l (if j.isNone then .ready else .done) j = some H' → v = .im (.b j.isNone) →
                      ∃ u w', (Instr.endRound bl (j.map Jmp.code)).run cx.P w3 = .ok u w' ∧ RetX X B ρ w H v H' (.returned u) w' := by
                    intro j hj hv
                    obtain ⟨s0, p0, fn0, fr0, ps0, a0, b0, d0, q1, rfl⟩ := setEnd_some hj
                    have hlk3 : look ρ3 l = some bl := by
                      obtain ⟨o', ho', e'⟩ := (E12.trans E3).obj l _ ho
                      rw [q1] at ho'; cases ho'
                      obtain ⟨_, _, _, e3⟩ := e'
                      exact e3.trans hbl
                    obtain ⟨bl3, L3, k1, k2, _⟩ := S3.rel.obj l _ q1
                    rw [hlk3] at k1; cases k1
                    obtain ⟨E4, R4⟩ := S3.rel.putLoop (s' := if j.isNone then .ready else .done) (p' := j) q1 hlk3 k2
                    have hend := run_endRound (P := cx.P) (j.map Jmp.code) k2
                    have hjn : (j.map Jmp.code).isNone = j.isNone := by cases j <;> rfl
                    rw [hjn] at hend
                    subst hv
                    exact ⟨_, _, hend, _, ρ3, rfl, (E12.trans E3).trans E4, R4, rfl⟩
                  cases ex2 with
                  | pan d =>
                    obtain ⟨cv, rfl, hv⟩ := hex
                    simp only [endRoundA] at h
                    split at h
                    · rename_i hds
                      cases h
                      refine ⟨?_, cv, ρ3, rfl, E12.trans E3, S3.rel, hv⟩
                      have := S3.marks
                      rw [List.isEmpty_iff.1 hds] at this
                      exact this
                    · cases h
                  | nrm =>
                    cases hex
                    simp only [endRoundA, Option.map_eq_some_iff, Prod.mk.injEq] at h
                    obtain ⟨H1, q1, q2, rfl⟩ := h
                    exact hfin none q1 q2.symm
                  | ret =>
                    cases hex
                    simp only [endRoundA, Option.map_eq_some_iff, Prod.mk.injEq] at h
                    obtain ⟨H1, q1, q2, rfl⟩ := h
                    exact hfin (some .ret) q1 q2.symm
                  | exit id =>
                    cases hex
                    simp only [endRoundA, Option.map_eq_some_iff, Prod.mk.injEq] at h
                    obtain ⟨H1, q1, q2, rfl⟩ := h
                    exact hfin (some (.exit id)) q1 q2.symm
              · cases h
        · cases h
      · cases h
end
end Go.Proofs.Ytnbbhbbhgcipjaa.Am

namespace Go.Proofs.Ytnbbhbbhgcipjaa.Am
@[reducible] def lfit (cx : Cx) : LFit := ⟨fun fn ps a b sz f => known cx.P f ∧ ∃ n, n ≤ sz ∧ (∀ t ∈ ps, t < n) ∧ codeFit cx fn n a = true ∧ codeFit cx fn n b = true ∧ codeNd a = true ∧ codeNd b = true⟩
def fnFit (cx : Cx) (f : FuncId) (fn : Func) : Bool := match fn.body with | some c => codeFit cx f fn.ntmps c | none => true
def named (P : Program) : Bool := P.funcs.all fun fn => !(fn.name == "runtime.NumGoroutine")
def progFit (cx : Cx) : Bool := named cx.P && cx.P.funcs.toList.zipIdx.all fun (fn, f) => !(cx.fits f) || fnFit cx f fn
theorem progFit_ok {cx : Cx} (h : progFit cx = true) : Named cx.P ∧ FuncsFit cx := by
  unfold progFit at h
  rw [Bool.and_eq_true, List.all_eq_true] at h
  obtain ⟨h0, h⟩ := h
  refine ⟨fun f fn hf => ?_, fun f fn c hs hf hb => ?_⟩
  · unfold named at h0
    rw [Array.all_eq_true_iff_forall_mem] at h0
    simpa using h0 fn (Array.mem_of_getElem? hf)
  · have := h (fn, f) (List.mem_zipIdx_iff_getElem?.2 (by simpa using hf))
    simp only [hs, Bool.not_true, Bool.false_or] at this
    unfold fnFit at this
    rw [hb] at this
    exact this
/-- Nothing that was there before is touched, and the value is the one that is said. -/
def Says (d : Imm) (w : World) (e : Ending) (w' : World) : Prop :=
  ∃ cv, e = .returned cv ∧ RepI w' (fun _ => False) (fun _ => False) d cv ∧ (∀ b, b < w.heap.size → w'.heap[b]? = w.heap[b]?) ∧ w.heap.size ≤ w'.heap.size ∧ w'.os = w.os ∧ w'.tape = w.tape ∧ w'.output = w.output
theorem calls_of_am {cx : Cx} (hm : cx.P.follows .mixedOrders = true) (hfit : progFit cx = true) {k : Nat} {f : FuncId} {args : List Imm} {d : Imm} {H' : AHeap} (h : acallF cx k (.fn f (args.map .im)) [] = some (.im d, H')) {cas : Array Value} {w : World}
    (ha : RepL w (fun _ => False) (fun _ => False) args cas.toList) : Calls cx.P f cas w (Says d w) := by
  letI := lfit cx
  obtain ⟨hN, hF⟩ := progFit_ok hfit
  have hL : FitIs cx := fun _ _ _ _ _ _ => Iff.rfl
  have R : HRel (fun _ => False) (fun _ => False) [] w [] := HRel.iso (fun _ h => h.elim) (fun _ h => h.elim)
  have hsub : ∀ b, ¬ (Nof [] [] (fun _ => False) (fun _ => False) b) := fun b h => by
    rcases h with h | h | h
    · exact h.nil
    · exact h
    · exact h
  have hsubq : ∀ b, ¬ (Nqof [] [] (fun _ => False) b) := fun b h => by
    rcases h with h | h
    · exact h.nil
    · exact h
  have ha' : RepAL w [] [] (Nof [] [] (fun _ => False) (fun _ => False)) (Nqof [] [] (fun _ => False)) (args.map .im) cas.toList :=
    RepAL.im.2 (RepL.mono ⟨Nat.le_refl _, fun _ _ _ => rfl, fun b _ h => (hsub b h).elim, fun b _ h => (hsubq b h).elim, fun b h => h⟩ _ _ ha)
  obtain ⟨_, hc⟩ := acallF_ok rfl hN hm hL hF k _ _ _ _ h _ _ _ _ R cas ha'
  refine callsIn_wide.1 (hc.mono fun e w' hr => ?_)
  obtain ⟨cv, ρ', rfl, E, R', hv⟩ := hr.ret rfl
  refine ⟨cv, rfl, RepI.mono ⟨Nat.le_refl _, fun _ _ _ => rfl, fun _ _ h => h.elim, fun _ _ h => h.elim, fun b h => ?_⟩ _ _ hv, fun b hb => E.old hb, E.size, E.os, E.tape, E.output⟩
  exact h.imp id .inl
end Go.Proofs.Ytnbbhbbhgcipjaa.Am

namespace Go.Proofs.Ytnbbhbbhgcipjaa.Am
/-- A value first, then what is to hold of it. -/
def ob {α : Type} (x : Option α) (f : α → Prop) : Prop := ∃ a, x = some a ∧ f a
theorem ob_some {α : Type} (a : α) (f : α → Prop) : ob (some a) f = f a := by simp [ob]
theorem ob_none {α : Type} (f : α → Prop) : ob none f = False := by simp [ob]
@[congr] theorem ob_congr {α : Type} {x y : Option α} (f : α → Prop) (h : x = y) : ob x f = ob y f := by rw [h]
def eb {α : Type} (x : α) (f : α → Prop) : Prop := f x
theorem eb_eq {α : Type} (x : α) (f : α → Prop) : eb x f = f x := rfl
@[congr] theorem eb_congr {α : Type} {x y : α} (f : α → Prop) (h : x = y) : eb x f = eb y f := by rw [h]
def sel (b : Bool) (p q : Prop) : Prop := if b then p else q
theorem sel_true (p q : Prop) : sel true p q = p := rfl
theorem sel_false (p q : Prop) : sel false p q = q := rfl
theorem sel_not (b : Bool) (p q : Prop) : sel (!b) p q = sel b q p := by cases b <;> rfl
@[congr] theorem sel_congr {b b' : Bool} (p q : Prop) (h : b = b') : sel b p q = sel b' p q := by rw [h]
theorem sel_dec {a : Prop} [Decidable a] {p q : Prop} (h : a → p) (h' : ¬a → q) : sel (decide a) p q := by
  by_cases x : a <;> simp [sel, x] <;> first | exact h x | exact h' x
theorem sel_bool {b : Bool} {p q : Prop} (h : b = true → p) (h' : b = false → q) : sel b p q := by
  cases b <;> simp [sel] <;> first | exact h rfl | exact h' rfl
def selO (y : Option Bool) (want : Bool) (p q : Prop) : Prop := match y with | some b => if b = want then p else q | none => q
theorem selO_none (w : Bool) (p q : Prop) : selO none w p q = q := rfl
theorem selO_t (b : Bool) (p q : Prop) : selO (some b) true p q = sel b p q := by cases b <;> rfl
theorem selO_f (b : Bool) (p q : Prop) : selO (some b) false p q = sel b q p := by cases b <;> rfl
@[congr] theorem selO_congr {b b' : Option Bool} (w : Bool) (p q : Prop) (h : b = b') : selO b w p q = selO b' w p q := by rw [h]
section
variable (cx : Cx)
/-- A call, whether it panics or not. -/
def acallX (O : Oracle) (r : Req) (H : AHeap) : Option (AV × AHeap) :=
  match acall cx O r H with
  | some x => some x
  | none => (acallP cx O r H).map fun x => (panV x.1, x.2)
def WC (r : Req) (H : AHeap) (Q : AV → AHeap → Prop) : Prop :=
  ∃ v H', (∃ k0, ∀ k, k0 ≤ k → acallX cx (acallF cx k) r H = some (v, H')) ∧ Q v H'
/-- A function's run, in a heap. -/
def FN (f : FuncId) (args : List AV) (H : AHeap) (Q : AV → AHeap → Prop) : Prop :=
  ∃ v H', (∃ k0, ∀ k, k0 ≤ k → acallF cx k (.fn f args) H = some (v, H')) ∧ Q v H'
/-- A function on immutable data that returns such. -/
def PF (f : FuncId) (ds : List Imm) (R : Imm → Prop) : Prop := FN cx f (ds.map .im) [] fun v _ => ∃ d, v = .im d ∧ R d
/-- What is to hold behind a region: n: it goes on; p: it panics. -/
structure RQ where
  n : St → Prop
  p : Imm → St → Prop
def kcall (o : Oper) (st : St) (Q : RQ) (v : AV) (H : AHeap) : Prop :=
  match isPan v with
  | none => Q.n ⟨putT st.fr o.dst v, st.ds, H⟩
  | some d => Q.p d ⟨st.fr, st.ds, H⟩
def isDfr : Op → Bool | .defer _ => true | _ => false
def WOp (fn : FuncId) (o : Oper) (st : St) (Q : RQ) : Prop :=
  ob (aop cx fn o st.fr st.H) fun r => match r with
    | .val v H => Q.n ⟨putT st.fr o.dst v, st.ds, H⟩
    | .skip H => Q.n ⟨putT st.fr o.dst (.im .und), st.ds, H⟩
    | .call r => WC cx r st.H (kcall o st Q)
    | .pan d => Q.p d st
    | .dfr _ _ => False
def WDf (fn : FuncId) (o : Oper) (st : St) (K : St → Prop) : Prop :=
  ob (aop cx fn o st.fr st.H) fun r => match r with
    | .dfr g as => K (putOff o g as st)
    | _ => False
def W1 (fn : FuncId) (o : Oper) (st : St) (Q : RQ) : Prop := if isDfr o.op then WDf cx fn o st Q.n else WOp cx fn o st Q
def WO (fn : FuncId) (all : List Oper) : List Oper → St → RQ → Prop
  | [], st, Q => Q.n st
  | o :: rest, st, Q =>
    match o.guard with
    | none => W1 cx fn o st ⟨fun st' => WO fn all rest st' Q, Q.p⟩
    | some (j, want) => ob (yieldedA all st.fr j) fun y => selO y want (W1 cx fn o st ⟨fun st' => WO fn all rest st' Q, Q.p⟩) (WO fn all rest (unwanted o st) Q)
def WD (fn : FuncId) (ops : Array Oper) : List Nat → List (Nat × List Nat) → St → RQ → Prop
  | [], _, st, Q => Q.n st
  | i :: rest, E, st, Q =>
    ob ops[i]? fun o => ob (wantedA ops.toList o st.fr) fun y => sel y
      (sel (mob cx fn o) (bad cx fn o st = false ∧ WOp cx fn o st ⟨fun st' => WD fn ops rest ((i, rdA o st.fr st.H) :: E) st' Q, fun d st' => false = true ∧ Q.p d st'⟩)
        (clear cx fn ops o st E = true ∧ WOp cx fn o st ⟨fun st' => WD fn ops rest E st' Q, fun d st' => (rest.isEmpty && lastOk ops i o) = true ∧ Q.p d st'⟩))
      (WD fn ops rest E (unwanted o st) Q)
def kseq (w : St → (Ex → St → Prop) → Prop) (Q : Ex → St → Prop) (e : Ex) (st : St) : Prop := match e with | .nrm => w st Q | e => Q e st
def kblock (id : Nat) (Q : Ex → St → Prop) (e : Ex) (st : St) : Prop := match e with | .exit i => if i = id then Q .nrm st else Q (.exit i) st | e => Q e st
def kreg (keep : Option (List Nat)) (Q : Ex → St → Prop) : RQ := ⟨fun st => Q .nrm (clean keep st), fun d st => Q (.pan d) st⟩
/-- A loop. -/
def WL (fn : FuncId) (rd : Option Nat) (a : Code) (st : St) (Q : Ex → St → Prop) : Prop :=
  ∃ e st', (∃ k0, ∀ k n, k0 ≤ k → k0 ≤ n → aloop (aexec cx (acallF cx k) k fn rd a) n st = some (e, st')) ∧ Q e st'
def WR (fn : FuncId) (rd : Option Nat) (f : Operand) (ps : Array Tmp) (a b : Code) (st : St) (Q : Ex → St → Prop) : Prop :=
  ∃ e st', (∃ k0, ∀ k, k0 ≤ k → aexec cx (acallF cx k) k fn rd (.rangeFunc f ps a b) st = some (e, st')) ∧ Q e st'
def W (fn : FuncId) (rd : Option Nat) : Code → St → (Ex → St → Prop) → Prop
  | .skip, st, Q => Q .nrm st
  | .label _, st, Q => Q .nrm st
  | .region id ops false, st, Q => WO cx fn ops.toList ops.toList st (kreg (cx.keep fn id) Q)
  | .region id ops true, st, Q => WD cx fn ops (cx.sched fn id) [] st (kreg (cx.keep fn id) Q)
  | .seq a b, st, Q => W fn rd a st (kseq (fun st Q => W fn rd b st Q) Q)
  | .cond c a b, st, Q => ob (abool (ev st.fr c)) fun t => sel t (W fn rd a st Q) (W fn rd b st Q)
  | .block id a, st, Q => W fn rd a st (kblock id Q)
  | .scope a, st, Q => W fn rd a st Q
  | .loop a, st, Q => WL cx fn rd a st Q
  | .rangeFunc f ps a b, st, Q => WR cx fn rd f ps a b st Q
  | .exit id, st, Q => Q (.exit id) st
  | .ret, st, Q => Q .ret st
  | _, _, _ => False
variable {cx}
@[congr] theorem WO_congr {fn : FuncId} {all rest : List Oper} {st st' : St} (Q : RQ) (h : st = st') : WO cx fn all rest st Q = WO cx fn all rest st' Q := by rw [h]
@[congr] theorem WD_congr {fn : FuncId} {ops : Array Oper} {l : List Nat} {E : List (Nat × List Nat)} {st st' : St} (Q : RQ) (h : st = st') : WD cx fn ops l E st Q = WD cx fn ops l E st' Q := by rw [h]
@[congr] theorem WC_congr {r r' : Req} {H H' : AHeap} (Q : AV → AHeap → Prop) (h : r = r') (h' : H = H') : WC cx r H Q = WC cx r' H' Q := by rw [h, h']
@[congr] theorem W_congr {fn : FuncId} {rd : Option Nat} {c : Code} {st st' : St} (Q : Ex → St → Prop) (h : st = st') : W cx fn rd c st Q = W cx fn rd c st' Q := by rw [h]
@[congr] theorem WL_congr {fn : FuncId} {rd : Option Nat} {c : Code} {st st' : St} (Q : Ex → St → Prop) (h : st = st') : WL cx fn rd c st Q = WL cx fn rd c st' Q := by rw [h]
@[congr] theorem WR_congr {fn : FuncId} {rd : Option Nat} {f : Operand} {ps : Array Tmp} {a b : Code} {st st' : St} (Q : Ex → St → Prop) (h : st = st') : WR cx fn rd f ps a b st Q = WR cx fn rd f ps a b st' Q := by rw [h]
@[congr] theorem kseq_congr {w : St → (Ex → St → Prop) → Prop} {Q : Ex → St → Prop} {e : Ex} {st st' : St} (h : st = st') : kseq w Q e st = kseq w Q e st' := by rw [h]
@[congr] theorem kblock_congr {id : Nat} {Q : Ex → St → Prop} {e : Ex} {st st' : St} (h : st = st') : kblock id Q e st = kblock id Q e st' := by rw [h]
theorem FN.mono {f : FuncId} {args : List AV} {H : AHeap} {Q R : AV → AHeap → Prop} (h : FN cx f args H Q) (hR : ∀ v H', Q v H' → R v H') : FN cx f args H R := by
  obtain ⟨e, s, h, q⟩ := h; exact ⟨e, s, h, hR e s q⟩
theorem PF.mono {f : FuncId} {ds : List Imm} {Q R : Imm → Prop} (h : PF cx f ds Q) (hR : ∀ d, Q d → R d) : PF cx f ds R :=
  FN.mono h fun _ _ ⟨d, e, q⟩ => ⟨d, e, hR d q⟩
theorem WC.mono {r : Req} {H : AHeap} {Q R : AV → AHeap → Prop} (h : WC cx r H Q) (hR : ∀ v H', Q v H' → R v H') : WC cx r H R := by
  obtain ⟨e, s, h, q⟩ := h; exact ⟨e, s, h, hR e s q⟩
/-! ### That it is sound -/
theorem acallX_of {O : Oracle} {r : Req} {H : AHeap} {x : AV × AHeap} (h : acall cx O r H = some x) : acallX cx O r H = some x := by unfold acallX; rw [h]
theorem packVal_np {G : AHeap} {l n : Nat} {v v' : AV} (h : packVal G l n v = some v') : isPan v' = none ∧ v' ≠ .top := by
  unfold packVal at h
  split at h
  · split at h
    · split at h
      · cases h; exact ⟨rfl, by simp⟩
      · cases h
    · rw [Option.map_eq_some_iff] at h
      obtain ⟨d, _, rfl⟩ := h
      exact ⟨rfl, by simp⟩
  · rw [Option.map_eq_some_iff] at h
    obtain ⟨d, _, rfl⟩ := h
    exact ⟨rfl, by simp⟩
theorem isPanV {v : AV} {d : Imm} (h : isPan v = some d) : v = panV d := by
  unfold isPan at h
  split at h
  · cases h; rfl
  · cases h
theorem pack_np2 {own : Bool} {n : Nat} {G : AHeap} {v v' : AV} {os : List AObj} (h : pack own n G v = some (v', os)) : isPan v' = none := by
  unfold pack at h
  split at h
  · rw [Option.map_eq_some_iff] at h
    obtain ⟨d, _, h⟩ := h
    cases h; rfl
  · split at h
    · split at h
      · rw [Option.map_eq_some_iff] at h
        obtain ⟨vs, h1, h⟩ := h
        cases h
        cases vs with
        | nil => rfl
        | cons x xs =>
          have hx : x ≠ .top := by
            rename_i vs0 _ _
            cases vs0 with
            | nil => cases h1
            | cons y ys =>
              rw [List.mapM_cons] at h1
              cases hy : packVal (G.set _ .gone) _ n y with
              | none => rw [hy] at h1; cases h1
              | some z =>
                rw [hy] at h1
                simp only [Option.bind_eq_bind, Option.bind_some] at h1
                cases hys : List.mapM (packVal (G.set _ .gone) _ n) ys with
                | none => rw [hys] at h1; cases h1
                | some zs =>
                  rw [hys] at h1
                  cases h1
                  exact (packVal_np hy).2
          cases hp : isPan (.tup (x :: xs)) with
          | none => rfl
          | some d =>
            have : AV.tup (x :: xs) = panV d := isPanV hp
            unfold panV at this
            simp only [AV.tup.injEq, List.cons.injEq] at this
            exact absurd this.1 hx
      · rw [Option.map_eq_some_iff] at h
        obtain ⟨u, h1, h⟩ := h
        cases h
        exact (packVal_np h1).1
      · cases h
    · cases h
theorem acall_np {O : Oracle} {r : Req} {H : AHeap} {v : AV} {H' : AHeap} (h : acall cx O r H = some (v, H')) : isPan v = none := by
  unfold acall at h
  split at h
  · split at h
    · split at h
      · split at h
        · split at h
          · cases h; rfl
          · cases h
        · rename_i hp
          split at h
          · cases h; exact pack_np2 hp
          · cases h
        · cases h
      · cases h
    · split at h
      · cases h; rfl
      · split at h
        · cases h
        · rename_i hp; cases h; simpa using hp
      · cases h
  · split at h
    · cases h; rfl
    · cases h
theorem WOp.sound {fn : FuncId} {o : Oper} {st : St} {Q : RQ} (h : WOp cx fn o st Q) :
    (∃ st', (∃ k0, ∀ k, k0 ≤ k → astep cx (acallF cx k) fn o st = some st') ∧ Q.n st') ∨
    (∃ d st', (∃ k0, ∀ k, k0 ≤ k → astep cx (acallF cx k) fn o st = none ∧ adfr cx fn o st = none ∧ apanOp cx (acallF cx k) fn o st = some (d, st')) ∧ Q.p d st') := by
  obtain ⟨r, ho, h⟩ := h
  cases r with
  | val v H => exact .inl ⟨_, ⟨0, fun k _ => by unfold astep; rw [ho]⟩, h⟩
  | skip H => exact .inl ⟨_, ⟨0, fun k _ => by unfold astep; rw [ho]⟩, h⟩
  | pan d =>
    refine .inr ⟨d, st, ⟨0, fun k _ => ⟨by unfold astep; rw [ho], ?_, by unfold apanOp; rw [ho]⟩⟩, h⟩
    unfold adfr
    split
    · rw [ho]
    · rfl
  | dfr g as => exact h.elim
  | call r =>
    obtain ⟨v, H, ⟨k0, h0⟩, h⟩ := h
    unfold kcall at h
    cases hv : isPan v with
    | none =>
      rw [hv] at h
      refine .inl ⟨_, ⟨k0, fun k hk => ?_⟩, h⟩
      have := h0 k hk
      unfold acallX at this
      unfold astep
      rw [ho]
      dsimp only
      cases hc : acall cx (acallF cx k) r st.H with
      | some x => rw [hc] at this; dsimp only at this; cases this; rfl
      | none =>
        rw [hc] at this
        dsimp only at this
        rw [Option.map_eq_some_iff] at this
        obtain ⟨x, _, e⟩ := this
        cases e
        cases hv
    | some d =>
      rw [hv] at h
      refine .inr ⟨d, _, ⟨k0, fun k hk => ?_⟩, h⟩
      have := h0 k hk
      unfold acallX at this
      cases hc : acall cx (acallF cx k) r st.H with
      | some x =>
        rw [hc] at this
        dsimp only at this
        cases this
        rw [acall_np hc] at hv; cases hv
      | none =>
        rw [hc] at this
        dsimp only at this
        rw [Option.map_eq_some_iff] at this
        obtain ⟨⟨d', H'⟩, hp, e⟩ := this
        cases e
        cases hv
        refine ⟨by unfold astep; rw [ho]; dsimp only; rw [hc], ?_, by unfold apanOp; rw [ho]; dsimp only; rw [hp]; rfl⟩
        unfold adfr
        split
        · rw [ho]
        · rfl
/-- Behind a region. -/
def RSound (Q : RQ) (f : Nat → Option St) (g : Nat → Option (Imm × St)) : Prop :=
  (∃ st', (∃ k0, ∀ k, k0 ≤ k → f k = some st') ∧ Q.n st') ∨ (∃ d st', (∃ k0, ∀ k, k0 ≤ k → f k = none ∧ g k = some (d, st')) ∧ Q.p d st')
theorem W1.sound {fn : FuncId} {all rest : List Oper} {o : Oper} {st : St} {Q : RQ} (hw : wantedA all o st.fr = some true) (h : W1 cx fn o st ⟨fun st' => WO cx fn all rest st' Q, Q.p⟩)
    (ih : ∀ {st : St}, WO cx fn all rest st Q → RSound Q (fun k => aops cx (acallF cx k) fn all rest st) (fun k => apan cx (acallF cx k) fn all rest st)) :
    RSound Q (fun k => aops cx (acallF cx k) fn all (o :: rest) st) (fun k => apan cx (acallF cx k) fn all (o :: rest) st) := by
  unfold W1 at h
  split at h
  · rename_i hdf
    obtain ⟨r, ho, h⟩ := h
    cases r with
    | dfr g as =>
      have ha : adfr cx fn o st = some (g, as) := by
        unfold adfr isDfr at *
        split at hdf
        · rename_i c e; rw [e]; dsimp only; rw [ho]
        · cases hdf
      have hs : ∀ k, astep cx (acallF cx k) fn o st = none := fun k => by unfold astep; rw [ho]
      rcases ih h with ⟨st2, ⟨k1, h1⟩, q⟩ | ⟨d, st2, ⟨k1, h1⟩, q⟩
      · exact .inl ⟨st2, ⟨k1, fun k hk => by show aops _ _ _ _ _ _ = _; unfold aops; rw [hw]; dsimp only; rw [hs k]; dsimp only; rw [ha]; exact h1 k hk⟩, q⟩
      · refine .inr ⟨d, st2, ⟨k1, fun k hk => ⟨?_, ?_⟩⟩, q⟩
        · show aops _ _ _ _ _ _ = _; unfold aops; rw [hw]; dsimp only; rw [hs k]; dsimp only; rw [ha]; exact (h1 k hk).1
        · show apan _ _ _ _ _ _ = _; unfold apan; rw [hw]; dsimp only; rw [hs k]; dsimp only; rw [ha]; exact (h1 k hk).2
    | _ => exact h.elim
  · rcases WOp.sound h with ⟨st1, ⟨k0, h0⟩, h⟩ | ⟨d, st1, ⟨k0, h0⟩, h⟩
    · rcases ih h with ⟨st2, ⟨k1, h1⟩, q⟩ | ⟨d, st2, ⟨k1, h1⟩, q⟩
      · exact .inl ⟨st2, ⟨max k0 k1, fun k hk => by show aops _ _ _ _ _ _ = _; unfold aops; rw [hw]; dsimp only; rw [h0 k (by omega)]; exact h1 k (by omega)⟩, q⟩
      · refine .inr ⟨d, st2, ⟨max k0 k1, fun k hk => ⟨?_, ?_⟩⟩, q⟩
        · show aops _ _ _ _ _ _ = _; unfold aops; rw [hw]; dsimp only; rw [h0 k (by omega)]; exact (h1 k (by omega)).1
        · show apan _ _ _ _ _ _ = _; unfold apan; rw [hw]; dsimp only; rw [h0 k (by omega)]; exact (h1 k (by omega)).2
    · refine .inr ⟨d, st1, ⟨k0, fun k hk => ⟨?_, ?_⟩⟩, h⟩
      · show aops _ _ _ _ _ _ = _; unfold aops; rw [hw]; dsimp only; rw [(h0 k hk).1]; dsimp only; rw [(h0 k hk).2.1]
      · show apan _ _ _ _ _ _ = _; unfold apan; rw [hw]; dsimp only; rw [(h0 k hk).1]; dsimp only; rw [(h0 k hk).2.1]; exact (h0 k hk).2.2
theorem WO.sound {fn : FuncId} {all : List Oper} : ∀ {rest : List Oper} {st : St} {Q : RQ}, WO cx fn all rest st Q → RSound Q (fun k => aops cx (acallF cx k) fn all rest st) (fun k => apan cx (acallF cx k) fn all rest st)
  | [], st, Q, h => .inl ⟨st, ⟨0, fun _ _ => rfl⟩, h⟩
  | o :: rest, st, Q, h => by
    unfold WO at h
    cases hg : o.guard with
    | none =>
      rw [hg] at h
      exact W1.sound (by simp only [wantedA, hg]) h fun h => WO.sound h
    | some g =>
      obtain ⟨j, want⟩ := g
      rw [hg] at h
      obtain ⟨y, hy, h⟩ := h
      by_cases hw : y = some want
      · subst hw
        simp only [selO, if_true] at h
        exact W1.sound (by simp only [wantedA, hg, hy, Option.map_some, beq_self_eq_true]) h fun h => WO.sound h
      · have h' : WO cx fn all rest (unwanted o st) Q := by
          unfold selO at h
          cases y with
          | none => exact h
          | some b => simp only [Option.some.injEq] at hw; simpa [hw] using h
        have hwt : wantedA all o st.fr = some false := by
          simp only [wantedA, hg, hy, Option.map_some]
          rw [show (y == some want) = false by simpa using hw]
        rcases WO.sound h' with ⟨st2, ⟨k1, h1⟩, q⟩ | ⟨d, st2, ⟨k1, h1⟩, q⟩
        · exact .inl ⟨st2, ⟨k1, fun k hk => by show aops _ _ _ _ _ _ = _; unfold aops; rw [hwt]; exact h1 k hk⟩, q⟩
        · refine .inr ⟨d, st2, ⟨k1, fun k hk => ⟨?_, ?_⟩⟩, q⟩
          · show aops _ _ _ _ _ _ = _; unfold aops; rw [hwt]; exact (h1 k hk).1
          · show apan _ _ _ _ _ _ = _; unfold apan; rw [hwt]; exact (h1 k hk).2
/-- The first part of a walk, then the last operation. -/
def apanL (O : Oracle) (fn : FuncId) (ops : Array Oper) (l : List Nat) (E : List (Nat × List Nat)) (st : St) (d : Imm) (st' : St) : Prop :=
  ∃ init z o st1, l = init ++ [z] ∧ ops[z]? = some o ∧ lastOk ops z o = true ∧ adraw cx O fn ops init E st = some st1 ∧ wantedA ops.toList o st1.fr = some true ∧ apanOp cx O fn o st1 = some (d, st') ∧ adraw cx O fn ops l E st = none
theorem apanL.cons {O : Oracle} {fn : FuncId} {ops : Array Oper} {i : Nat} {l : List Nat} {E E' : List (Nat × List Nat)} {st st1 st' : St} {d : Imm} (h : apanL (cx := cx) O fn ops l E' st1 d st') (hs : ∀ l, adraw cx O fn ops (i :: l) E st = adraw cx O fn ops l E' st1) : apanL (cx := cx) O fn ops (i :: l) E st d st' := by
  obtain ⟨init, z, o, st2, rfl, h1, h2, h3, h4, h5, h6⟩ := h
  exact ⟨i :: init, z, o, st2, rfl, h1, h2, (hs _).trans h3, h4, h5, (hs _).trans h6⟩
theorem WD.sound {fn : FuncId} {ops : Array Oper} : ∀ {l : List Nat} {E : List (Nat × List Nat)} {st : St} {Q : RQ}, WD cx fn ops l E st Q →
    (∃ st', (∃ k0, ∀ k, k0 ≤ k → adraw cx (acallF cx k) fn ops l E st = some st') ∧ Q.n st') ∨ (∃ d st', (∃ k0, ∀ k, k0 ≤ k → apanL (cx := cx) (acallF cx k) fn ops l E st d st') ∧ Q.p d st')
  | [], _, st, Q, h => .inl ⟨st, ⟨0, fun _ _ => rfl⟩, h⟩
  | i :: rest, E, st, Q, h => by
    unfold WD at h
    obtain ⟨o, ho, y, hy, h⟩ := h
    unfold sel at h
    cases y with
    | false =>
      have hs : ∀ k l, adraw cx (acallF cx k) fn ops (i :: l) E st = adraw cx (acallF cx k) fn ops l E (unwanted o st) := fun k l => by
        conv => lhs; unfold adraw
        simp only [ho, hy]
      rcases WD.sound h with ⟨st2, ⟨k1, h1⟩, q⟩ | ⟨d, st2, ⟨k1, h1⟩, q⟩
      · exact .inl ⟨st2, ⟨k1, fun k hk => (hs k _).trans (h1 k hk)⟩, q⟩
      · exact .inr ⟨d, st2, ⟨k1, fun k hk => (h1 k hk).cons (hs k)⟩, q⟩
    | true =>
      simp only [if_true] at h
      by_cases hm : mob cx fn o = true
      · rw [if_pos hm] at h
        obtain ⟨hb, h⟩ := h
        rcases WOp.sound h with ⟨st1, ⟨k0, h0⟩, h⟩ | ⟨d, st1, ⟨k0, h0⟩, h⟩
        · have hs : ∀ k, k0 ≤ k → ∀ l, adraw cx (acallF cx k) fn ops (i :: l) E st = adraw cx (acallF cx k) fn ops l ((i, rdA o st.fr st.H) :: E) st1 := fun k hk l => by
            conv => lhs; unfold adraw
            simp only [ho, hy, hm, hb, if_true, Bool.false_eq_true, if_false]
            rw [h0 k hk]
          rcases WD.sound h with ⟨st2, ⟨k1, h1⟩, q⟩ | ⟨d, st2, ⟨k1, h1⟩, q⟩
          · exact .inl ⟨st2, ⟨max k0 k1, fun k hk => (hs k (by omega) _).trans (h1 k (by omega))⟩, q⟩
          · exact .inr ⟨d, st2, ⟨max k0 k1, fun k hk => (h1 k (by omega)).cons (hs k (by omega))⟩, q⟩
        · cases h.1
      · rw [if_neg hm] at h
        obtain ⟨hb, h⟩ := h
        rcases WOp.sound h with ⟨st1, ⟨k0, h0⟩, h⟩ | ⟨d, st1, ⟨k0, h0⟩, ⟨hz, hq⟩⟩
        · have hs : ∀ k, k0 ≤ k → ∀ l, adraw cx (acallF cx k) fn ops (i :: l) E st = adraw cx (acallF cx k) fn ops l E st1 := fun k hk l => by
            conv => lhs; unfold adraw
            simp only [ho, hy, hm, hb, if_true, Bool.false_eq_true, if_false]
            rw [h0 k hk]
          rcases WD.sound h with ⟨st2, ⟨k1, h1⟩, q⟩ | ⟨d, st2, ⟨k1, h1⟩, q⟩
          · exact .inl ⟨st2, ⟨max k0 k1, fun k hk => (hs k (by omega) _).trans (h1 k (by omega))⟩, q⟩
          · exact .inr ⟨d, st2, ⟨max k0 k1, fun k hk => (h1 k (by omega)).cons (hs k (by omega))⟩, q⟩
        · rw [Bool.and_eq_true] at hz
          have hr : rest = [] := List.isEmpty_iff.1 hz.1
          subst hr
          refine .inr ⟨d, st1, ⟨k0, fun k hk => ⟨[], i, o, st, rfl, ho, hz.2, rfl, hy, (h0 k hk).2.2, ?_⟩⟩, hq⟩
          unfold adraw
          simp only [ho, hy, hm, hb, if_true, Bool.false_eq_true, if_false]
          rw [(h0 k hk).1]
theorem W.sound {fn : FuncId} {rd : Option Nat} : ∀ {c : Code} {st : St} {Q : Ex → St → Prop}, W cx fn rd c st Q → ∃ e st', (∃ k0, ∀ k, k0 ≤ k → aexec cx (acallF cx k) k fn rd c st = some (e, st')) ∧ Q e st' := by
  intro c
  induction c with
  | skip => intro st Q h; exact ⟨_, _, ⟨0, fun _ _ => rfl⟩, h⟩
  | label _ => intro st Q h; exact ⟨_, _, ⟨0, fun _ _ => rfl⟩, h⟩
  | region id ops draw =>
    intro st Q h
    cases draw with
    | false =>
      rcases WO.sound h with ⟨st1, ⟨k0, h0⟩, h⟩ | ⟨d, st1, ⟨k0, h0⟩, h⟩
      · exact ⟨_, _, ⟨k0, fun k hk => by unfold aexec; simp only [Bool.false_eq_true, if_false]; have := h0 k hk; dsimp only at this; rw [this]⟩, h⟩
      · exact ⟨_, _, ⟨k0, fun k hk => by unfold aexec; simp only [Bool.false_eq_true, if_false]; have := h0 k hk; dsimp only at this; rw [this.1, this.2]; rfl⟩, h⟩
    | true =>
      rcases WD.sound h with ⟨st1, ⟨k0, h0⟩, h⟩ | ⟨d, st1, ⟨k0, h0⟩, h⟩
      · exact ⟨_, _, ⟨k0, fun k hk => by unfold aexec; simp only [if_true]; rw [h0 k hk]⟩, h⟩
      · refine ⟨_, _, ⟨k0, fun k hk => ?_⟩, h⟩
        obtain ⟨init, z, o, st2, e, h1, h2, h3, h4, h5, h6⟩ := h0 k hk
        unfold aexec
        simp only [if_true]
        rw [h6]
        unfold adrawP
        rw [e, List.getLast?_concat]
        simp only [h1, h2, if_true, List.dropLast_concat, h3, h4, h5]
        rfl
  | seq a b iha ihb =>
    intro st Q h
    obtain ⟨e, st1, ⟨k0, h0⟩, h⟩ := iha h
    cases e with
    | nrm =>
      obtain ⟨e', st2, ⟨k1, h1⟩, q⟩ := ihb h
      exact ⟨e', st2, ⟨max k0 k1, fun k hk => by unfold aexec; rw [h0 k (by omega)]; exact h1 k (by omega)⟩, q⟩
    | exit i => exact ⟨_, st1, ⟨k0, fun k hk => by unfold aexec; rw [h0 k hk]⟩, h⟩
    | ret => exact ⟨_, st1, ⟨k0, fun k hk => by unfold aexec; rw [h0 k hk]⟩, h⟩
    | pan d => exact ⟨_, st1, ⟨k0, fun k hk => by unfold aexec; rw [h0 k hk]⟩, h⟩
  | cond c a b iha ihb =>
    intro st Q h
    obtain ⟨t, ht, h⟩ := h
    have hc : ev st.fr c = .im (.b t) := by
      unfold abool at ht
      split at ht
      · rename_i x; simp only [Option.some.injEq] at ht; subst ht; assumption
      · cases ht
    cases t with
    | true =>
      obtain ⟨e, st1, ⟨k0, h0⟩, h⟩ := iha h
      exact ⟨_, st1, ⟨k0, fun k hk => by unfold aexec; rw [hc]; exact h0 k hk⟩, h⟩
    | false =>
      obtain ⟨e, st1, ⟨k0, h0⟩, h⟩ := ihb h
      exact ⟨_, st1, ⟨k0, fun k hk => by unfold aexec; rw [hc]; exact h0 k hk⟩, h⟩
  | block id a ih =>
    intro st Q h
    obtain ⟨e, st1, ⟨k0, h0⟩, h⟩ := ih h
    cases e with
    | nrm => exact ⟨_, st1, ⟨k0, fun k hk => by unfold aexec; rw [h0 k hk]⟩, h⟩
    | exit i =>
      unfold kblock at h
      dsimp only at h
      by_cases hi : i = id
      · rw [if_pos hi] at h
        exact ⟨_, st1, ⟨k0, fun k hk => by unfold aexec; rw [h0 k hk]; dsimp only; rw [if_pos hi]⟩, h⟩
      · rw [if_neg hi] at h
        exact ⟨_, st1, ⟨k0, fun k hk => by unfold aexec; rw [h0 k hk]; dsimp only; rw [if_neg hi]⟩, h⟩
    | ret => exact ⟨_, st1, ⟨k0, fun k hk => by unfold aexec; rw [h0 k hk]⟩, h⟩
    | pan d => exact ⟨_, st1, ⟨k0, fun k hk => by unfold aexec; rw [h0 k hk]⟩, h⟩
  | scope a ih =>
    intro st Q h
    obtain ⟨e, st1, ⟨k0, h0⟩, h⟩ := ih h
    exact ⟨_, st1, ⟨k0, fun k hk => by unfold aexec; exact h0 k hk⟩, h⟩
  | loop a ih =>
    intro st Q h
    obtain ⟨e, st1, ⟨k0, h0⟩, h⟩ := h
    exact ⟨_, st1, ⟨k0, fun k hk => by unfold aexec; exact h0 k k hk hk⟩, h⟩
  | rangeFunc f ps a b => intro st Q h; exact h
  | exit id => intro st Q h; exact ⟨_, _, ⟨0, fun _ _ => rfl⟩, h⟩
  | ret => intro st Q h; exact ⟨_, _, ⟨0, fun _ _ => rfl⟩, h⟩
  | _ => intro st Q h; exact h.elim
/-- A loop, by an invariant and a number that falls. -/
theorem WL.inv {fn : FuncId} {rd : Option Nat} {a : Code} {Q : Ex → St → Prop} (I : Nat → St → Prop)
    (h : ∀ n st, I n st → W cx fn rd a st fun e st' => match e with | .nrm => ∃ m, m < n ∧ I m st' | e => Q e st') : ∀ n st, I n st → WL cx fn rd a st Q := by
  intro n
  induction n using Nat.strongRecOn with
  | ind n ih =>
    intro st hi
    obtain ⟨e, st1, ⟨k0, h0⟩, h1⟩ := W.sound (h n st hi)
    cases e with
    | nrm =>
      obtain ⟨m, hm, h1⟩ := h1
      obtain ⟨e, st2, ⟨k1, h2⟩, q⟩ := ih m hm st1 h1
      refine ⟨e, st2, ⟨max k0 k1 + 1, fun k n hk hn => ?_⟩, q⟩
      obtain ⟨n, rfl⟩ : ∃ n', n = n' + 1 := ⟨n - 1, by omega⟩
      unfold aloop
      rw [h0 k (by omega)]
      exact h2 k n (by omega) (by omega)
    | exit i =>
      refine ⟨_, st1, ⟨k0 + 1, fun k n hk hn => ?_⟩, h1⟩
      obtain ⟨n, rfl⟩ : ∃ n', n = n' + 1 := ⟨n - 1, by omega⟩
      unfold aloop
      rw [h0 k (by omega)]
    | ret =>
      refine ⟨_, st1, ⟨k0 + 1, fun k n hk hn => ?_⟩, h1⟩
      obtain ⟨n, rfl⟩ : ∃ n', n = n' + 1 := ⟨n - 1, by omega⟩
      unfold aloop
      rw [h0 k (by omega)]
    | pan d =>
      refine ⟨_, st1, ⟨k0 + 1, fun k n hk hn => ?_⟩, h1⟩
      obtain ⟨n, rfl⟩ : ∃ n', n = n' + 1 := ⟨n - 1, by omega⟩
      unfold aloop
      rw [h0 k (by omega)]
/-- What is returned is no marker. -/
def kmt (R : AV → AHeap → Prop) (H : AHeap) (v : AV) : Prop := match isPan v with | none => R v H | some _ => False
/-- How a function ends. -/
def kfin (cx : Cx) (rs : List ResultVar) (R : AV → AHeap → Prop) (e : Ex) (st : St) : Prop :=
  match e with
  | .exit _ => False
  | .pan d => ob (acolls st.ds st.H) fun H => R (panV d) H
  | _ => ob (acolls st.ds st.H) fun H => ob (aresult cx.P st.fr H rs) fun vs => match vs with | [v] => kmt R H v | vs => kmt R H (mkTup vs)
theorem aleave_colls {O : Oracle} {k : Nat} {fn : Func} {fr : Fr} {m : Option Imm} : ∀ {ds : List Dfr} {H H' : AHeap}, acolls ds H = some H' → aleave cx O k fn fr ds m H = aleave cx O k fn fr [] m H'
  | [], H, H', h => by cases h; rfl
  | .mark l :: ds, H, H', h => by
    rw [acolls] at h
    split at h
    · rename_i ho
      rw [aleave, ho]
      exact aleave_colls h
    · cases h
  | .fn _ _ :: _, _, _, h => by cases h
theorem kfin.key {fn : Func} {R : AV → AHeap → Prop} {e : Ex} {st : St} (h : kfin cx fn.results.toList R e st) : ∃ v H', (∀ O k, afinish cx O k fn (some (e, st)) = some (v, H')) ∧ R v H' := by
  have hret : ∀ {H1 : AHeap} {vs : List AV}, aresult cx.P st.fr H1 fn.results.toList = some vs → (match vs with | [v] => kmt R H1 v | vs => kmt R H1 (mkTup vs)) → ∃ v H', aret cx fn st.fr H1 = some (v, H') ∧ R v H' := by
    intro H1 vs h2 h
    unfold aret
    rw [h2]
    split at h
    · unfold kmt at h
      split at h
      · rename_i v hv; exact ⟨_, _, by simp [hv], h⟩
      · exact h.elim
    · rename_i hne
      unfold kmt at h
      split at h
      · rename_i hv
        split
        · rename_i v e; exact (hne v (by simpa using e)).elim
        · rename_i e; simp only [Option.some.injEq] at e; subst e; exact ⟨_, _, by simp [hv], h⟩
        · rename_i e; cases e
      · exact h.elim
  unfold kfin at h
  cases e with
  | exit i => exact h.elim
  | pan d =>
    obtain ⟨H1, h1, h⟩ := h
    exact ⟨_, _, fun O k => by unfold afinish; dsimp only; rw [aleave_colls h1]; rfl, h⟩
  | nrm =>
    obtain ⟨H1, h1, vs, h2, h⟩ := h
    obtain ⟨v, H', h3, h4⟩ := hret h2 h
    exact ⟨v, H', fun O k => by unfold afinish; dsimp only; rw [aleave_colls h1]; exact h3, h4⟩
  | ret =>
    obtain ⟨H1, h1, vs, h2, h⟩ := h
    obtain ⟨v, H', h3, h4⟩ := hret h2 h
    exact ⟨v, H', fun O k => by unfold afinish; dsimp only; rw [aleave_colls h1]; exact h3, h4⟩
theorem FN.intro {f : FuncId} {fn : Func} {c : Code} {args : List AV} {H : AHeap} {R : AV → AHeap → Prop} (hf : cx.P.funcs[f]? = some fn) (hfit : cx.fits f = true) (hb : fn.body = some c)
    (h : W cx f none c ⟨enterFr 0 args, [], H⟩ (kfin cx fn.results.toList R)) : FN cx f args H R := by
  obtain ⟨e, st, ⟨k0, h0⟩, h⟩ := W.sound h
  obtain ⟨v, H', hv, hR⟩ := kfin.key h
  refine ⟨v, H', ⟨k0 + 1, fun k hk => ?_⟩, hR⟩
  obtain ⟨k, rfl⟩ : ∃ k', k = k' + 1 := ⟨k - 1, by omega⟩
  unfold acallF
  simp only [hfit, if_true, hf, hb]
  rw [h0 k (by omega)]
  exact hv _ _
theorem PF.intro {f : FuncId} {fn : Func} {c : Code} {ds : List Imm} {R : Imm → Prop} (hf : cx.P.funcs[f]? = some fn) (hfit : cx.fits f = true) (hb : fn.body = some c)
    (h : W cx f none c ⟨enterFr 0 (ds.map .im), [], []⟩ (kfin cx fn.results.toList fun v _ => ∃ d, v = .im d ∧ R d)) : PF cx f ds R := FN.intro hf hfit hb h
/-- A call on immutable data. -/
theorem WC.pf {f : FuncId} {ds : List Imm} {args : List AV} {H : AHeap} {R : Imm → Prop} {Q : AV → AHeap → Prop} (h : PF cx f ds R) (ha : args = ds.map .im) (hs : cx.shared f = false) (hR : ∀ d, R d → Q (.im d) H) : WC cx (.fn f args) H Q := by
  subst ha
  obtain ⟨v, G, ⟨k0, h0⟩, d, rfl, hd⟩ := h
  refine ⟨.im d, H, ⟨k0, fun k hk => ?_⟩, hR d hd⟩
  have hv : views H (ds.map .im) = some ds := by
    unfold views
    rw [List.mapM_map]
    have : (view true viewDepth H ∘ AV.im) = (fun d => some d) := by funext d; simp [viewDepth, view]
    rw [this]
    clear h0
    induction ds with
    | nil => rfl
    | cons d ds ih => simp [List.mapM_cons, ih]
  have hall : (ds.map AV.im).all AV.isIm = true := by simp [List.all_eq_true, AV.isIm]
  have : acall cx (acallF cx k) (.fn f (ds.map .im)) H = some (.im d, H) := by
    unfold acall
    simp only [viaView, hs, Bool.false_eq_true, if_false, hv]
    rw [h0 k hk]
    simp [pack, rowOf, view, viewDepth, hall]
  unfold acallX
  rw [this]
/-- What a run says to the model. -/
theorem PF.calls {f : FuncId} {ds : List Imm} {R : Imm → Prop} (h : PF cx f ds R) (hm : cx.P.follows .mixedOrders = true) (hfit : progFit cx = true) {cas : Array Value} {w : World}
    (ha : RepL w (fun _ => False) (fun _ => False) ds cas.toList) : ∃ d, R d ∧ Calls cx.P f cas w (Says d w) := by
  obtain ⟨v, G, ⟨k0, h0⟩, d, rfl, hd⟩ := h
  exact ⟨d, hd, calls_of_am hm hfit (h0 k0 (Nat.le_refl _)) ha⟩
end
end Go.Proofs.Ytnbbhbbhgcipjaa.Am

namespace Go.Proofs.Ytnbbhbbhgcipjaa.Am
section
variable {cx : Cx}
def Sub (O O' : Oracle) : Prop := ∀ r H x, O r H = some x → O' r H = some x
theorem acall_le {O O' : Oracle} (h : Sub O O') {r : Req} {H : AHeap} {x : AV × AHeap} (hx : acall cx O r H = some x) : acall cx O' r H = some x := by
  cases r with
  | fn f args =>
    unfold acall at hx ⊢
    dsimp only at hx ⊢
    split at hx
    · rename_i ds _
      cases hO : O (.fn f (ds.map .im)) [] with
      | none => rw [hO] at hx; cases hx
      | some p => rw [hO] at hx; rw [h _ _ _ hO]; exact hx
    · cases hO : O (.fn f args) H with
      | none => rw [hO] at hx; cases hx
      | some p => rw [hO] at hx; rw [h _ _ _ hO]; exact hx
  | round l args =>
    unfold acall at hx ⊢
    dsimp only at hx ⊢
    cases hO : O (.round l args) H with
    | none => rw [hO] at hx; cases hx
    | some p => rw [hO] at hx; rw [h _ _ _ hO]; exact hx
theorem acallP_le {O O' : Oracle} (h : Sub O O') {r : Req} {H : AHeap} {x : Imm × AHeap} (hx : acallP cx O r H = some x) : acallP cx O' r H = some x := by
  cases r with
  | fn f args =>
    unfold acallP at hx ⊢
    dsimp only at hx ⊢
    split at hx
    · rename_i ds _
      cases hO : O (.fn f (ds.map .im)) [] with
      | none => rw [hO] at hx; cases hx
      | some p => rw [hO] at hx; rw [h _ _ _ hO]; exact hx
    · cases hO : O (.fn f args) H with
      | none => rw [hO] at hx; cases hx
      | some p => rw [hO] at hx; rw [h _ _ _ hO]; exact hx
  | round l args =>
    unfold acallP at hx ⊢
    dsimp only at hx ⊢
    cases hO : O (.round l args) H with
    | none => rw [hO] at hx; cases hx
    | some p => rw [hO] at hx; rw [h _ _ _ hO]; exact hx
theorem apanOp_le {O O' : Oracle} (h : Sub O O') {fn : FuncId} {o : Oper} {st : St} {x : Imm × St} (hx : apanOp cx O fn o st = some x) : apanOp cx O' fn o st = some x := by
  unfold apanOp at hx ⊢
  split at hx
  · rename_i r e
    rw [Option.map_eq_some_iff] at hx ⊢
    obtain ⟨y, hy, rfl⟩ := hx
    exact ⟨y, acallP_le h hy, rfl⟩
  · exact hx
  · cases hx
theorem astep_le {O O' : Oracle} (h : Sub O O') {fn : FuncId} {o : Oper} {st st' : St} (hx : astep cx O fn o st = some st') : astep cx O' fn o st = some st' := by
  unfold astep at hx ⊢
  split at hx
  · rename_i e; exact hx
  · rename_i e; exact hx
  · rename_i r e
    cases hO : acall cx O r st.H with
    | none => rw [hO] at hx; cases hx
    | some p =>
      rw [hO] at hx
      simp only [acall_le h hO]
      exact hx
  · cases hx
theorem acallP_none {O : Oracle} {r : Req} {H : AHeap} {x : Imm × AHeap} (hx : acallP cx O r H = some x) : acall cx O r H = none := by
  have key : ∀ {v : AV} {d : Imm} {G : AHeap} {own : Bool} {n : Nat}, isPan v = some d → pack own n G v = none := fun {v d G own n} hp => by
    rw [isPanV hp]
    unfold pack panV
    rw [show rowOf own (.tup [.top, .im d]) = none by cases own <;> rfl]
    simp [viewDepth, view]
  cases r with
  | fn f args =>
    unfold acallP at hx
    unfold acall
    dsimp only at hx ⊢
    split at hx
    · rename_i ds _
      cases hO : O (.fn f (ds.map .im)) [] with
      | none => rfl
      | some p =>
        obtain ⟨v, G⟩ := p
        rw [hO] at hx
        dsimp only at hx ⊢
        cases hp : isPan v with
        | none => rw [hp] at hx; cases hx
        | some d => rw [key hp]
    · cases hO : O (.fn f args) H with
      | none => rfl
      | some p =>
        obtain ⟨v, G⟩ := p
        rw [hO] at hx
        dsimp only at hx ⊢
        cases hp : isPan v with
        | none => rw [hp] at hx; cases hx
        | some d => rw [isPanV hp]; rfl
  | round l args =>
    unfold acallP at hx
    unfold acall
    dsimp only at hx ⊢
    cases hO : O (.round l args) H with
    | none => rfl
    | some p =>
      obtain ⟨v, G⟩ := p
      rw [hO] at hx
      dsimp only at hx ⊢
      cases hp : isPan v with
      | none => rw [hp] at hx; cases hx
      | some d => rw [isPanV hp]; rfl
theorem apanOp_none {O : Oracle} {fn : FuncId} {o : Oper} {st : St} {x : Imm × St} (hx : apanOp cx O fn o st = some x) : astep cx O fn o st = none := by
  unfold apanOp at hx
  unfold astep
  split at hx
  · rename_i r e
    rw [e]
    rw [Option.map_eq_some_iff] at hx
    obtain ⟨y, hy, _⟩ := hx
    dsimp only
    rw [acallP_none hy]
  · rename_i d e; rw [e]
  · cases hx
theorem adfr_none {O : Oracle} {fn : FuncId} {o : Oper} {st : St} {x : FuncId × List AV} (hx : adfr cx fn o st = some x) : astep cx O fn o st = none := by
  unfold adfr at hx
  unfold astep
  split at hx
  · split at hx
    · rename_i g as e; rw [e]
    · cases hx
  · cases hx
theorem aops_le {O O' : Oracle} (h : Sub O O') {fn : FuncId} {ops : List Oper} : ∀ {l : List Oper} {st st' : St}, aops cx O fn ops l st = some st' → aops cx O' fn ops l st = some st'
  | [], _, _, hx => hx
  | o :: l, st, st', hx => by
    unfold aops at hx ⊢
    split at hx
    · rename_i e
      cases hs : astep cx O fn o st with
      | none =>
        rw [hs] at hx
        dsimp only at hx
        cases ha : adfr cx fn o st with
        | none => rw [ha] at hx; cases hx
        | some x => rw [ha] at hx; rw [adfr_none ha]; dsimp only; exact aops_le h hx
      | some s => rw [hs] at hx; rw [astep_le h hs]; exact aops_le h hx
    · rename_i e; exact aops_le h hx
    · cases hx
theorem apan_le {O O' : Oracle} (h : Sub O O') {fn : FuncId} {ops : List Oper} : ∀ {l : List Oper} {st : St} {x : Imm × St}, apan cx O fn ops l st = some x → aops cx O' fn ops l st = none ∧ apan cx O' fn ops l st = some x
  | [], _, _, hx => by cases hx
  | o :: l, st, x, hx => by
    unfold apan at hx ⊢
    unfold aops
    split at hx
    · rename_i e
      cases hs : astep cx O fn o st with
      | none =>
        rw [hs] at hx
        dsimp only at hx
        cases ha : adfr cx fn o st with
        | none =>
          rw [ha] at hx
          dsimp only at hx
          have h1 := apanOp_le h hx
          rw [apanOp_none h1]
          exact ⟨rfl, h1⟩
        | some y => rw [ha] at hx; rw [adfr_none ha]; dsimp only; exact apan_le h hx
      | some s => rw [hs] at hx; rw [astep_le h hs]; exact apan_le h hx
    · rename_i e; exact apan_le h hx
    · cases hx
theorem adraw_le {O O' : Oracle} (h : Sub O O') {fn : FuncId} {ops : Array Oper} : ∀ {l : List Nat} {E : List (Nat × List Nat)} {st st' : St}, adraw cx O fn ops l E st = some st' → adraw cx O' fn ops l E st = some st'
  | [], _, _, _, hx => hx
  | i :: l, E, st, st', hx => by
    unfold adraw at hx ⊢
    cases ho : ops[i]? with
    | none => rw [ho] at hx; cases hx
    | some o =>
      rw [ho] at hx
      dsimp only at hx ⊢
      cases hw : wantedA ops.toList o st.fr with
      | none => rw [hw] at hx; cases hx
      | some b =>
        rw [hw] at hx
        cases b with
        | false => exact adraw_le h hx
        | true =>
          dsimp only at hx ⊢
          by_cases hm : mob cx fn o = true
          · rw [if_pos hm] at hx ⊢
            by_cases hb : bad cx fn o st = true
            · rw [if_pos hb] at hx; cases hx
            · rw [if_neg hb] at hx ⊢
              cases hs : astep cx O fn o st with
              | none => rw [hs] at hx; cases hx
              | some s => rw [hs] at hx; rw [astep_le h hs]; exact adraw_le h hx
          · rw [if_neg hm] at hx ⊢
            by_cases hb : clear cx fn ops o st E = true
            · rw [if_pos hb] at hx ⊢
              cases hs : astep cx O fn o st with
              | none => rw [hs] at hx; cases hx
              | some s => rw [hs] at hx; rw [astep_le h hs]; exact adraw_le h hx
            · rw [if_neg hb] at hx; cases hx
theorem adraw_last {O : Oracle} {fn : FuncId} {ops : Array Oper} {z : Nat} {o : Oper} (ho : ops[z]? = some o) : ∀ {l : List Nat} {E : List (Nat × List Nat)} {st st1 : St}, adraw cx O fn ops l E st = some st1 → wantedA ops.toList o st1.fr = some true → astep cx O fn o st1 = none → adraw cx O fn ops (l ++ [z]) E st = none
  | [], E, st, st1, hx, hw, hs => by
    cases hx
    show adraw cx O fn ops [z] E st = none
    unfold adraw
    rw [ho]
    dsimp only
    rw [hw]
    dsimp only
    rw [hs]
    dsimp only
    split
    · split <;> rfl
    · split <;> rfl
  | i :: l, E, st, st1, hx, hw, hs => by
    rw [List.cons_append]
    unfold adraw at hx ⊢
    cases hi : ops[i]? with
    | none => rfl
    | some oi =>
      rw [hi] at hx
      dsimp only at hx ⊢
      cases hwi : wantedA ops.toList oi st.fr with
      | none => rfl
      | some b =>
        rw [hwi] at hx
        cases b with
        | false => exact adraw_last ho hx hw hs
        | true =>
          dsimp only at hx ⊢
          by_cases hm : mob cx fn oi = true
          · rw [if_pos hm] at hx ⊢
            by_cases hb : bad cx fn oi st = true
            · rw [if_pos hb]
            · rw [if_neg hb] at hx ⊢
              cases hsi : astep cx O fn oi st with
              | none => rfl
              | some s => rw [hsi] at hx; exact adraw_last ho hx hw hs
          · rw [if_neg hm] at hx ⊢
            by_cases hb : clear cx fn ops oi st E = true
            · rw [if_pos hb] at hx ⊢
              cases hsi : astep cx O fn oi st with
              | none => rfl
              | some s => rw [hsi] at hx; exact adraw_last ho hx hw hs
            · rw [if_neg hb]
theorem adrawP_le {O O' : Oracle} (h : Sub O O') {fn : FuncId} {ops : Array Oper} {σ : List Nat} {st : St} {x : Imm × St} (hx : adrawP cx O fn ops σ st = some x) : adraw cx O' fn ops σ [] st = none ∧ adrawP cx O' fn ops σ st = some x := by
  unfold adrawP at hx ⊢
  split at hx
  · cases hx
  rename_i z hz
  split at hx
  · cases hx
  rename_i o ho
  split at hx
  · rename_i hl
    split at hx
    · cases hx
    rename_i st1 hst1
    split at hx
    · rename_i hw
      obtain ⟨σ', rfl⟩ := List.getLast?_eq_some_iff.1 hz
      rw [List.dropLast_concat] at hst1
      have h1 := adraw_le h hst1
      have h2 := apanOp_le h hx
      refine ⟨adraw_last ho h1 hw (apanOp_none h2), ?_⟩
      rw [if_pos hl, List.dropLast_concat, h1]
      dsimp only
      rw [hw]
      exact h2
    · cases hx
  · cases hx
theorem aloop_le {f g : St → Option (Ex × St)} (h : ∀ st x, f st = some x → g st = some x) : ∀ {k k' : Nat} {st : St} {x : Ex × St}, k ≤ k' → aloop f k st = some x → aloop g k' st = some x
  | 0, _, _, _, _, hx => by cases hx
  | k + 1, 0, _, _, hk, _ => by omega
  | k + 1, k' + 1, st, x, hk, hx => by
    unfold aloop at hx ⊢
    cases hf : f st with
    | none => rw [hf] at hx; cases hx
    | some p =>
      obtain ⟨e, st'⟩ := p
      rw [hf] at hx
      rw [h _ _ hf]
      cases e with
      | nrm => exact aloop_le h (by omega) hx
      | exit i => exact hx
      | ret => exact hx
      | pan d => exact hx
theorem aexec_le {O O' : Oracle} (h : Sub O O') {k k' : Nat} (hk : k ≤ k') {fn : FuncId} {rd : Option Nat} : ∀ {c : Code} {st : St} {x : Ex × St}, aexec cx O k fn rd c st = some x → aexec cx O' k' fn rd c st = some x := by
  intro c
  induction c with
  | region id ops draw =>
    intro st x hx
    unfold aexec at hx ⊢
    cases draw with
    | true =>
      simp only [if_true] at hx ⊢
      cases hs : adraw cx O fn ops (cx.sched fn id) [] st with
      | none =>
        rw [hs] at hx
        dsimp only at hx
        rw [Option.map_eq_some_iff] at hx
        obtain ⟨y, hy, rfl⟩ := hx
        obtain ⟨h1, h2⟩ := adrawP_le h hy
        rw [h1, h2]; rfl
      | some s => rw [hs] at hx; rw [adraw_le h hs]; exact hx
    | false =>
      simp only [Bool.false_eq_true, if_false] at hx ⊢
      cases hs : aops cx O fn ops.toList ops.toList st with
      | none =>
        rw [hs] at hx
        dsimp only at hx
        rw [Option.map_eq_some_iff] at hx
        obtain ⟨y, hy, rfl⟩ := hx
        obtain ⟨h1, h2⟩ := apan_le h hy
        rw [h1, h2]; rfl
      | some s => rw [hs] at hx; rw [aops_le h hs]; exact hx
  | seq a b iha ihb =>
    intro st x hx
    unfold aexec at hx ⊢
    cases ha : aexec cx O k fn rd a st with
    | none => rw [ha] at hx; cases hx
    | some p =>
      obtain ⟨e, st'⟩ := p
      rw [ha] at hx
      rw [iha ha]
      cases e with
      | nrm => exact ihb hx
      | exit i => exact hx
      | ret => exact hx
      | pan d => exact hx
  | cond c a b iha ihb =>
    intro st x hx
    unfold aexec at hx ⊢
    split at hx
    · rename_i t e
      split at hx
      · rename_i ht; rw [if_pos ht]; exact iha hx
      · rename_i ht; rw [if_neg ht]; exact ihb hx
    · cases hx
  | block id a ih =>
    intro st x hx
    unfold aexec at hx ⊢
    cases ha : aexec cx O k fn rd a st with
    | none => rw [ha] at hx; cases hx
    | some p =>
      obtain ⟨e, st'⟩ := p
      rw [ha] at hx
      rw [ih ha]
      exact hx
  | scope a ih =>
    intro st x hx
    unfold aexec at hx ⊢
    exact ih hx
  | loop a ih =>
    intro st x hx
    unfold aexec at hx ⊢
    exact aloop_le (fun st x h => ih h) hk hx
  | rangeFunc f ps a b =>
    intro st x hx
    unfold aexec at hx ⊢
    cases he : enterLoop fn rd ps.toList a b st with
    | none => rw [he] at hx; cases hx
    | some p =>
      obtain ⟨l, st1⟩ := p
      rw [he] at hx
      dsimp only at hx ⊢
      split at hx
      · rename_i g args hc
        cases hO : O (.fn g args) st1.H with
        | none => rw [hO] at hx; cases hx
        | some p => rw [hO] at hx; rw [h _ _ _ hO]; exact hx
      · cases hx
  | _ => intro st x hx; exact hx
theorem adefer_le {O O' : Oracle} (h : Sub O O') {k k' : Nat} (hk : k ≤ k') {g : FuncId} {as : List AV} {m : Option Imm} {H x : AHeap} (hx : adefer cx O k g as m H = some x) : adefer cx O' k' g as m H = some x := by
  unfold adefer at hx ⊢
  split at hx
  · rename_i fn h1 h2
    split at hx
    · rename_i id ops c hb
      split at hx
      · rename_i t u hr
        cases he : aexec cx O k g none c ⟨(u, .im (m.getD .nili)) :: (t, .im (m.getD .nili)) :: enterFr 0 as, [], H⟩ with
        | none => rw [he] at hx; cases hx
        | some p => rw [he] at hx; rw [aexec_le h hk he]; exact hx
      · cases hx
    · cases hx
  · cases hx
theorem aleave_le {O O' : Oracle} (h : Sub O O') {k k' : Nat} (hk : k ≤ k') {fn : Func} {fr : Fr} : ∀ {ds : List Dfr} {m : Option Imm} {H : AHeap} {x : AV × AHeap}, aleave cx O k fn fr ds m H = some x → aleave cx O' k' fn fr ds m H = some x
  | [], none, _, _, hx => by rw [aleave] at hx ⊢; exact hx
  | [], some _, _, _, hx => by rw [aleave] at hx ⊢; exact hx
  | .mark l :: ds, m, H, x, hx => by
    rw [aleave] at hx ⊢
    split at hx
    · exact aleave_le h hk hx
    · cases hx
  | .fn g as :: ds, m, H, x, hx => by
    rw [aleave] at hx ⊢
    split at hx
    · rename_i H1 hd
      rw [adefer_le h hk hd]
      exact aleave_le h hk hx
    · cases hx
theorem afinish_le {O O' : Oracle} (h : Sub O O') {k k' : Nat} (hk : k ≤ k') {fn : Func} {r : Option (Ex × St)} {x : AV × AHeap} (hx : afinish cx O k fn r = some x) : afinish cx O' k' fn r = some x := by
  unfold afinish at hx ⊢
  split at hx
  · exact aleave_le h hk hx
  · exact aleave_le h hk hx
  · exact aleave_le h hk hx
  · cases hx
theorem acallF_le : ∀ {k k' : Nat}, k ≤ k' → Sub (acallF cx k) (acallF cx k')
  | 0, _, _ => fun r H x hx => by cases r <;> cases hx
  | k + 1, 0, hk => by omega
  | k + 1, k' + 1, hk => fun r H x hx => by
    have ih := acallF_le (k := k) (k' := k') (by omega)
    cases r with
    | fn f args =>
      unfold acallF at hx ⊢
      by_cases hf : cx.fits f = true
      · rw [if_pos hf] at hx ⊢
        cases h1 : cx.P.funcs[f]? with
        | none => rw [h1] at hx; cases hx
        | some fn =>
          rw [h1] at hx
          dsimp only at hx ⊢
          cases h2 : fn.body with
          | none => rw [h2] at hx; cases hx
          | some c =>
            rw [h2] at hx
            dsimp only at hx ⊢
            cases h3 : aexec cx (acallF cx k) k f none c ⟨enterFr 0 args, [], H⟩ with
            | none => rw [h3] at hx; cases hx
            | some p => rw [h3] at hx; rw [aexec_le ih (by omega) h3]; exact afinish_le ih (by omega) hx
      · rw [if_neg hf] at hx; cases hx
    | round l args =>
      unfold acallF at hx ⊢
      cases h1 : H[l]? with
      | none => rw [h1] at hx; cases hx
      | some o =>
        rw [h1] at hx
        split at hx
        · rename_i p0 fn fr ps a b d e
          cases e
          split at hx
          · rename_i hlen
            rw [if_pos hlen]
            cases h3 : aexec cx (acallF cx k) k fn (some l) a ⟨(ps.zip args).reverse ++ fr, [], H⟩ with
            | none => rw [h3] at hx; cases hx
            | some p =>
              obtain ⟨e, st1⟩ := p
              rw [h3] at hx
              rw [aexec_le ih (by omega) h3]
              cases e with
              | nrm =>
                dsimp only at hx ⊢
                cases h4 : st1.H[l]? with
                | none => rw [h4] at hx; cases hx
                | some o =>
                  rw [h4] at hx
                  split at hx
                  · rename_i p' fn' fr' ps' a' b' d' e
                    cases e
                    cases h5 : aexec cx (acallF cx k) k fn (some l) b { st1 with H := st1.H.set l (.loop .busy p' fn' fr' ps' a' b' d') } with
                    | none => rw [h5] at hx; cases hx
                    | some q => rw [h5] at hx; rw [aexec_le ih (by omega) h5]; exact hx
                  · cases hx
              | exit i => cases hx
              | ret => cases hx
              | pan d => cases hx
          · cases hx
        · cases hx
theorem PF.of_run {f : FuncId} {ds : List Imm} {k : Nat} {d : Imm} {H : AHeap} (h : acallF cx k (.fn f (ds.map .im)) [] = some (.im d, H)) : PF cx f ds fun y => y = d :=
  ⟨_, _, ⟨k, fun _ hk => acallF_le hk _ _ _ h⟩, d, rfl, rfl⟩
end
end Go.Proofs.Ytnbbhbbhgcipjaa.Am
