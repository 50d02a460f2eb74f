/-
  A law that returns true in the machine: the shape of its statement.
-/
import Derived.Test.YtnbbhbbhgcipjaaMl
import Derived.Test.YtnbbhbbhgcipjaaMFits
import Derived.Test.YtnbbhbbhgcipjaaMd
import Derived.WalkKit
import Derived.ProofKit
import Derived.JoinedCond
set_option linter.unusedVariables false
set_option linter.unnecessarySimpa false
set_option linter.unusedSimpArgs false
set_option linter.unusedSectionVars false
namespace Go.Proofs.Ytnbbhbbhgcipjaa.Am
open Go.ChangeShapes Go.WideShapes Go.ChangeAt Go.RowKit
section
variable {P : Program} {H : Type} {enc : TypeId × Value → H}
theorem trodAll_stays (hl : laidOutB P = true) {W W' : World} {sp' : Nat → Bool} : ∀ {ts : List TypeId} {vs : List Value} {ds : List (DataW H)} {ps : List MemPlace}, (∀ t ∈ ts, P.readableRec t = true ∧ t < P.types.size) →
    DataW.TrodAll enc P W 0 (fun _ => true) true ts vs ds ps → (∀ p ∈ ps, W.sameAt W' p) → (∀ p ∈ ps, sp' p.block = true) → DataW.TrodAll enc P W' 0 sp' true ts vs ds ps
  | [], [], [], _, _, h, _, _ => h
  | t :: ts, v :: vs, d :: ds, ps, ht, ⟨p, q, h1, h2, e⟩, hs, hb => by
    subst e
    refine ⟨p, q, Go.WideElems.Trod_stays hl (ht t (by simp)).1 (ht t (by simp)).2 h1 (fun x hx => hs x (by simp [hx])) (fun x hx => hb x (by simp [hx])), ?_, rfl⟩
    exact trodAll_stays hl (fun u hu => ht u (by simp [hu])) h2 (fun x hx => hs x (by simp [hx])) (fun x hx => hb x (by simp [hx]))
  | [], _ :: _, _, _, _, h, _, _ => h.elim
  | [], [], _ :: _, _, _, h, _, _ => h.elim
  | _ :: _, [], _, _, _, h, _, _ => h.elim
  | _ :: _, _ :: _, [], _, _, h, _, _ => h.elim
theorem post_of_says {f : Func} {s : ChangeSpec} {W W' : World} {args : Array Value} {ds gs : List (DataW H)} {before : List MemPlace} {e : Ending} (hl : laidOutB P = true) (hv : s.vars = []) (hr : f.resultTypes = #[4]) (h4 : P.underlying 4 = some .bool)
    (hp : ∀ t ∈ f.params.toList, P.readableRec t = true ∧ t < P.types.size) (hfn : s.fn H ds = { results := [.lit (.bool true)], args := ds })
    (hW : DataW.Whole enc P f.params.toList s.vars false W args.toList ds gs before) (hs : Says (.b true) W e W') : ∃ v, e = .returned v ∧ s.post enc P f false true false false W args v W' := by
  obtain ⟨cv, rfl, hcv, hheap, hsz, hos, _, hout⟩ := hs
  have hcv : cv = .bool true := hcv
  subst hcv
  have hW' := hW
  have hlt := hW.lt
  obtain ⟨p, q, hA, hV, rfl, hfz, hnd⟩ := hW
  rw [hv] at hV
  obtain ⟨rfl, rfl⟩ := trodVars_none hV
  have hsame : ∀ x ∈ p, W.sameAt W' x := fun x hx => by
    have hb := hheap x.block (hlt x (by simp [hx]))
    cases x with
    | cell b o => exact cell_same hb
    | map b => exact hb
  refine ⟨_, rfl, ds, [], p ++ [], [], p, [], hW', ?_, ?_, ?_, ?_, fun h => by cases h⟩
  · rw [List.append_nil, hfn, hr]
    exact trodAll_cons_mk (shut_bool h4 _) trodAll_mk0
  · rw [List.append_nil, hfn]
    exact trodAll_stays hl hp hA hsame fun x hx => by simpa using hlt x (by simp [hx])
  · rw [hv, List.append_nil, hfn]; rfl
  · refine ⟨hos, hout, fun i hi => ?_⟩
    rw [hheap i hi]
    cases W.heap[i]? with
    | none => rfl
    | some o => cases o <;> simp
theorem okWide_agg {t : TypeId} {L : List (TypeId × Nat)} (ht : flds P t = some L) {W : World} {r : Reach} {b0 : Nat} {v : Value} (h : Value.okWide P W r b0 t v) : ∃ cs, v = .agg cs := by
  unfold flds at ht
  split at ht
  · rename_i fs hfs
    unfold Value.okWide at h
    rw [hfs] at h
    obtain ⟨cs, rfl, _⟩ := h
    exact ⟨cs, rfl⟩
  · cases ht
theorem okWide_sl {t u : TypeId} (ht : P.underlying t = some (.slice u)) {W : World} {r : Reach} {b0 : Nat} {v : Value} (h : Value.okWide P W r b0 t v) : v.cells = #[v] := by
  unfold Value.okWide at h
  rw [ht] at h
  unfold Cell.okWide at h
  rw [ht] at h
  unfold Cell.ok at h
  rw [ht] at h
  cases v <;> first | rfl | (exfalso; simp at h)
theorem okWide_s {t : TypeId} (ht : P.underlying t = some .string) {W : World} {r : Reach} {b0 : Nat} {v : Value} (h : Value.okWide P W r b0 t v) : v.cells = #[v] := by
  unfold Value.okWide at h
  rw [ht] at h
  unfold Cell.okWide at h
  rw [ht] at h
  unfold Cell.ok at h
  rw [ht] at h
  cases v <;> first | rfl | (exfalso; simp at h)
theorem arg_agg {t : TypeId} {L : List (TypeId × Nat)} (ht : flds P t = some L) {W : World} {r : Reach} {b0 : Nat} {v : Value} {d : DataW H} {ps : List MemPlace} (hval : Value.okWide P W r b0 t v) (hd : DataW.Trod enc P W 0 (fun _ => true) true t v d ps)
    {α : Type} {R : α → List Imm → Prop} {mu : α → Nat} (hR : ∀ fuel, Rds enc P W fuel t R mu) (hb : Rows.uptoBulk d ≤ 1048576) : ∃ a is, RepI W No No (.agg is) v ∧ R a is ∧ mu a ≤ Rows.uptoBulk d := by
  obtain ⟨cs, rfl⟩ := okWide_agg ht hval
  obtain ⟨fuel, hf⟩ := hd
  obtain ⟨a, is, ⟨h1, h2⟩, h3, h4⟩ := hR fuel _ _ hf hb
  exact ⟨a, is, ⟨cs, rfl, h1, h2⟩, h3, h4⟩
theorem arg_one {t : TypeId} {W : World} {v : Value} {d : DataW H} {ps : List MemPlace} (hv : v.cells = #[v]) (hd : DataW.Trod enc P W 0 (fun _ => true) true t v d ps)
    {α : Type} {R : α → List Imm → Prop} {mu : α → Nat} (hR : ∀ fuel, Rds enc P W fuel t R mu) (hb : Rows.uptoBulk d ≤ 1048576) : ∃ a i, RepI W No No i v ∧ R a [i] ∧ mu a ≤ Rows.uptoBulk d := by
  obtain ⟨fuel, hf⟩ := hd
  obtain ⟨a, is, ⟨h1, h2⟩, h3, h4⟩ := hR fuel _ _ hf hb
  rw [hv] at h1
  rcases is with _ | ⟨i, _ | ⟨j, is⟩⟩
  · cases h1
  · obtain ⟨v', vs, e, hv', e2⟩ := h1
    cases e
    exact ⟨a, i, hv', h3, h4⟩
  · obtain ⟨v', vs, e, hv', v2, vs2, e2, _⟩ := h1
    cases e; cases e2
end
theorem laid : laidOutB Try.prog = true := by kernel_rfl
theorem own3 : ownKnob Try.prog.godebug = none := by kernel_rfl
def term0 : Value := .agg #[.int .i64 0, .int .i64 0, .string ByteArray.empty, .slice none 0 0, .slice none 0 0]
def term0D {H : Type} : DataW H := .agg [.lit (.int .i64 0), .lit (.int .i64 0), .lit (.string []), .nil, .nil]
end Go.Proofs.Ytnbbhbbhgcipjaa.Am
