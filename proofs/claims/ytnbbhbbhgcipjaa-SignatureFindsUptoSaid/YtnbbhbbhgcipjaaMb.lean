/-
  Each operation of the abstract machine answers for the model's.
  Each operation of the abstract machine answers for the model's: addresses, parts, aggregates.
  Each operation of the abstract machine answers for the model's: slices, what is built, what is new.
  Each operation of the abstract machine answers for the model's: new objects, maps, the builtins.
  Each operation of the abstract machine answers for the model's: maps and builtins.
  Each operation of the abstract machine answers for the model's: append, make, len, clear.
  Each operation of the abstract machine answers for the model's: make, len, clear and the small ones.
  One operation of the abstract machine answers for the model's.
-/
import Derived.Test.YtnbbhbbhgcipjaaMa
import Derived.Great.FillDense
import Derived.Laws.Slices
import Derived.Laws.AppendOwn
import Derived.Laws.MakeOwn
set_option linter.unusedVariables false
set_option linter.unnecessarySimpa false
set_option linter.unusedSimpArgs false
set_option linter.unusedSectionVars false
namespace Go.Proofs.Ytnbbhbbhgcipjaa.Am
variable [LFit]
section
variable {P : Program} {X B : Nat → Prop} {ρ : List (Option Nat)} {w : World} {H : AHeap}

/-- The value v in the heap H', by what s yields. -/
def VOk (P : Program) (X B : Nat → Prop) (ρ : List (Option Nat)) (w : World) (H : AHeap) (v : AV) (H' : AHeap) (s : Sem Value) : Prop :=
  ∃ cv w' ρ', s.run P w = .ok cv w' ∧ Evo ρ w H ρ' w' H' ∧ HRel X B ρ' w' H' ∧ RepA w' ρ' H' (Nof ρ' H' X B) (Nqof ρ' H' X) v cv
def UOk (P : Program) (X B : Nat → Prop) (ρ : List (Option Nat)) (w : World) (H : AHeap) (H' : AHeap) (s : Sem Unit) : Prop :=
  ∃ w' ρ', s.run P w = .ok () w' ∧ Evo ρ w H ρ' w' H' ∧ HRel X B ρ' w' H'

/-- What 'v' stands for here. -/
def Rp (X B : Nat → Prop) (ρ : List (Option Nat)) (w : World) (H : AHeap) (v : AV) (cv : Value) : Prop := RepA w ρ H (Nof ρ H X B) (Nqof ρ H X) v cv

theorem VOk.pure (R : HRel X B ρ w H) {v : AV} {cv : Value} {s : Sem Value} (h : s.run P w = .ok cv w) (hr : Rp X B ρ w H v cv) : VOk P X B ρ w H v H s :=
  ⟨cv, w, ρ, h, Evo.refl ρ w H, R, hr⟩

theorem ev_rep {N Nq : Nat → Prop} {fr : Fr} {a : Act} (h : RepFr w ρ H N Nq fr a.tmps) (x : Operand) : RepA w ρ H N Nq (ev fr x) (a.eval x) := by
  cases x with
  | tmp t => exact h t
  | const v =>
    show RepA w ρ H N Nq (constAV v) v
    unfold constAV
    cases hv : Imm.ofVal v with
    | none => trivial
    | some d => exact ofVal_rep hv
  | global g => trivial
  | func f => exact ⟨#[], rfl, rfl⟩

/-! ### Loads -/
theorem RepO.row {N Nq : Nat → Prop} {l : Nat} {es : List (List AV)} {z : Nat} {t : TypeId} (h : RepO w ρ H N Nq l (.row es z t)) {b : Nat} (hb : look ρ l = some b) :
    ∃ arr, w.heap[b]? = some (.cells arr t (0, 0)) ∧ es.length * z ≤ arr.size ∧ (∀ (j : Nat) (e : List AV), es[j]? = some e → e.length = z) ∧
      ∀ (j : Nat) (e : List AV), es[j]? = some e → Stretch w ρ H N Nq b (j * z) e := by
  rcases h with h | ⟨b', arr, h1, h2, h3, h4, h5⟩
  · rw [h] at hb; cases hb
  · rw [h1] at hb; cases hb
    refine ⟨arr, h2, h3, h4, fun j e hj m c hm => ?_⟩
    obtain ⟨u, hu, h6, h7⟩ := h5 j e m c hj hm
    refine ⟨u, ?_, h6, h7⟩
    simp only [World.cell?, h2]
    simpa using hu
theorem rdr_row {l st : Nat} {es : List (List AV)} {z : Nat} (h : rdr H l st = some (es, z)) : ∃ t, H[l]? = some (.row es z t) ∧ es.length = st := by
  unfold rdr at h
  split at h
  · rename_i es' z' t ho
    split at h
    · rename_i hl; cases h; exact ⟨t, ho, hl⟩
    · cases h
  · cases h
theorem aload_ok (R : HRel X B ρ w H) {t : TypeId} {a v : AV} {ca : Value} (h : aload P t H a = some v) (ha : Rp X B ρ w H a ca) :
    ∃ cv, (Instr.loadAt t ca).run P w = .ok cv w ∧ Rp X B ρ w H v cv := by
  unfold aload at h
  split at h
  · rename_i z q es j off
    obtain ⟨b, o, rfl, _, hrow⟩ := ha
    simp only [Option.bind_eq_bind, Option.bind_eq_some_iff] at h
    obtain ⟨cs, hcs, ag, hag, h⟩ := h
    obtain ⟨hz, hcells⟩ := RepRows.get hrow hcs
    have hst := Stretch.of_cells (ρ := ρ) (H := H) hcells
    have e0 : (Instr.loadAt t (.pointer (some ⟨b, o + j * z + off, none⟩))).run P w = (loadVar t ⟨b, o + j * z + off, none⟩).run P w := rfl
    rw [e0]
    cases ag
    · simp only [Bool.false_eq_true, if_false, Option.map_eq_some_iff] at h
      obtain ⟨c, hc, rfl⟩ := h
      obtain ⟨u, hu, hr, _⟩ := run_loadVar_one hag hst (c := .im c) (off := off) (by simp [hc])
      exact ⟨u, hu, hr⟩
    · simp only [if_true, Option.bind_eq_some_iff, Option.map_eq_some_iff] at h
      obtain ⟨sz, hsz, x, hx, rfl⟩ := h
      obtain ⟨u, hu, hr⟩ := run_loadVar_agg hsz hag hst (sub_map AV.im hx)
      rw [mkAgg_map] at hr
      exact ⟨u, hu, hr⟩
  · rename_i l st j off
    simp only [Option.bind_eq_bind, Option.bind_eq_some_iff] at h
    obtain ⟨⟨es, z⟩, hr, cs, hcs, ag, hag, h⟩ := h
    obtain ⟨t', ho, hl⟩ := rdr_row hr
    obtain ⟨_, _, hp⟩ := ha
    obtain ⟨_, hp⟩ := hp es z t' ho
    obtain ⟨b, hb, rfl⟩ := hp hl
    obtain ⟨arr, _, _, _, hs⟩ := (R.obj l _ ho).row hb
    have hst := hs j cs hcs
    have e0 : (Instr.loadAt t (.pointer (some ⟨b, j * z + off, none⟩))).run P w = (loadVar t ⟨b, j * z + off, none⟩).run P w := rfl
    rw [e0]
    cases ag
    · simp only [Bool.false_eq_true, if_false] at h
      obtain ⟨u, hu, hr, _⟩ := run_loadVar_one hag hst h
      exact ⟨u, hu, hr⟩
    · simp only [if_true, Option.bind_eq_some_iff, Option.map_eq_some_iff] at h
      obtain ⟨sz, hsz, x, hx, rfl⟩ := h
      exact run_loadVar_agg hsz hag hst hx
  · cases h

/-! ### Stores -/
theorem setRow_is {b : Nat} {cur arr : Array Value} {t : TypeId} (h : w.heap[b]? = some (.cells cur t (0, 0))) : HeapIs w (w.setRow b arr) (w.heap.setIfInBounds b (.cells arr t (0, 0))) := by
  refine ⟨?_, rfl, rfl, rfl⟩
  apply Array.ext_getElem?
  intro i
  have hb : b < w.heap.size := (Array.getElem?_eq_some_iff.1 h).1
  by_cases e : i = b
  · subst e
    rw [setRow_heap w i cur arr t (0, 0) h]
    simp [hb]
  · rw [setRow_other w b i arr e, Array.getElem?_setIfInBounds_ne (Ne.symm e)]
theorem splice_length {α : Type} {cs : List α} {off : Nat} {vs : List α} (h : off + vs.length ≤ cs.length) : (splice cs off vs).length = cs.length := by
  unfold splice; simp; omega
theorem splice_get {α : Type} {cs : List α} {off : Nat} {vs : List α} (h : off + vs.length ≤ cs.length) (i : Nat) :
    (splice cs off vs)[i]? = if off ≤ i ∧ i < off + vs.length then vs[i - off]? else cs[i]? := by
  unfold splice
  by_cases h1 : i < off
  · rw [List.append_assoc, List.getElem?_append_left (by simp; omega), List.getElem?_take, if_pos h1, if_neg (by omega)]
  · by_cases h2 : i < off + vs.length
    · rw [List.append_assoc, List.getElem?_append_right (by simp; omega), List.getElem?_append_left (by simp; omega), if_pos (by omega)]
      simp; congr 1; omega
    · rw [List.getElem?_append_right (by simp; omega), if_neg (by omega), List.getElem?_drop]
      congr 1; simp; omega
theorem row_index {z n j m n' : Nat} (hm : m < z) (hj : j < n) (h : n * z ≤ n') : j * z + m < n' := by
  have : (j + 1) * z ≤ n * z := Nat.mul_le_mul_right _ hj
  rw [Nat.add_mul] at this; omega
theorem row_inj {z j m j' m' : Nat} (hm : m < z) (hm' : m' < z) (h : j * z + m = j' * z + m') : j = j' ∧ m = m' := by
  have h1 : (j * z + m) / z = j := by rw [Nat.mul_comm, Nat.mul_add_div (by omega), Nat.div_eq_of_lt hm, Nat.add_zero]
  have h2 : (j' * z + m') / z = j' := by rw [Nat.mul_comm, Nat.mul_add_div (by omega), Nat.div_eq_of_lt hm', Nat.add_zero]
  rw [h] at h1
  have : j = j' := h1.symm.trans h2
  subst this
  exact ⟨rfl, by omega⟩
/-- A row's cells turn in place. -/
theorem HRel.setRow (R : HRel X B ρ w H) {l b : Nat} {es es' : List (List AV)} {z : Nat} {t : TypeId} {arr arr' : Array Value} (ho : H[l]? = some (.row es z t)) (hb : look ρ l = some b)
    (ha : w.heap[b]? = some (.cells arr t (0, 0))) (hsz : arr'.size = arr.size) (hlen : es'.length = es.length) (hz : ∀ (j : Nat) (e : List AV), es'[j]? = some e → e.length = z)
    (hfit : es.length * z ≤ arr.size)
    (hc : ∀ (j : Nat) (e : List AV) (m : Nat) (c : AV), es'[j]? = some e → e[m]? = some c → ∃ u, arr'[j * z + m]? = some u ∧ u.oneCell' = true ∧ Rp X B ρ w H c u) :
    Evo ρ w H ρ (w.setRow b arr') (H.set l (.row es' z t)) ∧ HRel X B ρ (w.setRow b arr') (H.set l (.row es' z t)) := by
  have hw := setRow_is (arr := arr') ha
  have hbs : b < w.heap.size := (Array.getElem?_eq_some_iff.1 ha).1
  have he : OEvo ρ ρ w (w.setRow b arr') l (.row es z t) (.row es' z t) := ⟨es', rfl, by omega, fun _ => ⟨rfl, fun b' arr0 hb' ha' => by
    rw [hb] at hb'; cases hb'
    rw [ha] at ha'; cases ha'
    exact ⟨arr', hw.set_same hbs, hsz⟩⟩⟩
  -- first the step, then the reading of the new row in the new heap
  have hl : l < H.length := (List.getElem?_eq_some_iff.1 ho).1
  have E : Evo ρ w H ρ (w.setRow b arr') (H.set l (.row es' z t)) :=
    (R.put hw ho rfl hb (o' := .gone) trivial trivial).1 |> fun E0 =>
    { os := hw.os, tape := hw.tape, output := hw.output, size := E0.size, same := E0.same, len := by simp
      obj := fun l' o h => by
        by_cases e : l' = l
        · subst e; rw [ho] at h; cases h; exact ⟨.row es' z t, by simp [hl], he⟩
        · obtain ⟨o', h1, h2⟩ := E0.obj l' o h
          rw [List.getElem?_set_ne (Ne.symm e)] at h1
          exact ⟨o', by rw [List.getElem?_set_ne (Ne.symm e)]; exact h1, h2⟩
      fresh := fun b' hb' _ => by
        obtain ⟨l', o, h, hlv, hr⟩ := hb'
        by_cases e : l' = l
        · subst e; exact ⟨l', _, ho, rfl, hr⟩
        · rw [List.getElem?_set_ne (Ne.symm e)] at h; exact ⟨l', o, h, hlv, hr⟩ }
  refine R.put hw ho rfl hb he (.inr ⟨b, arr', hb, hw.set_same hbs, by rw [hlen, hsz]; exact hfit, hz, fun j e m c hj hm => ?_⟩)
  obtain ⟨u, h1, h2, h3⟩ := hc j e m c hj hm
  exact ⟨u, h1, h2, RepA.mono E (E.stay X B) _ _ h3⟩
theorem run_storeVar {t z : Nat} {v : Value} (hz : szOf P t = some z) (hv : v.cells.size = z) (a : Addr) : (storeVar t a v).run P w = (storeCells a v.cells.toList).run P w := by
  simp [storeVar, run_sizeOf hz, hv]
theorem astore_ok (R : HRel X B ρ w H) {t : TypeId} {a v : AV} {ca cv : Value} {H' : AHeap} (h : astore P t H a v = some H') (ha : Rp X B ρ w H a ca) (hv : Rp X B ρ w H v cv) :
    UOk P X B ρ w H H' (Instr.storeAt t ca cv) := by
  unfold astore at h
  split at h
  · rename_i l st j off
    split at h
    · rename_i es z e ho
      simp only [Option.bind_eq_bind, Option.bind_eq_some_iff] at h
      obtain ⟨cs, hcs, h⟩ := h
      split at h
      · rename_i hcond
        obtain ⟨hst, hsz, hfit, hstor⟩ := hcond
        cases h
        obtain ⟨_, _, hp⟩ := ha
        obtain ⟨_, hp⟩ := hp es z e ho
        obtain ⟨b, hb, rfl⟩ := hp hst
        obtain ⟨arr, harr, hes, hlen, hs⟩ := (R.obj l _ ho).row hb
        have hcl := hlen j cs hcs
        have hj : j < es.length := (List.getElem?_eq_some_iff.1 hcs).1
        obtain ⟨hcr, hone⟩ := cells_rep (a := v) hstor hv
        have hvl : cv.cells.toList.length = v.cells.length := (RepAL.length hcr).symm
        have hfit2 : j * z + off + v.cells.length ≤ arr.size := by
          have : (j + 1) * z ≤ es.length * z := Nat.mul_le_mul_right _ hj
          rw [Nat.add_mul] at this; omega
        have hrun := run_storeCells_at P b (j * z + off) e cv.cells.toList 0 arr w harr (by rw [hvl]; omega) hone
        simp only [Nat.add_zero] at hrun
        have hrs : (Instr.storeAt t (.pointer (some ⟨b, j * z + off, none⟩)) cv).run P w = .ok () (w.setRow b ((arr.toList.take (j * z + off) ++ cv.cells.toList ++ arr.toList.drop (j * z + off + cv.cells.toList.length)).toArray)) := by
          have : (Instr.storeAt t (.pointer (some ⟨b, j * z + off, none⟩)) cv).run P w = (storeVar t ⟨b, j * z + off, none⟩ cv).run P w := rfl
          rw [this, run_storeVar hsz (by rw [← Array.length_toList]; exact hvl), hrun]
        have hfit3 : j * z + off + cv.cells.toList.length ≤ arr.toList.length := by rw [hvl, Array.length_toList]; exact hfit2
        obtain ⟨E, R'⟩ := R.setRow (es' := es.set j (splice cs off v.cells)) ho hb harr (arr' := (splice arr.toList (j * z + off) cv.cells.toList).toArray)
          (by simp only [List.size_toArray, splice_length hfit3, Array.length_toList]) (by simp)
          (fun j' e' hj' => by
            by_cases ej : j' = j
            · subst ej
              simp [hj] at hj'; subst hj'
              rw [splice_length (by omega)]; exact hcl
            · rw [List.getElem?_set_ne (Ne.symm ej)] at hj'; exact hlen j' e' hj')
          hes
          (fun j' e' m c hj' hm => by
            have hget : ∀ i, (splice arr.toList (j * z + off) cv.cells.toList).toArray[i]? = if j * z + off ≤ i ∧ i < j * z + off + cv.cells.toList.length then cv.cells.toList[i - (j * z + off)]? else arr[i]? := by
              intro i; rw [List.getElem?_toArray, splice_get hfit3]; simp
            by_cases ej : j' = j
            · subst ej
              simp [hj] at hj'; subst hj'
              rw [splice_get (by omega)] at hm
              have hmz : m < z := by
                split at hm
                · have := (List.getElem?_eq_some_iff.1 hm).1; omega
                · have := (List.getElem?_eq_some_iff.1 hm).1; omega
              split at hm
              · rename_i hin
                obtain ⟨u, hu, hr⟩ := RepAL.get hcr hm
                refine ⟨u, ?_, hone u (List.mem_of_getElem? hu), hr⟩
                rw [hget, if_pos (by rw [hvl]; omega), ← hu]
                congr 1; omega
              · rename_i hout
                obtain ⟨u, hu, h1, hr⟩ := hs j' cs hcs m c hm
                refine ⟨u, ?_, h1, hr⟩
                rw [hget, if_neg (by rw [hvl]; omega)]
                simpa [World.cell?, harr] using hu
            · rw [List.getElem?_set_ne (Ne.symm ej)] at hj'
              obtain ⟨u, hu, h1, hr⟩ := hs j' e' hj' m c hm
              refine ⟨u, ?_, h1, hr⟩
              have hmz : m < z := by have := (List.getElem?_eq_some_iff.1 hm).1; have := hlen j' e' hj'; omega
              rw [hget, if_neg (fun hin => ?_)]
              · simpa [World.cell?, harr] using hu
              · obtain ⟨e1, _⟩ := row_inj (z := z) (j := j') (m := m) (j' := j) (m' := j' * z + m - j * z) hmz (by rw [hvl] at hin; omega) (by omega)
                exact ej e1)
        refine ⟨_, ρ, hrs, ?_, ?_⟩
        · exact E
        · exact R'
      · cases h
    · cases h
  · cases h

/-! ### Operations on values alone -/
theorem val?_run {α : Type} : ∀ {s : Sem α} {a : α}, Sem.val? P s = some a → ∀ w, s.run P w = .ok a w
  | .pure a, _, h, w => by cases h; rfl
  | .program k, _, h, w => val?_run (s := k P) h w
  | .mark _ k, _, h, w => val?_run (s := k) h w
  | .load .., _, h, _ | .store .., _, h, _ | .new .., _, h, _ | .shape .., _, h, _ | .freeze .., _, h, _ | .frozen .., _, h, _ | .getObj .., _, h, _ | .setObj .., _, h, _ | .choose .., _, h, _ | .sys .., _, h, _ | .halt _, _, h, _ => by cases h
theorem abin_ok {op : BinOp} {t : TypeId} {x y : Operand} {a b v : AV} {ca cb : Value} (h : abin P op t x y a b = some v) (ha : Rp X B ρ w H a ca) (hb : Rp X B ρ w H b cb) :
    ∃ cv, (do eqGuard op t x y ca cb; Go.binOp op t ca cb : Sem Value).run P w = .ok cv w ∧ Rp X B ρ w H v cv := by
  unfold abin at h
  split at h
  · rename_i a b
    split at h
    · rename_i va vb h1 h2
      simp only [Option.map_eq_some_iff, Option.bind_eq_some_iff] at h
      obtain ⟨d, ⟨c, hc, hd⟩, rfl⟩ := h
      have e1 : ca = va := val_rep h1 ha
      have e2 : cb = vb := val_rep h2 hb
      subst e1; subst e2
      exact ⟨c, val?_run hc w, ofScal_rep hd⟩
    · cases h
  · cases h
theorem ifc_eq {t tt : TypeId} {u : Value} {ms : Array (String × TypeId)} (h : P.underlying t = some (.interface ms)) : (Op.equal t (.iface tt u) .nilIface).run P w = .ok false w := by
  show (Op.equalIn (9999 + 1) t (.iface tt u) .nilIface).run P w = .ok false w
  rw [Op.equalIn.eq_def]
  simp [run_underlying h]
theorem aifc_ok {op : BinOp} {t : TypeId} {x y : Operand} {a b v : AV} {ca cb : Value} (ht : ∃ ms, P.underlying t = some (.interface ms)) (h : aifc op a b = some v) (ha : Rp X B ρ w H a ca) (hb : Rp X B ρ w H b cb) :
    ∃ cv, (do eqGuard op t x y ca cb; Go.binOp op t ca cb : Sem Value).run P w = .ok cv w ∧ Rp X B ρ w H v cv := by
  obtain ⟨ms, hms⟩ := ht
  unfold aifc at h
  split at h
  · cases h
    obtain ⟨u, rfl, _⟩ := ha
    have e : cb = .nilIface := hb
    subst e
    refine ⟨.bool false, ?_, rfl⟩
    show ((Op.equal t (.iface _ u) .nilIface) >>= fun b => (pure (.bool b) : Sem Value)).run P w = _
    rw [Sem.run_bind, ifc_eq hms]; rfl
  · cases h
    obtain ⟨u, rfl, _⟩ := ha
    have e : cb = .nilIface := hb
    subst e
    refine ⟨.bool true, ?_, rfl⟩
    show ((Op.equal t (.iface _ u) .nilIface) >>= fun b => (pure (.bool (!b)) : Sem Value)).run P w = _
    rw [Sem.run_bind, ifc_eq hms]; rfl
  · cases h
theorem aun_ok {op : UnOp} {a v : AV} {ca : Value} (h : aun P op a = some v) (ha : Rp X B ρ w H a ca) : ∃ cv, (Op.unary op ca).run P w = .ok cv w ∧ Rp X B ρ w H v cv := by
  unfold aun at h
  split at h
  · simp only [Option.map_eq_some_iff, Option.bind_eq_some_iff] at h
    obtain ⟨va, h1, d, ⟨c, hc, hd⟩, rfl⟩ := h
    have e1 : ca = va := val_rep h1 ha
    subst e1
    exact ⟨c, val?_run hc w, ofScal_rep hd⟩
  · cases h
theorem aconv_ok {s d : TypeId} {a v : AV} {ca : Value} (h : aconv P s d a = some v) (ha : Rp X B ρ w H a ca) : ∃ cv, (Go.convert s d ca).run P w = .ok cv w ∧ Rp X B ρ w H v cv := by
  unfold aconv at h
  split at h
  · simp only [Option.map_eq_some_iff, Option.bind_eq_some_iff] at h
    obtain ⟨va, h1, d, ⟨c, hc, hd⟩, rfl⟩ := h
    have e1 : ca = va := val_rep h1 ha
    subst e1
    exact ⟨c, val?_run hc w, ofScal_rep hd⟩
  · cases h
theorem aint_ok {a : AV} {ca : Value} {n : Int} (h : aint a = some n) (ha : Rp X B ρ w H a ca) : ∃ k, ca = .int k n := by
  unfold aint at h
  split at h
  · cases h; exact ⟨_, ha⟩
  · cases h
theorem abool_ok {a : AV} {ca : Value} {t : Bool} (h : abool a = some t) (ha : Rp X B ρ w H a ca) : ca = .bool t := by
  unfold abool at h
  split at h
  · cases h; exact ha
  · cases h
end
end Go.Proofs.Ytnbbhbbhgcipjaa.Am

namespace Go.Proofs.Ytnbbhbbhgcipjaa.Am
variable [LFit]
section
variable {P : Program} {X B : Nat → Prop} {ρ : List (Option Nat)} {w : World} {H : AHeap}

theorem live_row {l st : Nat} (h : live H l st = true) : ∃ es z t, H[l]? = some (.row es z t) ∧ es.length = st ∧ rdr H l st = some (es, z) := by
  unfold live at h
  cases hr : rdr H l st with
  | none => rw [hr] at h; cases h
  | some x => obtain ⟨es, z⟩ := x; obtain ⟨t, h1, h2⟩ := rdr_row hr; exact ⟨es, z, t, h1, h2, rfl⟩
theorem ptr_at {N Nq : Nat → Prop} {l st j off : Nat} {ca : Value} {es : List (List AV)} {z : Nat} {t : TypeId} (ho : H[l]? = some (.row es z t)) (hst : es.length = st)
    (ha : RepA w ρ H N Nq (.ptr l st j off) ca) : ∃ b, look ρ l = some b ∧ ca = .pointer (some ⟨b, j * z + off, none⟩) := ((ha.2.2 es z t ho).2 hst)
theorem ptr_mk {N Nq : Nat → Prop} {l st j off b : Nat} {es : List (List AV)} {z : Nat} {t : TypeId} (ho : H[l]? = some (.row es z t)) (hst : es.length = st) (hb : look ρ l = some b) :
    RepA w ρ H N Nq (.ptr l st j off) (.pointer (some ⟨b, j * z + off, none⟩)) :=
  ⟨(List.getElem?_eq_some_iff.1 ho).1, rfl, fun es' z' t' h => by rw [ho] at h; cases h; exact ⟨by omega, fun _ => ⟨b, hb, rfl⟩⟩⟩

theorem afieldAddr_ok {t f : Nat} {a v : AV} {ca : Value} (h : afieldAddr P H t a f = some v) (ha : Rp X B ρ w H a ca) :
    ∃ cv, (Instr.fieldAt t ca f).run P w = .ok cv w ∧ Rp X B ρ w H v cv := by
  unfold afieldAddr at h
  simp only [Option.bind_eq_bind, Option.bind_eq_some_iff] at h
  obtain ⟨⟨o, u⟩, hf, n, hn, h⟩ := h
  split at h
  · cases h
  · rename_i hn0
    obtain ⟨fs, x, hu, hx, rfl, rfl⟩ := fldOf_under hf
    have hrun : ∀ b off, (Instr.fieldAt t (.pointer (some ⟨b, off, none⟩)) f).run P w = .ok (.pointer (some ⟨b, off + x.offset, none⟩)) w := by
      intro b off
      simp [Instr.fieldAt, run_underlying hu, hx, Instr.sureAddr, fieldPlace, run_sizeOf hn, hn0, add_none]
    split at h
    · rename_i l st j off
      split at h
      · rename_i hlv
        cases h
        obtain ⟨es, z, t', ho, hst, _⟩ := live_row hlv
        obtain ⟨b, hb, rfl⟩ := ptr_at ho hst ha
        refine ⟨_, hrun b _, ?_⟩
        rw [Nat.add_assoc]
        exact ptr_mk ho hst hb
      · cases h
    · rename_i z q es j off
      cases h
      obtain ⟨b, o, rfl, hb, hrow⟩ := ha
      exact ⟨_, hrun b _, b, o, by rw [Nat.add_assoc], hb, hrow⟩
    · cases h

theorem stretch_part {N Nq : Nat → Prop} {u o sz : Nat} {cs x : List AV} {arr : Array Value} (hz : szOf P u = some sz) (ha : isAg P u = some true) (h : RepAL w ρ H N Nq cs arr.toList) (h1 : ∀ x ∈ arr.toList, x.oneCell' = true)
    (hx : sub cs o sz = some x) : ∃ cv, (part u arr o).run P w = .ok cv w ∧ RepA w ρ H N Nq (mkAgg x) cv := by
  obtain ⟨hl, hg⟩ := sub_get hx
  have hcl := h.length
  have hle : o + sz ≤ cs.length := by
    unfold sub at hx
    split at hx
    · assumption
    · cases hx
  have hext : (arr.extract o (o + sz)).toList = (arr.toList.drop o).take sz := by simp
  have hlen : (arr.extract o (o + sz)).toList.length = sz := by rw [hext]; simp only [List.length_take, List.length_drop]; omega
  refine ⟨.agg (arr.extract o (o + sz)), by simp [Go.part, run_isAgg ha, run_sizeOf hz], mkAgg_rep (RepAL.of_get (by rw [hl, hlen]) fun i c v hc hv => ?_) fun y hy => ?_⟩
  · obtain ⟨u', hu', hr⟩ := h.get (hg i c hc)
    have hi : i < sz := by have := (List.getElem?_eq_some_iff.1 hc).1; omega
    rw [hext, List.getElem?_take, if_pos hi, List.getElem?_drop, hu'] at hv
    cases hv
    exact hr
  · refine h1 y ?_
    rw [hext] at hy
    exact List.mem_of_mem_drop (List.mem_of_mem_take hy)
theorem part_one {N Nq : Nat → Prop} {u o : Nat} {cs : List AV} {c : AV} {arr : Array Value} (ha : isAg P u = some false) (h : RepAL w ρ H N Nq cs arr.toList) (hc : cs[o]? = some c) :
    ∃ cv, (part u arr o).run P w = .ok cv w ∧ RepA w ρ H N Nq c cv := by
  obtain ⟨v, hv, hr⟩ := h.get hc
  have hv' : arr[o]? = some v := by simpa using hv
  exact ⟨v, by simp [Go.part, run_isAgg ha, hv'], hr⟩
theorem afield_ok {t f : Nat} {a v : AV} {ca : Value} (h : afield P t a f = some v) (ha : Rp X B ρ w H a ca) :
    ∃ cv, (Instr.field t ca f).run P w = .ok cv w ∧ Rp X B ρ w H v cv := by
  unfold afield at h
  simp only [Option.bind_eq_bind, Option.bind_eq_some_iff] at h
  obtain ⟨⟨o, u⟩, hf, ag, hag, sz, hsz, h⟩ := h
  obtain ⟨fs, x, hu, hx, rfl, rfl⟩ := fldOf_under hf
  have hrun : ∀ arr, (Instr.field t (.agg arr) f).run P w = (part x.type arr x.offset).run P w := by
    intro arr
    simp [Instr.field, run_underlying hu, hx, asAgg]
  split at h
  · rename_i cs
    obtain ⟨l, rfl, hl, h1⟩ := ha
    have hl' := (RepAL.im (ρ := ρ) (H := H)).2 hl
    rw [hrun]
    cases ag
    · simp only [Bool.false_eq_true, if_false, Option.map_eq_some_iff] at h
      obtain ⟨c, hc, rfl⟩ := h
      exact part_one hag hl' (by simp [hc])
    · simp only [if_true, Option.map_eq_some_iff] at h
      obtain ⟨y, hy, rfl⟩ := h
      obtain ⟨cv, h2, h3⟩ := stretch_part (P := P) hsz hag hl' h1 (sub_map AV.im hy)
      rw [mkAgg_map] at h3
      exact ⟨cv, h2, h3⟩
  · rename_i cs
    obtain ⟨l, rfl, hl, h1⟩ := ha
    rw [hrun]
    cases ag
    · exact part_one hag hl h
    · simp only [if_true, Option.map_eq_some_iff] at h
      obtain ⟨y, hy, rfl⟩ := h
      exact stretch_part (P := P) hsz hag hl h1 hy
  · cases h

theorem aindexAddr_ok {t : Nat} {a ix v : AV} {ca ci : Value} (h : aindexAddr P H t a ix = some v) (ha : Rp X B ρ w H a ca) (hi : Rp X B ρ w H ix ci) :
    ∃ cv, (Instr.indexAt t ca ci).run P w = .ok cv w ∧ Rp X B ρ w H v cv := by
  unfold aindexAddr at h
  simp only [Option.bind_eq_bind, Option.bind_eq_some_iff] at h
  obtain ⟨i, hii, h⟩ := h
  obtain ⟨k, rfl⟩ := aint_ok hii hi
  split at h
  · rename_i e hu
    split at h
    · rename_i z q tight es
      split at h
      · rename_i hc
        obtain ⟨h0, hlt, hz⟩ := hc
        cases h
        obtain ⟨c, h1, _, h2⟩ := ha
        rcases h2 with ⟨_, he, _⟩ | ⟨b, o, sp, rfl, hb, hrow⟩
        · subst he; simp at hlt
        · obtain ⟨hsp, hb2⟩ := hb (by intro e; subst e; simp at hlt)
          subst hsp
          refine ⟨.pointer (some ⟨b, o + i.toNat * z + 0, none⟩), ?_, b, o, rfl, hb2, hrow⟩
          have h2 : i < (es.length : Int) := by omega
          simp [Instr.indexAt, asIntOf, run_underlying hu, h0, h2, run_sizeOf hz, add_none]
      · cases h
    · rename_i l st j n
      split at h
      · rename_i hc
        obtain ⟨h0, hlt, hlv, hz⟩ := hc
        cases h
        obtain ⟨es, z, t', ho, hst, hr⟩ := live_row hlv
        rw [hr] at hz
        rcases (ha.2.2 es z t' ho).2 hst with ⟨_, _, hn⟩ | ⟨hn, _⟩ | ⟨b, c, arr, hb, rfl, hnc, harr, hsz⟩
        · omega
        · omega
        · refine ⟨.pointer (some ⟨b, (j + i.toNat) * z + 0, none⟩), ?_, ptr_mk ho hst hb⟩
          have h2 : i < (n : Int) := by omega
          simp [Instr.indexAt, asIntOf, run_underlying hu, h0, h2, run_sizeOf (show szOf P e = some z from hz.symm), add_none, Nat.add_mul]
      · cases h
    · cases h
  · rename_i len e hu
    simp only [Option.bind_eq_some_iff] at h
    obtain ⟨z, hz, h⟩ := h
    have hrun : ∀ b o, 0 ≤ i → i.toNat < len → (Instr.indexAt t (.pointer (some ⟨b, o, none⟩)) (.int k i)).run P w = .ok (.pointer (some ⟨b, o + i.toNat * z, none⟩)) w := by
      intro b o h0 hlt
      have h2 : i < (len : Int) := by omega
      simp [Instr.indexAt, asIntOf, run_underlying hu, Instr.sureAddr, h0, h2, run_sizeOf hz, add_none]
    split at h
    · rename_i z' q es j off
      split at h
      · rename_i hc
        cases h
        obtain ⟨b, o, rfl, hb, hrow⟩ := ha
        exact ⟨_, hrun b _ hc.1 hc.2, b, o, by rw [Nat.add_assoc], hb, hrow⟩
      · cases h
    · rename_i l st j off
      split at h
      · rename_i hc
        cases h
        obtain ⟨es, z', t', ho, hst, _⟩ := live_row hc.2.2
        obtain ⟨b, hb, rfl⟩ := ptr_at ho hst ha
        refine ⟨_, hrun b _ hc.1 hc.2.1, ?_⟩
        rw [Nat.add_assoc]
        exact ptr_mk ho hst hb
      · cases h
    · cases h
  · cases h
end
end Go.Proofs.Ytnbbhbbhgcipjaa.Am

namespace Go.Proofs.Ytnbbhbbhgcipjaa.Am
variable [LFit]
section
variable {P : Program} {X B : Nat → Prop} {ρ : List (Option Nat)} {w : World} {H : AHeap}

theorem aindex_ok {t : Nat} {a ix v : AV} {ca ci : Value} (h : aindex P t a ix = some v) (ha : Rp X B ρ w H a ca) (hi : Rp X B ρ w H ix ci) :
    ∃ cv, (Instr.index t ca ci).run P w = .ok cv w ∧ Rp X B ρ w H v cv := by
  unfold aindex at h
  simp only [Option.bind_eq_bind, Option.bind_eq_some_iff] at h
  obtain ⟨i, hii, h⟩ := h
  obtain ⟨k, rfl⟩ := aint_ok hii hi
  split at h
  · rename_i len e cs hu
    simp only [Option.bind_eq_some_iff] at h
    obtain ⟨z, hz, h⟩ := h
    split at h
    · rename_i hc
      obtain ⟨h0, hlt⟩ := hc
      simp only [Option.bind_eq_some_iff] at h
      obtain ⟨ag, hag, h⟩ := h
      obtain ⟨l, rfl, hl, h1⟩ := ha
      have hl' := (RepAL.im (ρ := ρ) (H := H)).2 hl
      have h2 : i < (len : Int) := by omega
      have hrun : (Instr.index t (.agg l) (.int k i)).run P w = (Go.part e l (i.toNat * z)).run P w := by
        simp [Instr.index, asIntOf, run_underlying hu, h0, h2, run_sizeOf hz]
      rw [hrun]
      cases ag
      · simp only [Bool.false_eq_true, if_false, Option.map_eq_some_iff] at h
        obtain ⟨c, hc, rfl⟩ := h
        exact part_one hag hl' (by simp [hc])
      · simp only [if_true, Option.map_eq_some_iff] at h
        obtain ⟨y, hy, rfl⟩ := h
        obtain ⟨cv, h3, h4⟩ := stretch_part (P := P) hz hag hl' h1 (sub_map AV.im hy)
        rw [mkAgg_map] at h4
        exact ⟨cv, h3, h4⟩
    · cases h
  · rename_i s hu
    have e : ca = .string s := ha
    subst e
    split at h
    · rename_i h0
      simp only [Option.map_eq_some_iff] at h
      obtain ⟨b, hb, rfl⟩ := h
      exact ⟨.int .u8 b.toNat, by simp [Instr.index, asIntOf, run_underlying hu, h0, hb], rfl⟩
    · cases h
  · cases h

/-! ### Slicing -/
/-- What a bound comes to. -/
theorem bnd_run {x : Option AV} {cx : Option Value} {d n : Nat} (h : bnd x d = some n) (hx : ∀ v, x = some v → ∃ cv, cx = some cv ∧ Rp X B ρ w H v cv) (hn : x = none → cx = none) :
    (cx = none ∧ n = d) ∨ ∃ k i, cx = some (.int k i) ∧ 0 ≤ i ∧ i.toNat = n := by
  unfold bnd at h
  split at h
  · cases h; exact .inl ⟨hn rfl, rfl⟩
  · rename_i v
    obtain ⟨cv, rfl, hr⟩ := hx v rfl
    simp only [Option.bind_eq_some_iff] at h
    obtain ⟨i, hi, h⟩ := h
    obtain ⟨k, rfl⟩ := aint_ok hi hr
    split at h
    · cases h; exact .inr ⟨k, i, rfl, by assumption, rfl⟩
    · cases h
theorem run_sliceBound {k : IntKind} {i : Int} {y : Nat} {code : BoundsCode} (h0 : 0 ≤ i) (h1 : i.toNat ≤ y) : (Instr.sliceBound (.int k i) y code).run P w = .ok i.toNat w := by
  have : i ≤ (y : Int) := by omega
  simp [Instr.sliceBound, asIntOf, h0, this]
theorem run_sliceBounds {isSl : Bool} {len cap l h : Nat} {lo hi : Option Value} (hh : (hi = none ∧ h = len) ∨ ∃ k i, hi = some (.int k i) ∧ 0 ≤ i ∧ i.toNat = h)
    (hl : (lo = none ∧ l = 0) ∨ ∃ k i, lo = some (.int k i) ∧ 0 ≤ i ∧ i.toNat = l) (h1 : h ≤ cap) (h2 : l ≤ h) : (Instr.sliceBounds isSl len cap lo hi none).run P w = .ok (l, h, cap) w := by
  rcases hh with ⟨rfl, rfl⟩ | ⟨k, i, rfl, h3, rfl⟩ <;> rcases hl with ⟨rfl, rfl⟩ | ⟨k', i', rfl, h3', rfl⟩
  · simp [Instr.sliceBounds]
  · simp [Instr.sliceBounds, run_sliceBound (P := P) (w := w) h3' h2]
  · simp [Instr.sliceBounds, run_sliceBound (P := P) (w := w) h3 h1]
  · simp [Instr.sliceBounds, run_sliceBound (P := P) (w := w) h3 h1, run_sliceBound (P := P) (w := w) h3' h2]
theorem run_sliceBounds3 {isSl : Bool} {len cap l h m : Nat} {lo hi : Option Value} {mk : IntKind} {mi : Int} (hm : 0 ≤ mi) (hmm : mi.toNat = m) (hh : ∃ k i, hi = some (.int k i) ∧ 0 ≤ i ∧ i.toNat = h)
    (hl : (lo = none ∧ l = 0) ∨ ∃ k i, lo = some (.int k i) ∧ 0 ≤ i ∧ i.toNat = l) (h0 : m ≤ cap) (h1 : h ≤ m) (h2 : l ≤ h) : (Instr.sliceBounds isSl len cap lo hi (some (.int mk mi))).run P w = .ok (l, h, m) w := by
  subst hmm
  obtain ⟨k, i, rfl, h3, rfl⟩ := hh
  rcases hl with ⟨rfl, rfl⟩ | ⟨k', i', rfl, h3', rfl⟩
  · simp [Instr.sliceBounds, run_sliceBound (P := P) (w := w) hm h0, run_sliceBound (P := P) (w := w) h3 h1]
  · simp [Instr.sliceBounds, run_sliceBound (P := P) (w := w) hm h0, run_sliceBound (P := P) (w := w) h3 h1, run_sliceBound (P := P) (w := w) h3' h2]
theorem rows_sub {N Nq : Nat → Prop} {b o z l n : Nat} {es : List (List Imm)} (h : RepRows w N Nq b o z es) : RepRows w N Nq b (o + l * z) z ((es.drop l).take n) :=
  RepRows.of_get fun j e hj => by
    rw [List.getElem?_take] at hj
    split at hj
    · rw [List.getElem?_drop] at hj
      obtain ⟨h1, h2⟩ := RepRows.get h hj
      refine ⟨h1, ?_⟩
      rw [Nat.add_mul] at h2
      rwa [Nat.add_assoc]
    · cases hj
/-- 'sliceAt' of what is no pointer to an array. -/
theorem sliceAt_eq {t : Nat} {x : Value} {lo hi mx : Option Value} {d : TypeDesc} (hu : P.underlying t = some d) (hd : ∀ n e, d ≠ .array n e) :
    (Instr.sliceAt t x lo hi mx).run P w = (Instr.slice t x lo hi mx).run P w := by
  unfold Instr.sliceAt
  rw [Sem.run_bind, run_underlying hu, Result.andThen_ok]
  split
  · exact absurd rfl (hd _ _)
  · rfl
theorem run_slice_sl {t e z len cap l h m : Nat} {a : Option Addr} {lo hi mx : Option Value} (hu : P.underlying t = some (.slice e)) (hz : szOf P e = some z)
    (hb : (Instr.sliceBounds true len cap lo hi mx).run P w = .ok (l, h, m) w) :
    (Instr.sliceAt t (.slice a len cap) lo hi mx).run P w = .ok (.slice (if m = l then a else a.map (·.add (l * z))) (h - l) (m - l)) w := by
  rw [sliceAt_eq hu (by simp)]
  simp [Instr.slice, run_underlying hu, hb, run_sizeOf hz]
theorem chunk_length {α : Type} (z : Nat) : ∀ (n : Nat) (l : List α), (chunk z n l).length = n
  | 0, _ => rfl
  | n + 1, l => by simp [chunk, chunk_length z n]
theorem cells_take {N Nq : Nat → Prop} {b : Nat} : ∀ {o : Nat} {l : List Imm} (n : Nat), RepCells w N Nq b o l → RepCells w N Nq b o (l.take n)
  | _, [], n, h => by simpa using h
  | _, _ :: _, 0, _ => trivial
  | o, c :: l, n + 1, h => ⟨h.1, cells_take n h.2⟩
theorem cells_drop {N Nq : Nat → Prop} {b : Nat} : ∀ {o : Nat} {l : List Imm} (n : Nat), RepCells w N Nq b o l → RepCells w N Nq b (o + n) (l.drop n)
  | _, [], n, h => by simp [RepCells]
  | _, _ :: _, 0, h => h
  | o, c :: l, n + 1, h => by
    have := cells_drop n h.2
    rw [List.drop_succ_cons, show o + (n + 1) = o + 1 + n by omega]; exact this
theorem chunk_rows {N Nq : Nat → Prop} {b z : Nat} : ∀ {n o : Nat} {l : List Imm}, l.length = n * z → RepCells w N Nq b o l → RepRows w N Nq b o z (chunk z n l)
  | 0, _, _, _, _ => trivial
  | n + 1, o, l, hl, h => by
    have hz : z ≤ l.length := by rw [hl, Nat.add_mul, Nat.one_mul]; exact Nat.le_add_left _ _
    refine ⟨by rw [List.length_take]; omega, cells_take z h, chunk_rows ?_ (cells_drop z h)⟩
    rw [List.length_drop, hl, Nat.add_mul, Nat.one_mul]; omega
theorem aslice_ok {t : Nat} {x v : AV} {cx : Value} {lo hi mx : Option AV} {clo chi cmx : Option Value} (h : aslice P H t x lo hi mx = some v) (hx : Rp X B ρ w H x cx)
    (hlo : (∀ v, lo = some v → ∃ cv, clo = some cv ∧ Rp X B ρ w H v cv) ∧ (lo = none → clo = none)) (hhi : (∀ v, hi = some v → ∃ cv, chi = some cv ∧ Rp X B ρ w H v cv) ∧ (hi = none → chi = none))
    (hmx : (∀ v, mx = some v → ∃ cv, cmx = some cv ∧ Rp X B ρ w H v cv) ∧ (mx = none → cmx = none)) (hmh : cmx.isSome = true → chi.isSome = true) :
    ∃ cv, (Instr.sliceAt t cx clo chi cmx).run P w = .ok cv w ∧ Rp X B ρ w H v cv := by
  unfold aslice at h
  split at h
  · rename_i s hu
    have e : cx = .string s := hx
    subst e
    simp only [Option.bind_eq_bind, Option.bind_eq_some_iff] at h
    obtain ⟨hh, hhb, l, hl, h⟩ := h
    split at h
    · rename_i hc
      cases h
      have hm : cmx = none := hmx.2 (by cases mx <;> simp_all)
      subst hm
      refine ⟨.string (s.extract l hh), ?_, rfl⟩
      rw [sliceAt_eq hu (by simp)]
      have hb := run_sliceBounds (P := P) (w := w) (isSl := false) (len := s.size) (cap := s.size) (bnd_run hhb hhi.1 hhi.2) (bnd_run hl hlo.1 hlo.2) hc.2.1 hc.2.2
      simp [Instr.slice, run_underlying hu, hb]
    · cases h
  · rename_i e z q tight es hu
    simp only [Option.bind_eq_bind, Option.bind_eq_some_iff] at h
    obtain ⟨hh, hhb, l, hl, m, hm, z', hz', h⟩ := h
    split at h
    · rename_i hc
      obtain ⟨h1, h2, h3, h4⟩ := hc
      cases h
      subst h3
      obtain ⟨c, hle, htight, hrep⟩ := hx
      have hB := bnd_run hhb hhi.1 hhi.2
      have hL := bnd_run hl hlo.1 hlo.2
      have hM := bnd_run hm hmx.1 hmx.2
      -- the slice's own capacity, or the bound that is given
      obtain ⟨m', hrun, hm1, hmc, hm2⟩ : ∃ m', (Instr.sliceBounds true es.length c clo chi cmx).run P w = .ok (l, m, m') w ∧ m ≤ m' ∧ m' ≤ c ∧ ((mx.isSome || (tight && m == es.length)) = true → m' = m) := by
        rcases hM with ⟨e1, _⟩ | ⟨k, i, e1, h5, h6⟩
        · subst e1
          refine ⟨c, run_sliceBounds hB hL (by omega) h2, by omega, Nat.le_refl _, fun ht => ?_⟩
          cases mx with
          | some y => obtain ⟨cv, e2, _⟩ := hmx.1 y rfl; cases e2
          | none =>
            simp only [Option.isSome_none, Bool.false_or, Bool.and_eq_true, beq_iff_eq] at ht
            have := htight ht.1; omega
        · subst e1
          refine ⟨m, run_sliceBounds3 h5 h6 ?_ hL (by omega) (Nat.le_refl _) h2, Nat.le_refl _, by omega, fun _ => rfl⟩
          rcases hB with ⟨e2, _⟩ | hB
          · rw [e2] at hmh; simp at hmh
          · exact hB
      rcases hrep with ⟨rfl, rfl, rfl⟩ | ⟨b, o, sp, rfl, hb, hrow⟩
      · have e0 : m = 0 := by simpa using h1
        subst e0
        have e1 : l = 0 := by omega
        subst e1
        have e2 : m' = 0 := by omega
        subst e2
        exact ⟨_, run_slice_sl hu hz' hrun, 0, by simp, fun _ => by simp, .inl ⟨by simp, by simp, rfl⟩⟩
      · refine ⟨_, run_slice_sl hu hz' hrun, m' - l, ?_, fun ht => ?_, ?_⟩
        · simp; omega
        · have := hm2 ht; simp; omega
        · right
          have hlen : ((es.drop l).take (m - l)).length = m - l := by simp; omega
          by_cases hml : m' = l
          · refine ⟨b, o, sp, by rw [if_pos hml, hlen], fun hne => ?_, ?_⟩
            · exfalso; apply hne; apply List.eq_nil_of_length_eq_zero; omega
            · have : (es.drop l).take (m - l) = [] := List.eq_nil_of_length_eq_zero (by omega)
              rw [this]; trivial
          · by_cases hes : es = []
            · subst hes
              refine ⟨(Addr.add ⟨b, o, sp⟩ (l * z')).block, (Addr.add ⟨b, o, sp⟩ (l * z')).off, (Addr.add ⟨b, o, sp⟩ (l * z')).spot, by rw [if_neg hml, hlen]; simp, fun hne => by simp at hne, by simp [RepRows]⟩
            · have hz : z' = z := by
                rcases h4 with h4 | h4
                · exact h4
                · simp [hes] at h4
              subst hz
              obtain ⟨rfl, hb'⟩ := hb hes
              exact ⟨b, o + l * z', none, by rw [if_neg hml, hlen]; simp [add_none], fun _ => ⟨rfl, hb'⟩, rows_sub hrow⟩
    · cases h
  · rename_i e l0 st j n hu
    simp only [Option.bind_eq_bind, Option.bind_eq_some_iff] at h
    obtain ⟨hh, hhb, l, hl, h⟩ := h
    split at h
    · rename_i hc
      obtain ⟨h1, h2, hlv, hz0⟩ := hc
      obtain ⟨es, z, t', ho, hst, hr⟩ := live_row hlv
      rw [hr] at hz0
      have hz : szOf P e = some z := hz0.symm
      have hB := bnd_run hhb hhi.1 hhi.2
      have hL := bnd_run hl hlo.1 hlo.2
      have hlH : l0 < H.length := (List.getElem?_eq_some_iff.1 ho).1
      have mkC : ∀ {b c j' n' : Nat} {arr : Array Value}, look ρ l0 = some b → n' ≤ c → w.heap[b]? = some (.cells arr t' (0, 0)) → (j' + c) * z ≤ arr.size →
          Rp X B ρ w H (.sl l0 st j' n') (.slice (some ⟨b, j' * z, none⟩) n' c) := fun {b c j' n' arr} h1 h2 h3 h4 =>
        ⟨hlH, rfl, fun es' z' t'' h => by rw [ho] at h; cases h; exact ⟨by omega, fun _ => .inr (.inr ⟨b, c, arr, h1, rfl, h2, h3, h4⟩)⟩⟩
      split at h
      · cases h
        have hm : cmx = none := hmx.2 rfl
        subst hm
        rcases (hx.2.2 es z t' ho).2 hst with ⟨hn, rfl, rfl⟩ | ⟨rfl, hj, b, o, rfl⟩ | ⟨b, c, arr, hb, rfl, hnc, harr, hsz⟩
        · have e0 : hh = 0 := by omega
          subst e0
          have e1 : l = 0 := by omega
          subst e1
          refine ⟨_, run_slice_sl hu hz (run_sliceBounds hB hL (Nat.le_refl _) (Nat.le_refl _)), hlH, by simp [Value.oneCell'], fun es' z' t'' h => ?_⟩
          rw [ho] at h; cases h
          exact ⟨by omega, fun _ => .inl ⟨hn, by simp, by simp⟩⟩
        · have e0 : hh = 0 := by omega
          subst e0
          have e1 : l = 0 := by omega
          subst e1
          refine ⟨_, run_slice_sl hu hz (run_sliceBounds hB hL (Nat.le_refl _) (Nat.le_refl _)), hlH, by simp [Value.oneCell'], fun es' z' t'' h => ?_⟩
          rw [ho] at h; cases h
          exact ⟨by omega, fun _ => .inr (.inl ⟨by simp, by omega, b, o, by simp⟩)⟩
        · refine ⟨_, run_slice_sl hu hz (run_sliceBounds hB hL (by omega) h2), ?_⟩
          by_cases hcl : c = l
          · by_cases hl0 : l = 0
            · subst hl0
              subst hcl
              have e0 : hh = 0 := by omega
              subst e0
              rw [if_pos rfl]
              exact mkC hb (Nat.le_refl _) harr (by simpa using hsz)
            · rw [if_pos hcl]
              have e1 : hh - l = 0 := by omega
              have e2 : c - l = 0 := by omega
              rw [e1, e2]
              refine ⟨hlH, by simp [Value.oneCell'], fun es' z' t'' h => ?_⟩
              rw [ho] at h; cases h
              exact ⟨by omega, fun _ => .inr (.inl ⟨rfl, by omega, b, j * z, rfl⟩)⟩
          · rw [if_neg hcl]
            simp only [Option.map_some, add_none]
            rw [← Nat.add_mul]
            exact mkC hb (by omega) harr (by rw [show j + l + (c - l) = j + c by omega]; exact hsz)
      · rename_i m
        split at h
        · rename_i hm0
          simp only [Option.map_eq_some_iff] at h
          obtain ⟨z2, hz2, rfl⟩ := h
          obtain ⟨cm, e1, hcm⟩ := hmx.1 m rfl
          obtain ⟨k, rfl⟩ := aint_ok hm0.1 hcm
          subst e1
          have hH : ∃ k i, chi = some (.int k i) ∧ 0 ≤ i ∧ i.toNat = hh := by
            rcases hB with ⟨e2, _⟩ | hB
            · rw [e2] at hmh; simp at hmh
            · exact hB
          have e0 : hh = 0 := hm0.2
          subst e0
          have e1 : l = 0 := by omega
          subst e1
          have hfin : ∀ (a : Option Addr) (len cap : Nat), cx = .slice a len cap → (a = none ∨ ∃ b o, a = some ⟨b, o, none⟩) → ∃ cv, (Instr.sliceAt t cx clo chi (some (.int k 0))).run P w = .ok cv w ∧ Rp X B ρ w H (.im (.sl z2 false true [])) cv := by
            intro a len cap e ha
            subst e
            refine ⟨_, run_slice_sl hu hz (run_sliceBounds3 (by omega) rfl hH hL (by simp) (Nat.le_refl _) (Nat.le_refl _)), 0, by simp, fun _ => by simp, ?_⟩
            rcases ha with rfl | ⟨b, o, rfl⟩
            · left; simp
            · right; exact ⟨b, o, none, by simp, fun h => absurd rfl h, trivial⟩
          rcases (hx.2.2 es z t' ho).2 hst with ⟨hn, e, _⟩ | ⟨_, hj, b, o, e⟩ | ⟨b, c, arr, hb, e, hnc, harr, hsz⟩
          · exact hfin _ _ _ e (.inl rfl)
          · exact hfin _ _ _ e (.inr ⟨_, _, rfl⟩)
          · exact hfin _ _ _ e (.inr ⟨_, _, rfl⟩)
        · cases h
    · cases h
  · rename_i len e z0 q es j off hu
    simp only [Option.bind_eq_bind, Option.bind_eq_some_iff] at h
    obtain ⟨z, hz, cs, hcs, l, hl, h⟩ := h
    split at h
    · rename_i hc
      cases h
      have e1 : clo = none := hlo.2 (by cases lo <;> simp_all)
      have e2 : chi = none := hhi.2 (by cases hi <;> simp_all)
      have e3 : cmx = none := hmx.2 (by cases mx <;> simp_all)
      subst e1; subst e2; subst e3
      obtain ⟨b, o, rfl, hb, hrow⟩ := hx
      obtain ⟨_, hcells⟩ := RepRows.get hrow hcs
      have hl' : off + len * z ≤ cs.length ∧ l = (cs.drop off).take (len * z) := by
        unfold sub at hl
        split at hl
        · rename_i hle; simp only [Option.some.injEq] at hl; exact ⟨hle, hl.symm⟩
        · cases hl
      obtain ⟨hle, rfl⟩ := hl'
      have hrun : (Instr.sliceBounds false len len none none none).run P w = .ok (0, len, len) w := run_sliceBounds (.inl ⟨rfl, rfl⟩) (.inl ⟨rfl, rfl⟩) (Nat.le_refl _) (Nat.zero_le _)
      have hcl := chunk_length z len ((cs.drop off).take (len * z))
      refine ⟨.slice (some ⟨b, o + j * z0 + off, none⟩) len len, ?_, len, by omega, fun _ => by omega, .inr ⟨b, o + j * z0 + off, none, by rw [hcl], fun _ => ⟨rfl, hb⟩, ?_⟩⟩
      · unfold Instr.sliceAt
        simp [run_underlying hu, Instr.sureAddr, hrun, run_sizeOf hz, Addr.add]
      · exact chunk_rows (by rw [List.length_take, List.length_drop]; omega) (cells_take _ (cells_drop off hcells))
    · cases h
  · cases h

/-! ### What is built of parts -/
theorem foldl_splice {l : List Value} {off : Nat} {cs : Array Value} (h : off + l.length ≤ cs.size) :
    (l.zipIdx.foldl (fun cs (x : Value × Nat) => cs.setIfInBounds (off + x.2) x.1) cs) = (splice cs.toList off l).toArray := by
  obtain ⟨h1, h2⟩ := Great.foldl_set off l 0 cs
  apply Array.ext_getElem?
  intro k
  have e : (splice cs.toList off l).toArray[k]? = (splice cs.toList off l)[k]? := by simp
  rw [h2 k, e, splice_get (by simpa using h)]
  simp only [Nat.add_zero, Array.getElem?_toList]
  by_cases hk : off ≤ k ∧ k < off + l.length
  · rw [if_pos ⟨hk.1, hk.2, by omega⟩, if_pos hk]
  · rw [if_neg (fun h => hk ⟨h.1, h.2.1⟩), if_neg hk]
theorem splice_rep {N Nq : Nat → Prop} {cs vs : List AV} {l u : List Value} {off : Nat} (h : RepAL w ρ H N Nq cs l) (hv : RepAL w ρ H N Nq vs u) (hf : off + vs.length ≤ cs.length) :
    RepAL w ρ H N Nq (splice cs off vs) (splice l off u) := by
  have h1 := h.length
  have h2 := hv.length
  refine RepAL.of_get (by rw [splice_length hf, splice_length (by omega)]; exact h1) fun i c v hc hu => ?_
  rw [splice_get hf] at hc
  rw [splice_get (by omega)] at hu
  split at hc
  · rename_i hin
    rw [if_pos (by omega)] at hu
    obtain ⟨v', hv', hr⟩ := hv.get hc
    rw [hv'] at hu; cases hu; exact hr
  · rename_i hin
    rw [if_neg (by omega)] at hu
    obtain ⟨v', hv', hr⟩ := h.get hc
    rw [hv'] at hu; cases hu; exact hr
theorem splice_one {l u : List Value} {off : Nat} (h : ∀ x ∈ l, x.oneCell' = true) (h' : ∀ x ∈ u, x.oneCell' = true) : ∀ x ∈ splice l off u, x.oneCell' = true := by
  intro x hx
  unfold splice at hx
  simp only [List.mem_append] at hx
  rcases hx with (hx | hx) | hx
  · exact h x (List.mem_of_mem_take hx)
  · exact h' x hx
  · exact h x (List.mem_of_mem_drop hx)
/-- Parts, and what they stand for. -/
def PartsRep (X B : Nat → Prop) (ρ : List (Option Nat)) (w : World) (H : AHeap) : List (Nat × AV) → List (Nat × Value) → Prop
  | [], l => l = []
  | (i, a) :: ps, l => ∃ v vs, l = (i, v) :: vs ∧ Rp X B ρ w H a v ∧ PartsRep X B ρ w H ps vs
theorem PartsRep.of {fr : Fr} {a : Act} (hf : RepFr w ρ H (Nof ρ H X B) (Nqof ρ H X) fr a.tmps) : ∀ (ps : List (Nat × Operand)), PartsRep X B ρ w H (ps.map fun (i, x) => (i, ev fr x)) (ps.map fun (i, x) => (i, a.eval x))
  | [] => rfl
  | (i, x) :: ps => ⟨_, _, rfl, ev_rep hf x, PartsRep.of hf ps⟩
theorem fillA_ok {place : Nat → Option (Nat × Nat)} : ∀ {parts : List (Nat × AV)} {cparts : List (Nat × Value)} {cs r : List AV} {cells : Array Value}, fillA place cs parts = some r → PartsRep X B ρ w H parts cparts →
    RepAL w ρ H (Nof ρ H X B) (Nqof ρ H X) cs cells.toList → (∀ x ∈ cells.toList, x.oneCell' = true) →
    ∃ out, Instr.fill place cells cparts = some out ∧ RepAL w ρ H (Nof ρ H X B) (Nqof ρ H X) r out.toList ∧ ∀ x ∈ out.toList, x.oneCell' = true
  | [], _, cs, r, cells, h, hp, hr, h1 => by
    cases h
    have e : _ = [] := hp
    subst e
    exact ⟨cells, rfl, hr, h1⟩
  | (_, a) :: parts, _, cs, r, cells, h, hp, hr, h1 => by
    obtain ⟨v, vs, rfl, hv, hp⟩ := hp
    unfold fillA at h
    split at h
    · cases h
    · rename_i off size hpl
      dsimp only at h
      split at h
      · cases h
      · rename_i hc
        simp only [ne_eq, gt_iff_lt, Bool.not_eq_true', not_or, Decidable.not_not, Nat.not_lt, Bool.not_eq_false] at hc
        obtain ⟨hc1, hc2, hc3⟩ := hc
        obtain ⟨hcr, hone⟩ := cells_rep hc3 hv
        have hvl : v.cells.size = size := by rw [← Array.length_toList, ← hcr.length]; exact hc1
        have hcl : cs.length = cells.size := by rw [← Array.length_toList, ← hr.length]
        have hfit : off + v.cells.toList.length ≤ cells.size := by rw [Array.length_toList, hvl]; omega
        have hsp := splice_rep hr hcr (by omega : off + a.cells.length ≤ cs.length)
        obtain ⟨out, ho1, ho2, ho3⟩ := fillA_ok (cells := (splice cells.toList off v.cells.toList).toArray) h hp (by simpa using hsp) (by simpa using splice_one h1 hone)
        refine ⟨out, ?_, ho2, ho3⟩
        unfold Instr.fill
        simp only [hpl]
        rw [if_neg (by simp; omega), ← foldl_splice hfit] at *
        rw [← ho1]
        congr 1
        rw [← Array.foldl_toList, Array.toList_zipIdx]
theorem imm_cells_rep {N Nq : Nat → Prop} {z : Value} {d : Imm} (h : Imm.ofVal z = some d) : RepAL w ρ H N Nq (d.cells.map .im) z.cells.toList ∧ ∀ x ∈ z.cells.toList, x.oneCell' = true := by
  have hr : RepI w N Nq d z := ofVal_rep h
  unfold Imm.ofVal at h
  split at h
  · rename_i cs
    simp only [Option.map_eq_some_iff] at h
    obtain ⟨ds, hds, rfl⟩ := h
    obtain ⟨l, e, hl, h1⟩ := hr
    cases e
    exact ⟨RepAL.im.2 hl, h1⟩
  · have h1 := ofScal_one h
    have e1 : z.cells = #[z] := by cases z <;> first | rfl | simp [Value.oneCell'] at h1
    have e2 : d.cells = [d] := by
      unfold Imm.ofScal at h
      split at h <;> cases h <;> rfl
    rw [e1, e2]
    exact ⟨⟨z, [], rfl, hr, rfl⟩, by simpa using h1⟩
theorem abuild_ok {t : Nat} {parts : List (Nat × AV)} {cparts : Array (Nat × Value)} {v : AV} (h : abuild P t parts = some v) (hp : PartsRep X B ρ w H parts cparts.toList) :
    ∃ cv, (Instr.build t cparts).run P w = .ok cv w ∧ Rp X B ρ w H v cv := by
  unfold abuild at h
  simp only [Option.bind_eq_bind, Option.bind_eq_some_iff] at h
  obtain ⟨d, hd, h⟩ := h
  obtain ⟨i, z, hi, hz, hv⟩ := zeroImm_info hd
  obtain ⟨hzr, hz1⟩ := imm_cells_rep (w := w) (ρ := ρ) (H := H) (N := Nof ρ H X B) (Nq := Nqof ρ H X) hv
  split at h
  · rename_i fs hu
    simp only [Option.bind_eq_some_iff, Option.map_eq_some_iff] at h
    obtain ⟨places, hpl, r, hr, rfl⟩ := h
    obtain ⟨out, h1, h2, h3⟩ := fillA_ok hr hp hzr hz1
    refine ⟨.agg out, ?_, mkAgg_rep h2 h3⟩
    refine run_build w t cparts out ?_
    unfold Program.built
    simp only [hi, hu, hz]
    unfold structPlaces at hpl
    rw [hpl]
    simpa using h1
  · rename_i len e hu
    simp only [Option.bind_eq_some_iff, Option.map_eq_some_iff] at h
    obtain ⟨n, hn, r, hr, rfl⟩ := h
    obtain ⟨out, h1, h2, h3⟩ := fillA_ok hr hp hzr hz1
    refine ⟨.agg out, ?_, mkAgg_rep h2 h3⟩
    simp [Instr.build, run_zeroValue hi hz, run_underlying hu, run_sizeOf hn, h1]
  · cases h
end
end Go.Proofs.Ytnbbhbbhgcipjaa.Am

namespace Go.Proofs.Ytnbbhbbhgcipjaa.Am
variable [LFit]
section
variable {P : Program} {X B : Nat → Prop} {ρ : List (Option Nat)} {w : World} {H : AHeap}

theorem alloc_is (o : Obj) : HeapIs w (w.alloc o) (w.heap.push o) := ⟨rfl, rfl, rfl, rfl⟩
theorem drew_alloc_is (o : Obj) : HeapIs w (w.drew.alloc o) (w.heap.push o) := ⟨rfl, rfl, rfl, rfl⟩

/-- The cells of a new row, as they lie behind one another. -/
theorem flat_index {α : Type} {z : Nat} : ∀ {es : List (List α)} {j m : Nat} {e : List α}, (∀ (j : Nat) (e : List α), es[j]? = some e → e.length = z) → es[j]? = some e → m < z → es.flatten[j * z + m]? = e[m]?
  | [], _, _, _, _, h, _ => by simp at h
  | x :: es, 0, m, e, hz, h, hm => by
    simp at h; subst h
    rw [List.flatten_cons, Nat.zero_mul, Nat.zero_add, List.getElem?_append_left (by have := hz 0 x rfl; omega)]
  | x :: es, j + 1, m, e, hz, h, hm => by
    have hx := hz 0 x rfl
    rw [List.flatten_cons, Nat.add_mul, Nat.one_mul, List.getElem?_append_right (by omega), hx, show j * z + z + m - z = j * z + m by omega]
    exact flat_index (fun j e h => hz (j + 1) e (by simpa using h)) (by simpa using h) hm
theorem flat_length {α : Type} {z : Nat} : ∀ {es : List (List α)}, (∀ (j : Nat) (e : List α), es[j]? = some e → e.length = z) → es.flatten.length = es.length * z
  | [], _ => by simp
  | x :: es, hz => by
    have hx := hz 0 x rfl
    rw [List.flatten_cons, List.length_append, hx, flat_length fun j e h => hz (j + 1) e (by simpa using h), List.length_cons, Nat.add_mul]; omega
/-- Cells that stand for a row's elements. -/
def RowRep (X B : Nat → Prop) (ρ : List (Option Nat)) (w : World) (H : AHeap) (z : Nat) (es : List (List AV)) (arr : Array Value) : Prop :=
  es.length * z ≤ arr.size ∧ (∀ (j : Nat) (e : List AV), es[j]? = some e → e.length = z) ∧
  ∀ (j : Nat) (e : List AV) (m : Nat) (c : AV), es[j]? = some e → e[m]? = some c → ∃ u, arr[j * z + m]? = some u ∧ u.oneCell' = true ∧ Rp X B ρ w H c u
theorem RowRep.repO {w' : World} {ρ' : List (Option Nat)} {H' : AHeap} {z l b : Nat} {es : List (List AV)} {arr : Array Value} {t : TypeId} (h : RowRep X B ρ w H z es arr) (E : Evo ρ w H ρ' w' H')
    (hb : look ρ' l = some b) (ha : w'.heap[b]? = some (.cells arr t (0, 0))) : RepO w' ρ' H' (Nof ρ' H' X B) (Nqof ρ' H' X) l (.row es z t) :=
  .inr ⟨b, arr, hb, ha, h.1, h.2.1, fun j e m c hj hm => by
    obtain ⟨u, h1, h2, h3⟩ := h.2.2 j e m c hj hm
    exact ⟨u, h1, h2, RepA.mono E (E.stay X B) _ _ h3⟩⟩
/-- A new row. -/
theorem HRel.newRow (R : HRel X B ρ w H) {w' : World} {z : Nat} {es : List (List AV)} {arr : Array Value} {t : TypeId} (hw : HeapIs w w' (w.heap.push (.cells arr t (0, 0)))) (h : RowRep X B ρ w H z es arr) :
    Evo ρ w H (ρ ++ [some w.heap.size]) w' (H ++ [.row es z t]) ∧ HRel X B (ρ ++ [some w.heap.size]) w' (H ++ [.row es z t]) := by
  obtain ⟨E, _⟩ := R.push hw .gone trivial
  have E' : Evo ρ w H (ρ ++ [some w.heap.size]) w' (H ++ [.row es z t]) :=
    { os := E.os, tape := E.tape, output := E.output, size := E.size, same := E.same, len := by simp
      obj := fun l o h => by
        have hl : l < H.length := (List.getElem?_eq_some_iff.1 h).1
        obtain ⟨o', h1, h2⟩ := E.obj l o h
        rw [List.getElem?_append_left hl] at h1
        exact ⟨o', by rw [List.getElem?_append_left hl]; exact h1, h2⟩
      fresh := fun b hb hlt => by
        obtain ⟨l, o, h, hl, hr⟩ := hb
        rcases append_case h with ⟨h1, h2⟩ | ⟨rfl, rfl⟩
        · rw [look_append (by rw [R.len]; exact h1)] at hr
          exact ⟨l, o, h2, hl, hr⟩
        · rw [← R.len, look_new] at hr; cases hr; omega }
  exact R.push hw _ (h.repO E' (by rw [← R.len]; exact look_new _) hw.new)
theorem new_look (R : HRel X B ρ w H) (x : Option Nat) : look (ρ ++ [x]) H.length = x := by rw [← R.len]; exact look_new x
theorem new_row (es : List (List AV)) (z : Nat) (t : TypeId) : (H ++ [AObj.row es z t])[H.length]? = some (.row es z t) := by simp

/-! ### Boxes and variables -/
theorem one_row {N Nq : Nat → Prop} {cs : List AV} {arr : Array Value} (h : RepAL w ρ H N Nq cs arr.toList) (h1 : ∀ x ∈ arr.toList, x.oneCell' = true) :
    cs.length = arr.size ∧ ∀ (m : Nat) (c : AV), cs[m]? = some c → ∃ u, arr[m]? = some u ∧ u.oneCell' = true ∧ RepA w ρ H N Nq c u := by
  refine ⟨by rw [← Array.length_toList]; exact h.length, fun m c hm => ?_⟩
  obtain ⟨u, hu, hr⟩ := h.get hm
  exact ⟨u, by simpa using hu, h1 u (List.mem_of_getElem? hu), hr⟩
theorem box_row {cs : List AV} {arr : Array Value} (h : RepAL w ρ H (Nof ρ H X B) (Nqof ρ H X) cs arr.toList) (h1 : ∀ x ∈ arr.toList, x.oneCell' = true) : RowRep X B ρ w H cs.length [cs] arr := by
  obtain ⟨h2, h3⟩ := one_row h h1
  refine ⟨by simp [h2], fun j e hj => ?_, fun j e m c hj hm => ?_⟩
  · cases j with
    | zero => simp at hj; subst hj; rfl
    | succ j => simp at hj
  · cases j with
    | zero =>
      simp at hj; subst hj
      obtain ⟨u, hu, h4, h5⟩ := h3 m c hm
      exact ⟨u, by simpa using hu, h4, h5⟩
    | succ j => simp at hj
theorem newVar_run (t : TypeId) (v : Value) : (newVar t v).run P w = .ok ⟨w.heap.size, 0, none⟩ (w.alloc (.cells v.cells t)) := rfl
theorem box_run {e : TypeId} {ca : Value} : (Instr.box e ca).run P w = .ok (.pointer (some ⟨w.heap.size, 0, none⟩)) (w.alloc (.cells ca.cells e)) := rfl
theorem box_ok (R : HRel X B ρ w H) {e : TypeId} {a : AV} {ca : Value} (hs : a.storable = true) (ha : Rp X B ρ w H a ca) :
    VOk P X B ρ w H (.ptr H.length 1 0 0) (H ++ [.row [a.cells] a.cells.length e]) (Instr.box e ca) := by
  obtain ⟨h1, h2⟩ := cells_rep hs ha
  obtain ⟨E, R'⟩ := R.newRow (alloc_is (.cells ca.cells e)) (box_row h1 h2)
  refine ⟨_, _, _, rfl, E, R', ?_⟩
  have := ptr_mk (j := 0) (off := 0) (N := Nof (ρ ++ [some w.heap.size]) (H ++ [.row [a.cells] a.cells.length e]) X B) (Nq := Nqof (ρ ++ [some w.heap.size]) (H ++ [.row [a.cells] a.cells.length e]) X)
    (w := w.alloc (.cells ca.cells e)) (new_row (H := H) [a.cells] a.cells.length e) (rfl : _ = 1) (new_look R (some w.heap.size))
  simpa using this
theorem cbox_ok (R : HRel X B ρ w H) {e : TypeId} {d : Imm} {ca : Value} (hs : (AV.im d).storable = true) (ha : Rp X B ρ w H (.im d) ca) :
    VOk P X B ρ w H (.im (.ip (AV.im d).cells.length false [d.cells] 0 0)) H (Instr.box e ca) := by
  obtain ⟨h1, h2⟩ := cells_rep hs ha
  have hw := alloc_is (w := w) (.cells ca.cells e)
  have hR := R.bare hw
  refine ⟨_, _, _, box_run, Evo.bare hw, hR, w.heap.size, 0, by simp, ⟨by rw [hw.size_push]; omega, ?_⟩, ?_, ?_, trivial⟩
  · exact fun h => R.fresh (by
      rcases h with h | h
      · obtain ⟨l, o, h1, h2, h3⟩ := h; exact .inl ⟨l, o, h1, h2, h3⟩
      · exact .inr h)
  · cases d <;> simp [AV.cells, Imm.cells]
  · have hcs : (AV.im d).cells = d.cells.map .im := by cases d <;> simp [AV.cells, Imm.cells]
    rw [hcs] at h1
    have h1' := RepL.mono ((Evo.bare (ρ := ρ) (H := H) hw).stay X B) _ _ (RepAL.im.1 h1)
    refine RepCells.of_get fun i c hi => ?_
    obtain ⟨u, hu, hr⟩ := RepL.get h1' hi
    refine ⟨u, ?_, h2 u (List.mem_of_getElem? hu), hr⟩
    simp only [World.cell?, hw.new]
    simpa using hu
theorem alloc_run {e : TypeId} {i : TypeInfo} {z : Value} (hi : P.info? e = some i) (hz : i.zero = some z) : (Instr.alloc e true (.tuple #[])).run P w = .ok (.pointer (some ⟨w.heap.size, 0, none⟩)) (w.alloc (.cells z.cells e)) := by
  simp only [Instr.alloc, Sem.run_bind, run_zeroValue hi hz, Result.andThen_ok, newVar_run, Sem.run_pure]
theorem alloc_ok (R : HRel X B ρ w H) {e : TypeId} {d : Imm} {n : Nat} (hd : zeroImm P e = some d) (hn : d.cells.length = n) :
    VOk P X B ρ w H (.ptr H.length 1 0 0) (H ++ [.row [d.cells.map .im] n e]) (Instr.alloc e true (.tuple #[])) := by
  obtain ⟨i, z, hi, hz, hv⟩ := zeroImm_info hd
  obtain ⟨h1, h2⟩ := imm_cells_rep (w := w) (ρ := ρ) (H := H) (N := Nof ρ H X B) (Nq := Nqof ρ H X) hv
  have hb := box_row h1 h2
  simp only [List.length_map, hn] at hb
  obtain ⟨E, R'⟩ := R.newRow (alloc_is (.cells z.cells e)) hb
  refine ⟨_, _, _, alloc_run hi hz, E, R', ?_⟩
  have := ptr_mk (j := 0) (off := 0) (N := Nof (ρ ++ [some w.heap.size]) (H ++ [.row [d.cells.map .im] n e]) X B) (Nq := Nqof (ρ ++ [some w.heap.size]) (H ++ [.row [d.cells.map .im] n e]) X)
    (w := w.alloc (.cells z.cells e)) (new_row (H := H) [d.cells.map .im] n e) (rfl : _ = 1) (new_look R (some w.heap.size))
  simpa using this
/-- A row that is not there yet. -/
theorem HRel.nilRow (R : HRel X B ρ w H) (z : Nat) (t : TypeId) : Evo ρ w H (ρ ++ [none]) w (H ++ [.row [] z t]) ∧ HRel X B (ρ ++ [none]) w (H ++ [.row [] z t]) :=
  R.name (Evo.refl ρ w H) _ none (.inl rfl) (fun _ _ => rfl) (.inl (new_look R none))
theorem nilRow_rep (R : HRel X B ρ w H) {N Nq : Nat → Prop} (z : Nat) (t : TypeId) : RepA w (ρ ++ [none]) (H ++ [.row [] z t]) N Nq (.sl H.length 0 0 0) (.slice none 0 0) :=
  ⟨by simp, rfl, fun es z' t' h => by rw [new_row] at h; cases h; exact ⟨Nat.le_refl _, fun _ => .inl ⟨⟨new_look R none, rfl⟩, rfl, rfl⟩⟩⟩
theorem vrow_ok (R : HRel X B ρ w H) (z : Nat) (t : TypeId) : VOk P X B ρ w H (.sl H.length 0 0 0) (H ++ [.row [] z t]) (pure (.slice none 0 0)) := by
  obtain ⟨E, R'⟩ := R.nilRow z t
  exact ⟨_, w, _, rfl, E, R', nilRow_rep R z t⟩
theorem valloc_ok (R : HRel X B ρ w H) {e e' : TypeId} {d : Imm} {n z' : Nat} (hd : zeroImm P e = some d) (hz' : d = .sl 1 false true []) (hn : n = 1) :
    VOk P X B ρ w H (.ptr (H.length + 1) 1 0 0) (H ++ [.row [] z' e', .row [[.sl H.length 0 0 0]] n e]) (Instr.alloc e true (.tuple #[])) := by
  obtain ⟨i, z, hi, hz, hv⟩ := zeroImm_info hd
  subst hn
  have hzv : z = .slice none 0 0 := by
    subst hz'
    unfold Imm.ofVal at hv
    split at hv
    · simp only [Option.map_eq_some_iff] at hv
      obtain ⟨_, _, h⟩ := hv; cases h
    · unfold Imm.ofScal at hv
      split at hv <;> first | rfl | cases hv
  subst hzv
  obtain ⟨E, R1⟩ := R.nilRow z' e'
  have hr : RepAL w (ρ ++ [none]) (H ++ [.row [] z' e']) (Nof (ρ ++ [none]) (H ++ [.row [] z' e']) X B) (Nqof (ρ ++ [none]) (H ++ [.row [] z' e']) X) [.sl H.length 0 0 0] (#[Value.slice none 0 0]).toList :=
    ⟨_, _, rfl, nilRow_rep R z' e', rfl⟩
  obtain ⟨E2, R2⟩ := R1.newRow (alloc_is (.cells (#[Value.slice none 0 0]) e)) (box_row hr (by simp [Value.oneCell']))
  have e1 : H ++ [.row [] z' e'] ++ [.row [[.sl H.length 0 0 0]] [AV.sl H.length 0 0 0].length e] = H ++ [.row [] z' e', .row [[.sl H.length 0 0 0]] 1 e] := by simp
  rw [e1] at E2 R2
  refine ⟨_, _, _, alloc_run hi hz, E.trans E2, R2, ?_⟩
  have hl := R1.len
  have := ptr_mk (j := 0) (off := 0) (l := H.length + 1) (es := [[.sl H.length 0 0 0]]) (z := 1) (t := e) (st := 1) (b := w.heap.size) (ρ := ρ ++ [none] ++ [some w.heap.size]) (H := H ++ [.row [] z' e', .row [[.sl H.length 0 0 0]] 1 e])
    (N := Nof (ρ ++ [none] ++ [some w.heap.size]) (H ++ [.row [] z' e', .row [[.sl H.length 0 0 0]] 1 e]) X B) (Nq := Nqof (ρ ++ [none] ++ [some w.heap.size]) (H ++ [.row [] z' e', .row [[.sl H.length 0 0 0]] 1 e]) X)
    (w := w.alloc (.cells (#[Value.slice none 0 0]) e)) (by simp) rfl (by have := new_look R1 (some w.heap.size); simpa using this)
  simpa [Value.cells] using this

/-! ### Slices that are built -/
theorem elemsA_parts {z : Nat} : ∀ {parts : List (Nat × AV)} {k : Nat} {es : List (List AV)} {cparts : List (Nat × Value)}, elemsA z parts k = some es → PartsRep X B ρ w H parts cparts →
    ∃ vs : List Value, cparts = (vs.zipIdx k).map (fun x => (x.2, x.1)) ∧ vs.length = es.length ∧ (∀ v ∈ vs, v.cells.size = z) ∧ (∀ (j : Nat) (e : List AV), es[j]? = some e → e.length = z) ∧
      (∀ (j : Nat) (e : List AV) (v : Value), es[j]? = some e → vs[j]? = some v → RepAL w ρ H (Nof ρ H X B) (Nqof ρ H X) e v.cells.toList ∧ ∀ x ∈ v.cells.toList, x.oneCell' = true)
  | [], k, es, cparts, h, hp => by
    cases h
    have e : cparts = [] := hp
    subst e
    exact ⟨[], rfl, rfl, by simp, by simp, by simp⟩
  | (i, a) :: parts, k, es, cparts, h, hp => by
    obtain ⟨v, vs, rfl, hv, hp⟩ := hp
    unfold elemsA at h
    split at h
    · rename_i hc
      obtain ⟨rfl, hc2, hc3⟩ := hc
      simp only [Option.map_eq_some_iff] at h
      obtain ⟨es', hes', rfl⟩ := h
      obtain ⟨vs', rfl, h2, h3, h4, h5⟩ := elemsA_parts hes' hp
      obtain ⟨hcr, hone⟩ := cells_rep hc3 hv
      refine ⟨v :: vs', by simp [List.zipIdx_cons], by simp [h2], ?_, ?_, ?_⟩
      · intro x hx
        cases hx with
        | head => rw [← Array.length_toList, ← hcr.length]; exact hc2
        | tail _ hx => exact h3 x hx
      · intro j e hj
        cases j with
        | zero => simp at hj; subst hj; exact hc2
        | succ j => exact h4 j e (by simpa using hj)
      · intro j e x hj hx
        cases j with
        | zero => simp at hj hx; subst hj; subst hx; exact ⟨hcr, hone⟩
        | succ j => exact h5 j e x (by simpa using hj) (by simpa using hx)
    · cases h
theorem rows_flat {z : Nat} {es : List (List AV)} {vs : List Value} (h2 : vs.length = es.length) (h3 : ∀ v ∈ vs, v.cells.size = z) (h4 : ∀ (j : Nat) (e : List AV), es[j]? = some e → e.length = z)
    (h5 : ∀ (j : Nat) (e : List AV) (v : Value), es[j]? = some e → vs[j]? = some v → RepAL w ρ H (Nof ρ H X B) (Nqof ρ H X) e v.cells.toList ∧ ∀ x ∈ v.cells.toList, x.oneCell' = true) :
    RowRep X B ρ w H z es (vs.flatMap fun v => v.cells.toList).toArray ∧ (vs.flatMap fun v => v.cells.toList).length = es.length * z := by
  have hz' : ∀ (j : Nat) (e : List Value), (vs.map fun v => v.cells.toList)[j]? = some e → e.length = z := by
    intro j e hj
    rw [List.getElem?_map] at hj
    cases hv : vs[j]? with
    | none => rw [hv] at hj; cases hj
    | some v => rw [hv] at hj; cases hj; rw [Array.length_toList]; exact h3 v (List.mem_of_getElem? hv)
  have hfl : (vs.flatMap fun v => v.cells.toList) = (vs.map fun v => v.cells.toList).flatten := by rw [List.flatMap_def]
  have hlen : (vs.flatMap fun v => v.cells.toList).length = es.length * z := by rw [hfl, flat_length hz']; simp [h2]
  refine ⟨⟨by simp [hlen], h4, fun j e m c hj hm => ?_⟩, hlen⟩
  have hjl : j < vs.length := by rw [h2]; exact (List.getElem?_eq_some_iff.1 hj).1
  obtain ⟨h6, h7⟩ := h5 j e vs[j] hj (by simp [hjl])
  obtain ⟨u, hu, hr⟩ := h6.get hm
  have hmz : m < z := by have := (List.getElem?_eq_some_iff.1 hm).1; have := h4 j e hj; omega
  refine ⟨u, ?_, h7 u (List.mem_of_getElem? hu), hr⟩
  have := flat_index (es := vs.map fun v => v.cells.toList) (j := j) (m := m) (e := vs[j].cells.toList) hz' (by simp [hjl]) hmz
  rw [← hfl] at this
  simpa [hu] using this
theorem abuildSlice_ok (R : HRel X B ρ w H) {t len : Nat} {parts : List (Nat × AV)} {cparts : Array (Nat × Value)} {mt : Bool} {v : AV} {H' : AHeap} (h : abuildSlice P t len parts H mt = some (v, H')) (hp : PartsRep X B ρ w H parts cparts.toList) :
    VOk P X B ρ w H v H' (Instr.buildSlice t len cparts) := by
  unfold abuildSlice at h
  simp only [Option.bind_eq_bind, Option.bind_eq_some_iff] at h
  obtain ⟨e, he, z, hz, es, hes, h⟩ := h
  split at h
  · rename_i hc
    obtain ⟨hlen, hz0, hbig, hzero⟩ := hc
    obtain ⟨vs, h1, h2, h3, h4, h5⟩ := elemsA_parts hes hp
    obtain ⟨hrow, hfl⟩ := rows_flat h2 h3 h4 h5
    have hu := elemOf_under he
    have hrun : (Instr.buildSlice t len cparts).run P w = .ok (.slice (some ⟨w.heap.size, 0, none⟩) len len) (w.alloc (.cells (vs.flatMap fun v => v.cells.toList).toArray e)) := by
      have hfill : ∀ cells : Array Value, cells.size = len * z → Instr.fill (fun i => some (i * z, z)) cells cparts.toList = some (vs.flatMap fun v => v.cells.toList).toArray := fun cells hcs => by
        rw [h1]; exact Great.fill_whole hz0 vs cells h3 (by rw [h2, hlen, hcs])
      by_cases hl0 : len = 0
      · subst hl0
        have := hfill (Array.map (fun _ => (default : Value)) (Array.range 0)) (by simp)
        simp only [Instr.buildSlice, Sem.run_bind, run_underlying hu, run_sizeOf hz, Result.andThen_ok, Sem.run_ite, Sem.run_pure, Nat.zero_mul, if_true]
        rw [if_neg (by simp)]
        have e0 : Array.map (fun x => (#[] : Array Value)[x % (#[] : Array Value).size]!) (Array.range 0) = Array.map (fun _ => (default : Value)) (Array.range 0) := by simp
        rw [e0, this]
        rfl
      · rcases hzero with h0 | hzero
        · exact absurd h0 hl0
        · cases hzi : zeroImm P e with
          | none => rw [hzi] at hzero; cases hzero
          | some d =>
            obtain ⟨i, z0, hi, hz0', _⟩ := zeroImm_info hzi
            have hne : len * z ≠ 0 := by
              intro h; rcases Nat.mul_eq_zero.1 h with h | h
              · exact hl0 h
              · omega
            have := hfill ((Array.range (len * z)).map (z0.cells[· % z0.cells.size]!)) (by simp)
            have hb : ¬ (2 ^ 24 < len * z) := by omega
            simp only [Instr.buildSlice, Sem.run_bind, run_underlying hu, run_sizeOf hz, Result.andThen_ok, Sem.run_ite, hne, if_false, run_zeroValue hi hz0', Sem.run_pure]
            rw [if_neg (by simpa using hb)]
            simp only [Sem.run_pure, Sem.run_bind, this]
            rfl
    split at h
    · rename_i ds hds
      cases h
      have hw := alloc_is (w := w) (.cells (vs.flatMap fun v => v.cells.toList).toArray e)
      refine ⟨_, _, ρ, hrun, Evo.bare hw, R.bare hw, ?_⟩
      obtain ⟨hdl, hdg⟩ := mapM_get hds
      have hlen' : ds.length = len := by omega
      refine ⟨len, by omega, fun _ => hlen'.symm, .inr ⟨w.heap.size, 0, none, by rw [hlen'], fun _ => ⟨rfl, by rw [hw.size_push]; omega, ?_⟩, ?_⟩⟩
      · exact fun h => R.fresh (by
          rcases h with h | h
          · obtain ⟨l, o, h1, h2, h3⟩ := h; exact .inl ⟨l, o, h1, h2, h3⟩
          · exact .inr h)
      · refine RepRows.of_get fun j d hj => ?_
        have hjl : j < es.length := by rw [hdl]; exact (List.getElem?_eq_some_iff.1 hj).1
        obtain ⟨d', hd', hfd⟩ := hdg j es[j] (by simp [hjl])
        rw [hj] at hd'; cases hd'
        have hej : es[j]? = some (d.map .im) := by rw [List.getElem?_eq_getElem hjl, allIm_eq hfd]
        have hdz : d.length = z := by have := h4 j _ hej; simpa using this
        refine ⟨hdz, RepCells.of_get fun m c hm => ?_⟩
        obtain ⟨u, hu1, hu2, hu3⟩ := hrow.2.2 j _ m (.im c) hej (by simp [hm])
        refine ⟨u, ?_, hu2, RepI.mono ((Evo.bare (ρ := ρ) (H := H) hw).stay X B) _ _ hu3⟩
        simp only [World.cell?, hw.new]
        simpa using hu1
    · cases h
      obtain ⟨E, R'⟩ := R.newRow (alloc_is (.cells (vs.flatMap fun v => v.cells.toList).toArray e)) hrow
      refine ⟨_, _, _, hrun, E, R', by simp, rfl, fun es' z' t' h => ?_⟩
      rw [new_row] at h; cases h
      refine ⟨by omega, fun _ => .inr (.inr ⟨w.heap.size, len, _, new_look R _, by simp, Nat.le_refl _, (alloc_is (w := w) _).new, ?_⟩)⟩
      simp [hfl, hlen]
  · cases h
end
end Go.Proofs.Ytnbbhbbhgcipjaa.Am

namespace Go.Proofs.Ytnbbhbbhgcipjaa.Am
variable [LFit]
section
variable {P : Program} {X B : Nat → Prop} {ρ : List (Option Nat)} {w : World} {H : AHeap}

/-! ### Maps -/
theorem ba_eq {a b : ByteArray} : (a == b) = true ↔ a = b := by
  constructor
  · intro h
    have h : ByteArray.beq a b = true := h
    rw [ByteArray.beq.eq_1] at h
    cases a; cases b
    simpa using h
  · rintro rfl
    show ByteArray.beq a a = true
    rw [ByteArray.beq.eq_1]
    simp
theorem keyEq_ok {d : TypeDesc} {k x : Imm} {b : Bool} {kv xv : Value} {N Nq : Nat → Prop} {kt : TypeId} (hu : P.underlying kt = some d) (hk : keyOk P kt k = true) (h : keyEq k x = some b) (h1 : RepI w N Nq k kv) (h2 : RepI w N Nq x xv) :
    Instr.sameNow d kv xv = some b ∧ (b = true → xv = kv) := by
  unfold keyOk at hk
  rw [hu] at hk
  unfold keyEq at h
  split at h
  · cases h
    have e1 : kv = .string _ := h1
    have e2 : xv = .string _ := h2
    subst e1; subst e2
    refine ⟨?_, fun hb => congrArg Value.string (ba_eq.1 hb).symm⟩
    split at hk <;> simp_all [Instr.sameNow]
  · split at h
    · cases h
      have e1 : kv = .int _ _ := h1
      have e2 : xv = .int _ _ := h2
      subst e1; subst e2
      split at hk <;> simp_all [Instr.sameNow]
    · cases h
  · cases h
    have e1 : kv = .bool _ := h1
    have e2 : xv = .bool _ := h2
    subst e1; subst e2
    split at hk <;> simp_all [Instr.sameNow]
  · cases h
theorem findK_ok {d : TypeDesc} {k : Imm} {kv : Value} {N Nq : Nat → Prop} {kt : TypeId} (hu : P.underlying kt = some d) (hk : keyOk P kt k = true) (h1 : RepI w N Nq k kv) :
    ∀ {ks : List Imm} {es : List MapEntry} {i : Nat} {r : Option Nat}, findK k ks i = some r → RepL w N Nq ks (es.map (·.key)) →
    (r = none ∧ Instr.findNow d kv es i = some none) ∨ ∃ j e, r = some (i + j) ∧ es[j]? = some e ∧ e.key = kv ∧ Instr.findNow d kv es i = some (some (i + j, e.val))
  | [], es, i, r, h, hr => by
    have e : es.map (·.key) = [] := hr
    have e' : es = [] := List.map_eq_nil_iff.1 e
    subst e'
    cases h
    exact .inl ⟨rfl, rfl⟩
  | x :: ks, es, i, r, h, hr => by
    obtain ⟨v, vs, e, hx, hr⟩ := hr
    cases es with
    | nil => cases e
    | cons e0 es =>
      simp only [List.map_cons, List.cons.injEq] at e
      obtain ⟨e1, e2⟩ := e
      unfold findK at h
      split at h
      · rename_i he
        cases h
        obtain ⟨h2, h3⟩ := keyEq_ok hu hk he h1 (e1 ▸ hx)
        exact .inr ⟨0, e0, rfl, rfl, h3 rfl, by simp [Instr.findNow, h2]⟩
      · rename_i he
        obtain ⟨h2, h3⟩ := keyEq_ok hu hk he h1 (e1 ▸ hx)
        rw [← e2] at hr
        rcases findK_ok hu hk h1 h hr with ⟨h4, h5⟩ | ⟨j, e, h4, h5, h6, h7⟩
        · exact .inl ⟨h4, by simp [Instr.findNow, h2, h5]⟩
        · exact .inr ⟨j + 1, e, by rw [h4]; congr 1; omega, by simpa using h5, h6, by simp [Instr.findNow, h2, h7]; omega⟩
      · cases h
theorem run_checkKey_scal {kt : TypeId} {k : Imm} {kv : Value} {N Nq : Nat → Prop} (em : Bool) (hk : keyOk P kt k = true) (h1 : RepI w N Nq k kv) : (Instr.checkKey em 10000 kt kv).run P w = .ok () w := by
  show (Instr.checkKey em (9999 + 1) kt kv).run P w = .ok () w
  rw [Instr.checkKey.eq_def]
  unfold keyOk at hk
  split at hk
  · rename_i hu
    have e : kv = .string _ := h1
    subst e
    simp [run_underlying hu]
  · rename_i hu
    have e : kv = .int _ _ := h1
    subst e
    simp [run_underlying hu]
  · rename_i hu
    have e : kv = .bool _ := h1
    subst e
    simp [run_underlying hu]
  · cases hk
theorem keyOk_desc {kt : TypeId} {k : Imm} (hk : keyOk P kt k = true) : ∃ d, P.underlying kt = some d := by
  unfold keyOk at hk
  split at hk
  · exact ⟨_, by assumption⟩
  · exact ⟨_, by assumption⟩
  · exact ⟨_, by assumption⟩
  · cases hk
theorem run_findKey_of {kt : TypeId} {d : TypeDesc} {kv : Value} {es : List MapEntry} {r : Option (Nat × Value)} (hu : P.underlying kt = some d) (h : Instr.findNow d kv es 0 = some r) :
    (Instr.findKey kt kv es).run P w = .ok r w := by
  simp [Instr.findKey, run_underlying hu, h]
theorem run_getMap {b : Nat} {es : Array MapEntry} {c : Nat} (h : w.heap[b]? = some (.map es c)) : (getObj b).run P w = .ok (.map es c) w := by
  simp only [getObj, Sem.run, h]
theorem lookup_at {t kt et : Nat} {cx ci zv : Value} {ok : Bool} {es : Array MapEntry} {r : Option (Nat × Value)} {iz : TypeInfo} (hu : P.underlying t = some (.map kt et))
    (hx : (cx = .map none ∧ es = #[]) ∨ ∃ b c, cx = .map (some b) ∧ w.heap[b]? = some (.map es c)) (hck : (Instr.checkKey es.isEmpty 10000 kt ci).run P w = .ok () w)
    (hf : (Instr.findKey kt ci es.toList).run P w = .ok r w) (hi : P.info? et = some iz) (hz : iz.zero = some zv) :
    (Instr.lookup t cx ci ok).run P w = .ok (match r with | some (_, v) => (if ok then .tuple #[v, .bool true] else v) | none => (if ok then .tuple #[zv, .bool false] else zv)) w := by
  rcases hx with ⟨rfl, rfl⟩ | ⟨b, c, rfl, hb⟩
  · unfold Instr.lookup
    simp only [Sem.run_bind, run_underlying hu, Result.andThen_ok, Sem.run_pure, hck, hf]
    cases r with
    | none => simp [run_zeroValue hi hz]
    | some x => simp
  · unfold Instr.lookup
    simp only [Sem.run_bind, run_underlying hu, Result.andThen_ok, run_getMap hb, Sem.run_pure, hck, hf]
    cases r with
    | none => simp [run_zeroValue hi hz]
    | some x => simp
theorem alookup_ok (R : HRel X B ρ w H) {t : Nat} {x ix v : AV} {cx ci : Value} {ok : Bool} (h : alookup P t x ix ok H = some v) (hx : Rp X B ρ w H x cx) (hi : Rp X B ρ w H ix ci) :
    ∃ cv, (Instr.lookup t cx ci ok).run P w = .ok cv w ∧ Rp X B ρ w H v cv := by
  unfold alookup at h
  split at h
  · rename_i kt et k hu
    split at h
    · rename_i hk
      simp only [Option.bind_eq_some_iff, Option.map_eq_some_iff] at h
      obtain ⟨z, hz, ⟨ks, vs⟩, hm, r, hr, ⟨u, f⟩, huf, h⟩ := h
      dsimp only at hr huf h
      obtain ⟨dk, hdk⟩ := keyOk_desc hk
      obtain ⟨iz, zv, hiz, hzv, hzz⟩ := zeroImm_info hz
      obtain ⟨es, hes, hks, hvs⟩ : ∃ es : Array MapEntry, ((cx = .map none ∧ es = #[]) ∨ ∃ b c, cx = .map (some b) ∧ w.heap[b]? = some (.map es c)) ∧
          RepL w (Nof ρ H X B) (Nqof ρ H X) ks (es.toList.map (·.key)) ∧ RepAL w ρ H (Nof ρ H X B) (Nqof ρ H X) vs (es.toList.map (·.val)) := by
        unfold mapOf at hm
        split at hm
        · cases hm
          exact ⟨#[], .inl ⟨hx, rfl⟩, rfl, rfl⟩
        · cases hm
          obtain ⟨b, es, c, rfl, hb, _, h1, h2⟩ := hx
          exact ⟨es, .inr ⟨b, c, rfl, hb⟩, h1, RepAL.im.2 h2⟩
        · rename_i l
          split at hm
          · rename_i ks' vs' ho
            cases hm
            obtain ⟨hl, _, hp⟩ := hx
            obtain ⟨b, hb, rfl⟩ := hp _ _ ho
            obtain ⟨b', es, c, hb', hbb, h1, h2⟩ := R.obj l _ ho
            rw [hb] at hb'; cases hb'
            exact ⟨es, .inr ⟨b, c, rfl, hbb⟩, RepAL.im.1 h1, h2⟩
          · cases hm
        · cases hm
      have hck := run_checkKey_scal (P := P) es.isEmpty hk hi
      unfold hitOf at huf
      rcases findK_ok hdk hk hi hr hks with ⟨rfl, h1⟩ | ⟨j, e, rfl, h1, h2, h3⟩
      · simp only [Option.some.injEq, Prod.mk.injEq] at huf
        obtain ⟨rfl, rfl⟩ := huf
        refine ⟨_, lookup_at hu hes hck (run_findKey_of hdk h1) hiz hzv, ?_⟩
        subst h
        cases ok
        · exact ofVal_rep hzz
        · show RepA w ρ H (Nof ρ H X B) (Nqof ρ H X) (mkTup [.im z, .im (.b false)]) (.tuple #[zv, .bool false])
          exact mkTup_rep ⟨zv, _, rfl, ofVal_rep hzz, _, _, rfl, rfl, rfl⟩
      · simp only [Option.map_eq_some_iff, Prod.mk.injEq] at huf
        obtain ⟨u', hu', rfl, rfl⟩ := huf
        rw [Nat.zero_add] at hu'
        obtain ⟨cu, hcu, hru⟩ := hvs.get hu'
        rw [List.getElem?_map, h1] at hcu
        cases hcu
        refine ⟨_, lookup_at hu hes hck (run_findKey_of hdk h3) hiz hzv, ?_⟩
        subst h
        cases ok
        · exact hru
        · show RepA w ρ H (Nof ρ H X B) (Nqof ρ H X) (mkTup [u', .im (.b true)]) (.tuple #[e.val, .bool true])
          exact mkTup_rep ⟨e.val, _, rfl, hru, _, _, rfl, rfl, rfl⟩
    · cases h
  · cases h
theorem sameBits_scal {kt : TypeId} {k : Imm} {kv : Value} {N Nq : Nat → Prop} (hk : keyOk P kt k = true) (h1 : RepI w N Nq k kv) : Instr.sameBits 10000 kv kv = true := by
  unfold keyOk at hk
  split at hk
  · have e : kv = .string _ := h1
    subst e; simp [Instr.sameBits, ba_eq]
  · have e : kv = .int _ _ := h1
    subst e; simp [Instr.sameBits]
  · have e : kv = .bool _ := h1
    subst e; simp [Instr.sameBits]
  · cases hk
theorem map_put (R : HRel X B ρ w H) {l b : Nat} {ks ks' : List Imm} {vs vs' : List AV} {es es' : Array MapEntry} {c c' : Nat} (ho : H[l]? = some (.map ks vs)) (hb : look ρ l = some b) (hbb : w.heap[b]? = some (.map es c))
    (hk : RepL w (Nof ρ H X B) (Nqof ρ H X) ks' (es'.toList.map (·.key))) (hv : RepAL w ρ H (Nof ρ H X B) (Nqof ρ H X) vs' (es'.toList.map (·.val))) :
    ∃ w', (setObj b (.map es' c')).run P w = .ok () w' ∧ Evo ρ w H ρ w' (H.set l (.map ks' vs')) ∧ HRel X B ρ w' (H.set l (.map ks' vs')) := by
  have hw : HeapIs w { w with heap := w.heap.setIfInBounds b (.map es' c') } (w.heap.setIfInBounds b (.map es' c')) := ⟨rfl, rfl, rfl, rfl⟩
  have he : OEvo ρ ρ w { w with heap := w.heap.setIfInBounds b (.map es' c') } l (.map ks vs) (.map ks' vs') := ⟨ks', vs', rfl, rfl⟩
  have hl : l < H.length := (List.getElem?_eq_some_iff.1 ho).1
  have E0 := (R.put hw ho rfl hb (o' := .gone) trivial trivial).1
  have E : Evo ρ w H ρ { w with heap := w.heap.setIfInBounds b (.map es' c') } (H.set l (.map ks' vs')) :=
    { os := rfl, tape := rfl, output := rfl, size := E0.size, same := E0.same, len := by simp
      obj := fun l' o h => by
        by_cases e : l' = l
        · subst e; rw [ho] at h; cases h; exact ⟨.map ks' vs', by simp [hl], he⟩
        · obtain ⟨o', h1, h2⟩ := E0.obj l' o h
          rw [List.getElem?_set_ne (Ne.symm e)] at h1
          exact ⟨o', by rw [List.getElem?_set_ne (Ne.symm e)]; exact h1, h2⟩
      fresh := fun b' hb' _ => by
        obtain ⟨l', o, h, hlv, hr⟩ := hb'
        by_cases e : l' = l
        · subst e; exact ⟨l', _, ho, rfl, hr⟩
        · rw [List.getElem?_set_ne (Ne.symm e)] at h; exact ⟨l', o, h, hlv, hr⟩ }
  have hlt : b < w.heap.size := (Array.getElem?_eq_some_iff.1 hbb).1
  refine ⟨_, ?_, R.put hw ho rfl hb he ⟨b, es', c', hb, hw.set_same hlt, RepAL.mono E (E.stay X B) _ _ (RepAL.im.2 hk), RepAL.mono E (E.stay X B) _ _ hv⟩⟩
  simp only [setObj, Sem.run, hbb]
theorem repAL_set {N Nq : Nat → Prop} {cs : List AV} {vs : List Value} {i : Nat} {c : AV} {v : Value} (h : RepAL w ρ H N Nq cs vs) (hc : RepA w ρ H N Nq c v) : RepAL w ρ H N Nq (cs.set i c) (vs.set i v) := by
  refine RepAL.of_get (by simp [h.length]) fun j a u ha hu => ?_
  by_cases e : i = j
  · subst e
    have h1 := (List.getElem?_eq_some_iff.1 ha).1
    have h2 := (List.getElem?_eq_some_iff.1 hu).1
    simp only [List.length_set] at h1 h2
    simp [h1] at ha; simp [h2] at hu
    subst ha; subst hu; exact hc
  · rw [List.getElem?_set_ne e] at ha hu
    obtain ⟨v', hv', hr⟩ := h.get ha
    rw [hv'] at hu; cases hu; exact hr
theorem repAL_snoc {N Nq : Nat → Prop} {cs ds : List AV} {vs us : List Value} (h : RepAL w ρ H N Nq cs vs) (hd : RepAL w ρ H N Nq ds us) : RepAL w ρ H N Nq (cs ++ ds) (vs ++ us) := by
  refine RepAL.of_get (by simp [h.length, hd.length]) fun j a u ha hu => ?_
  by_cases hj : j < cs.length
  · rw [List.getElem?_append_left hj] at ha
    rw [List.getElem?_append_left (by rw [← h.length]; exact hj)] at hu
    obtain ⟨v', hv', hr⟩ := h.get ha
    rw [hv'] at hu; cases hu; exact hr
  · rw [List.getElem?_append_right (by omega)] at ha
    rw [List.getElem?_append_right (by rw [← h.length]; omega), ← h.length] at hu
    obtain ⟨v', hv', hr⟩ := hd.get ha
    rw [hv'] at hu; cases hu; exact hr
theorem amapUpdate_ok (R : HRel X B ρ w H) {t : Nat} {x ix v : AV} {cx ci cv : Value} {H' : AHeap} (h : amapUpdate P t x ix v H = some H') (hx : Rp X B ρ w H x cx) (hi : Rp X B ρ w H ix ci) (hv : Rp X B ρ w H v cv) :
    UOk P X B ρ w H H' (Instr.mapUpdate t cx ci cv) := by
  unfold amapUpdate at h
  split at h
  · rename_i kt et k l hu
    split at h
    · rename_i ks vs ho
      split at h
      · rename_i hk
        obtain ⟨dk, hdk⟩ := keyOk_desc hk
        obtain ⟨hl, _, hp⟩ := hx
        obtain ⟨b, hb, rfl⟩ := hp _ _ ho
        obtain ⟨b', es, c, hb', hbb, h1, h2⟩ := R.obj l _ ho
        rw [hb] at hb'; cases hb'
        have hks := RepAL.im.1 h1
        unfold UOk Instr.mapUpdate
        simp only [Sem.run_bind, run_underlying hu, Result.andThen_ok, run_getMap hbb, run_checkKey_scal (P := P) false hk hi]
        split at h
        · rename_i i hf
          cases h
          rcases findK_ok hdk hk hi hf hks with ⟨h0, _⟩ | ⟨j, e, h0, h3, h4, h5⟩
          · cases h0
          · cases h0
            rw [Nat.zero_add] at h5
            rw [Nat.zero_add]
            rw [run_findKey_of hdk h5, Result.andThen_ok]
            have h3' : es[j]? = some e := by simpa using h3
            have hst : (Instr.keyThatStays (((es[j]?).map (·.key)).getD ci) ci).run P w = .ok ci w := by
              rw [h3']
              simp [Instr.keyThatStays, h4, sameBits_scal hk hi]
            simp only [hst, Result.andThen_ok, Sem.run_bind]
            obtain ⟨w', hrun, hE, hR⟩ := map_put (P := P) R ho hb hbb (ks' := ks) (vs' := vs.set j v) (es' := es.modify j fun e => { e with key := ci, val := cv }) (c' := c) (by
                have : (es.modify j fun e => { e with key := ci, val := cv }).toList.map (·.key) = es.toList.map (·.key) := by
                  apply List.ext_getElem?
                  intro m
                  simp only [List.getElem?_map, Array.getElem?_toList, Array.getElem?_modify]
                  by_cases hm : j = m
                  · subst hm; simp [h3', h4]
                  · simp [hm]
                rw [this]; exact hks) (by
                have : (es.modify j fun e => { e with key := ci, val := cv }).toList.map (·.val) = (es.toList.map (·.val)).set j cv := by
                  apply List.ext_getElem?
                  intro m
                  simp only [List.getElem?_map, Array.getElem?_toList, Array.getElem?_modify, List.getElem?_set, List.length_map, Array.length_toList]
                  by_cases hm : j = m
                  · subst hm
                    have hlt := (Array.getElem?_eq_some_iff.1 h3').1
                    simp [hlt]
                  · simp [hm]
                rw [this]; exact repAL_set h2 hv)
            exact ⟨w', ρ, hrun, hE, hR⟩
        · rename_i hf
          cases h
          rcases findK_ok hdk hk hi hf hks with ⟨_, h5⟩ | ⟨j, e, h0, _⟩
          · rw [run_findKey_of hdk h5, Result.andThen_ok]
            obtain ⟨w', hrun, hE, hR⟩ := map_put (P := P) R ho hb hbb (ks' := ks ++ [k]) (vs' := vs ++ [v]) (es' := es.push { key := ci, val := cv, born := c }) (c' := c + 1) (by
                have := repAL_snoc (RepAL.im.2 hks) (show RepAL w ρ H (Nof ρ H X B) (Nqof ρ H X) ([k].map .im) [ci] from ⟨ci, [], rfl, hi, rfl⟩)
                rw [← List.map_append] at this
                have := RepAL.im.1 this
                simpa using this) (by
                have := repAL_snoc h2 (ds := [v]) (us := [cv]) ⟨cv, [], rfl, hv, rfl⟩
                simpa using this)
            exact ⟨w', ρ, hrun, hE, hR⟩
          · cases h0
        · cases h
      · cases h
    · cases h
  · cases h
theorem amakeMap_ok (R : HRel X B ρ w H) (t : TypeId) : VOk P X B ρ w H (.map H.length) (H ++ [.map [] []]) (Instr.makeMap t none) := by
  have hw := alloc_is (w := w) (.map #[] 0)
  obtain ⟨E, R'⟩ := R.push hw (.map [] []) ⟨w.heap.size, #[], 0, new_look R _, hw.new, rfl, rfl⟩
  exact ⟨.map (some w.heap.size), _, _, by simp [Instr.makeMap], E, R', by simp, rfl, fun ks vs h => ⟨w.heap.size, new_look R _, rfl⟩⟩
end
end Go.Proofs.Ytnbbhbbhgcipjaa.Am

namespace Go.Proofs.Ytnbbhbbhgcipjaa.Am
variable [LFit]
section
variable {P : Program} {X B : Nat → Prop} {ρ : List (Option Nat)} {w : World} {H : AHeap}

theorem stretch_flat {N Nq : Nat → Prop} {b z : Nat} : ∀ {es : List (List AV)} {o : Nat}, (∀ (j : Nat) (e : List AV), es[j]? = some e → e.length = z ∧ Stretch w ρ H N Nq b (o + j * z) e) → Stretch w ρ H N Nq b o es.flatten
  | [], _, _ => fun i c h => by simp at h
  | x :: es, o, h => by
    obtain ⟨hx, hs⟩ := h 0 x rfl
    have ih := stretch_flat (es := es) (o := o + z) fun j e hj => by
      have := h (j + 1) e (by simpa using hj)
      rwa [show o + (j + 1) * z = o + z + j * z by rw [Nat.add_mul]; omega] at this
    intro i c hi
    rw [List.flatten_cons] at hi
    by_cases hlt : i < x.length
    · rw [List.getElem?_append_left hlt] at hi
      have := hs i c hi
      simpa using this
    · rw [List.getElem?_append_right (by omega), hx] at hi
      have := ih (i - z) c hi
      rwa [show o + z + (i - z) = o + i by omega] at this
/-- The elements that a slice value has. -/
def Elems (X B : Nat → Prop) (ρ : List (Option Nat)) (w : World) (H : AHeap) (z : Nat) (xs : List (List AV)) (cx : Value) : Prop :=
  (xs = [] ∧ ∃ a c, cx = .slice a 0 c) ∨ ∃ b o c, cx = .slice (some ⟨b, o, none⟩) xs.length c ∧ ∀ (j : Nat) (e : List AV), xs[j]? = some e → e.length = z ∧ Stretch w ρ H (Nof ρ H X B) (Nqof ρ H X) b (o + j * z) e
theorem elemsOf_ok (R : HRel X B ρ w H) {x : AV} {cx : Value} {xs : List (List AV)} {z : Nat} (h : elemsOf H x = some (xs, z)) (hx : Rp X B ρ w H x cx) : Elems X B ρ w H z xs cx := by
  unfold elemsOf at h
  split at h
  · rename_i z q tight es
    cases h
    obtain ⟨c, h1, _, h2⟩ := hx
    rcases h2 with ⟨rfl, rfl, _⟩ | ⟨b, o, sp, rfl, hsp, hrow⟩
    · exact .inl ⟨rfl, none, 0, rfl⟩
    · by_cases hne : es = []
      · subst hne; exact .inl ⟨rfl, _, _, rfl⟩
      obtain ⟨rfl, _⟩ := hsp hne
      refine .inr ⟨b, o, c, by simp, fun j e hj => ?_⟩
      rw [List.getElem?_map] at hj
      cases hd : es[j]? with
      | none => rw [hd] at hj; cases hj
      | some d =>
        rw [hd] at hj; cases hj
        obtain ⟨h3, h4⟩ := RepRows.get hrow hd
        exact ⟨by simpa using h3, Stretch.of_cells h4⟩
  · rename_i l st j n
    simp only [Option.bind_eq_bind, Option.bind_eq_some_iff, Option.some.injEq, Prod.mk.injEq] at h
    obtain ⟨⟨es, z'⟩, hr, es', hs, rfl, rfl⟩ := h
    obtain ⟨t', ho, hst⟩ := rdr_row hr
    obtain ⟨hl, hg⟩ := sub_get hs
    rcases (hx.2.2 es z' t' ho).2 hst with ⟨_, rfl, rfl⟩ | ⟨rfl, _, b, o, rfl⟩ | ⟨b, c, arr, hb, rfl, hnc, harr, hsz⟩
    · exact .inl ⟨List.eq_nil_of_length_eq_zero hl, none, 0, rfl⟩
    · have : es' = [] := List.eq_nil_of_length_eq_zero hl
      subst this
      exact .inr ⟨b, o, 0, rfl, fun j e hj => by simp at hj⟩
    · obtain ⟨_, _, _, hlen, hss⟩ := (R.obj l _ ho).row hb
      refine .inr ⟨b, j * z', c, by rw [hl], fun i e hi => ?_⟩
      have := hg i e hi
      refine ⟨hlen _ _ this, ?_⟩
      have h2 := hss _ _ this
      rwa [Nat.add_mul] at h2
  · cases h
theorem Elems.news {z : Nat} {xs : List (List AV)} {b o : Nat} (h : ∀ (j : Nat) (e : List AV), xs[j]? = some e → e.length = z ∧ Stretch w ρ H (Nof ρ H X B) (Nqof ρ H X) b (o + j * z) e) :
    ∃ news : List Value, news.length = xs.length * z ∧ (∀ j v, news[j]? = some v → w.cell? ((⟨b, o, none⟩ : Addr).add j) = some v) ∧ RepAL w ρ H (Nof ρ H X B) (Nqof ρ H X) xs.flatten news ∧ ∀ u ∈ news, u.oneCell' = true :=
  (stretch_flat h).list (flat_length fun j e hj => (h j e hj).1)
/-- Nothing is appended. -/
theorem run_append_none {t ty e : TypeId} {z : Nat} {a a' : Option Addr} {n c c' : Nat} (ht : P.underlying t = some (.slice e)) (hz : szOf P e = some z) (hn : n ≤ c) :
    (Builtin.append_ #[t, t] ty #[.slice a n c, .slice a' 0 c']).run P w = .ok (.slice a n c) w := by
  have hf : ∀ a', (Builtin.firstCells z 0 (.slice a' 0 c')).run P w = .ok #[] w := by
    intro a'
    cases a' with
    | none => rfl
    | some a' => simp [Builtin.firstCells, loadCells, loadCellsFrom]
  cases a with
  | none => simp [Builtin.append_, run_underlying ht, run_sizeOf hz, Builtin.lenOf, hn, hf]
  | some a => simp [Builtin.append_, run_underlying ht, run_sizeOf hz, Builtin.lenOf, hn, hf, storeCells]
/-- A row of old and new cells, and some behind them. -/
theorem row_of_flat {z : Nat} {es : List (List AV)} {vs : List Value} {arr : Array Value} (hz : ∀ (j : Nat) (e : List AV), es[j]? = some e → e.length = z) (hr : RepAL w ρ H (Nof ρ H X B) (Nqof ρ H X) es.flatten vs)
    (h1 : ∀ u ∈ vs, u.oneCell' = true) (ha : ∀ i, i < vs.length → arr[i]? = vs[i]?) (hs : vs.length ≤ arr.size) : RowRep X B ρ w H z es arr := by
  have hl : es.flatten.length = es.length * z := flat_length hz
  have hl2 := hr.length
  refine ⟨by omega, hz, fun j e m c hj hm => ?_⟩
  have hmz : m < z := by have := (List.getElem?_eq_some_iff.1 hm).1; have := hz j e hj; omega
  have := flat_index hz hj hmz
  rw [hm] at this
  obtain ⟨u, hu, hru⟩ := hr.get this
  refine ⟨u, ?_, h1 u (List.mem_of_getElem? hu), hru⟩
  rw [ha _ (List.getElem?_eq_some_iff.1 hu).1, hu]
/-- A row grows in its own block. -/
theorem HRel.growRow (R : HRel X B ρ w H) {l b : Nat} {es es' : List (List AV)} {z : Nat} {t : TypeId} {arr arr' : Array Value} (ho : H[l]? = some (.row es z t)) (hb : look ρ l = some b)
    (ha : w.heap[b]? = some (.cells arr t (0, 0))) (hlen : es.length < es'.length) (hrow : RowRep X B ρ w H z es' arr') :
    Evo ρ w H ρ (w.setRow b arr') (H.set l (.row es' z t)) ∧ HRel X B ρ (w.setRow b arr') (H.set l (.row es' z t)) := by
  have hw := setRow_is (arr := arr') ha
  have hbs : b < w.heap.size := (Array.getElem?_eq_some_iff.1 ha).1
  have he : OEvo ρ ρ w (w.setRow b arr') l (.row es z t) (.row es' z t) := ⟨es', rfl, by omega, fun h => by omega⟩
  have hl : l < H.length := (List.getElem?_eq_some_iff.1 ho).1
  have E0 := (R.put hw ho rfl hb (o' := .gone) trivial trivial).1
  have E : Evo ρ w H ρ (w.setRow b arr') (H.set l (.row es' z t)) :=
    { os := hw.os, tape := hw.tape, output := hw.output, size := E0.size, same := E0.same, len := by simp
      obj := fun l' o h => by
        by_cases e : l' = l
        · subst e; rw [ho] at h; cases h; exact ⟨.row es' z t, by simp [hl], he⟩
        · obtain ⟨o', h1, h2⟩ := E0.obj l' o h
          rw [List.getElem?_set_ne (Ne.symm e)] at h1
          exact ⟨o', by rw [List.getElem?_set_ne (Ne.symm e)]; exact h1, h2⟩
      fresh := fun b' hb' _ => by
        obtain ⟨l', o, h, hlv, hr⟩ := hb'
        by_cases e : l' = l
        · subst e; exact ⟨l', _, ho, rfl, hr⟩
        · rw [List.getElem?_set_ne (Ne.symm e)] at h; exact ⟨l', o, h, hlv, hr⟩ }
  exact R.put hw ho rfl hb he (hrow.repO E hb (hw.set_same hbs))
theorem HRel.moveRow (R : HRel X B ρ w H) {l : Nat} {es es' : List (List AV)} {z : Nat} {t : TypeId} {arr : Array Value} {w' : World} (hw : HeapIs w w' (w.heap.push (.cells arr t (0, 0)))) (ho : H[l]? = some (.row es z t)) (hlen : es.length < es'.length)
    (hrow : RowRep X B ρ w H z es' arr) :
    Evo ρ w H (ρ.set l (some w.heap.size)) w' (H.set l (.row es' z t)) ∧ HRel X B (ρ.set l (some w.heap.size)) w' (H.set l (.row es' z t)) := by
  have hl : l < H.length := (List.getElem?_eq_some_iff.1 ho).1
  have hlρ : l < ρ.length := by rw [R.len]; exact hl
  have E : Evo ρ w H (ρ.set l (some w.heap.size)) w' (H.set l (.row es' z t)) :=
    { os := hw.os, tape := hw.tape, output := hw.output
      size := by rw [hw.size_push]; omega
      same := fun b hb _ => hw.old hb
      len := by simp
      obj := fun l' o0 h => by
        by_cases e : l' = l
        · subst e
          rw [ho] at h; cases h
          exact ⟨.row es' z t, by simp [hl], es', rfl, by omega, fun h => by omega⟩
        · exact ⟨o0, by rw [List.getElem?_set_ne (Ne.symm e)]; exact h, OEvo.keep (look_set_ne (Ne.symm e) _) fun b _ _ _ ha => hw.old (Array.getElem?_eq_some_iff.1 ha).1⟩
      fresh := fun b hb hltb => by
        obtain ⟨l', o0, h, hlv, hr⟩ := hb
        by_cases e : l' = l
        · subst e
          rw [look_set hlρ] at hr; cases hr; omega
        · rw [List.getElem?_set_ne (Ne.symm e)] at h
          rw [look_set_ne (Ne.symm e)] at hr
          exact ⟨l', o0, h, hlv, hr⟩ }
  exact R.move hw ho hlen (hrow.repO E (look_set hlρ _) hw.new)
theorem flatten_append_rep {N Nq : Nat → Prop} {es xs : List (List AV)} {vs us : List Value} (h1 : RepAL w ρ H N Nq es.flatten vs) (h2 : RepAL w ρ H N Nq xs.flatten us) : RepAL w ρ H N Nq (es ++ xs).flatten (vs ++ us) := by
  rw [List.flatten_append]; exact repAL_snoc h1 h2
theorem slots {z : Nat} {es xs : List (List AV)} (h1 : ∀ (j : Nat) (e : List AV), es[j]? = some e → e.length = z) (h2 : ∀ (j : Nat) (e : List AV), xs[j]? = some e → e.length = z) : ∀ (j : Nat) (e : List AV), (es ++ xs)[j]? = some e → e.length = z := by
  intro j e h
  by_cases hj : j < es.length
  · rw [List.getElem?_append_left hj] at h; exact h1 j e h
  · rw [List.getElem?_append_right (by omega)] at h; exact h2 _ e h
theorem aappend_ok (R : HRel X B ρ w H) {t ty : TypeId} {s x v : AV} {cs cx : Value} {H' : AHeap} (h : aappend P t s x H = some (v, H')) (hs : Rp X B ρ w H s cs) (hx : Rp X B ρ w H x cx) :
    VOk P X B ρ w H v H' (Builtin.append_ #[t, t] ty #[cs, cx]) := by
  unfold aappend at h
  simp only [Option.bind_eq_bind, Option.bind_eq_some_iff, Option.map_eq_some_iff] at h
  obtain ⟨e, he, z, hz, by_, ⟨i, hi, hby⟩, ⟨xs, zx⟩, hxs, h⟩ := h
  have ht := elemOf_under he
  obtain ⟨i', hi', hiz⟩ := szOf_info hz
  rw [hi] at hi'; cases hi'
  dsimp only at h
  split at h
  · rename_i hc
    obtain ⟨hz0, hzx, hby0, hbyB, hzero⟩ := hc
    have hE := elemsOf_ok R hxs hx
    -- what is appended
    have hEz : xs = [] ∨ zx = z := hzx.symm.imp (by simp) id
    obtain ⟨d, hd, hdz⟩ := hzero
    obtain ⟨i', zv, hi', hzv, hvi⟩ := zeroImm_info hd
    rw [hi] at hi'; cases hi'
    have hzs : zv.cells.size = z := by
      have h := (imm_cells_rep (w := w) (ρ := ρ) (H := H) (N := Nof ρ H X B) (Nq := Nqof ρ H X) hvi).1.length
      simp only [List.length_map, Array.length_toList] at h
      omega
    have hnone : xs = [] → ∃ a' c', cx = .slice a' 0 c' := fun hx0 => by
      rcases hE with ⟨_, a, c, rfl⟩ | ⟨b, o, c, rfl, _⟩
      · exact ⟨a, c, rfl⟩
      · subst hx0; exact ⟨_, c, rfl⟩
    have hsome : xs ≠ [] → ∃ b o c news, cx = .slice (some ⟨b, o, none⟩) xs.length c ∧ news.length = xs.length * z ∧ (∀ j v, news[j]? = some v → w.cell? ((⟨b, o, none⟩ : Addr).add j) = some v) ∧
        RepAL w ρ H (Nof ρ H X B) (Nqof ρ H X) xs.flatten news ∧ (∀ u ∈ news, u.oneCell' = true) ∧ ∀ (j : Nat) (e : List AV), xs[j]? = some e → e.length = z := fun hne => by
      have hzz : zx = z := hEz.resolve_left hne
      subst hzz
      rcases hE with ⟨h0, _⟩ | ⟨b, o, c, rfl, hst⟩
      · exact absurd h0 hne
      · obtain ⟨news, h1, h2, h3, h4⟩ := Elems.news hst
        exact ⟨b, o, c, news, rfl, h1, h2, h3, h4, fun j e hj => (hst j e hj).1⟩
    split at h
    · rename_i z0 q tight es
      obtain ⟨c, hlec, htight, hrep⟩ := hs
      split at h
      · rename_i hemp
        cases h
        have hx0 : xs = [] := by simpa using hemp
        obtain ⟨a', c', rfl⟩ := hnone hx0
        rcases hrep with ⟨rfl, rfl, rfl⟩ | ⟨b, o, sp, rfl, hb, hrow⟩
        · exact VOk.pure R (run_append_none ht hz (Nat.le_refl _)) ⟨0, by simp, by simp, .inl ⟨rfl, rfl, rfl⟩⟩
        · exact VOk.pure R (run_append_none ht hz hlec) ⟨c, hlec, htight, .inr ⟨b, o, sp, rfl, hb, hrow⟩⟩
      · rename_i hemp
        have hne : xs ≠ [] := by simpa using hemp
        obtain ⟨b, o, c0, news, rfl, hnl, hnews, hnr, hn1, hxz⟩ := hsome hne
        have hpos : 0 < xs.length := List.length_pos_iff.2 hne
        split at h
        · rename_i hc2
          obtain ⟨ht1, hz2, hbound⟩ := hc2
          cases h
          have hcap := htight ht1
          have hbytes : (es.length + xs.length) * i.bytes ≤ 140737488355328 := by
            rw [hby]
            exact Nat.le_trans (Nat.mul_le_mul hbound hbyB) (by decide)
          -- the new row, over whatever cells lie behind it
          have hmk : ∀ (olds : List Value) (rest : Array Value), RepAL w ρ H (Nof ρ H X B) (Nqof ρ H X) (es.map (·.map AV.im)).flatten olds → (∀ u ∈ olds, u.oneCell' = true) → (∀ (j : Nat) (e : List AV), (es.map (·.map AV.im))[j]? = some e → e.length = z) →
              RowRep X B ρ w H z (es.map (·.map AV.im) ++ xs) (olds.toArray ++ news.toArray ++ rest) := fun olds rest h1 h2 h3 =>
            row_of_flat (slots h3 hxz) (flatten_append_rep h1 hnr) (fun u hu => by
              rcases List.mem_append.1 hu with hu | hu
              · exact h2 u hu
              · exact hn1 u hu) (fun k hk => by
              simp only [List.append_toArray]
              rw [Array.getElem?_append_left (by simpa using hk)]
              simp) (by simp)
          have hfin : ∀ (olds : List Value) (cap' : Nat), RepAL w ρ H (Nof ρ H X B) (Nqof ρ H X) (es.map (·.map AV.im)).flatten olds → (∀ u ∈ olds, u.oneCell' = true) → (∀ (j : Nat) (e : List AV), (es.map (·.map AV.im))[j]? = some e → e.length = z) →
              es.length + xs.length ≤ cap' → (Builtin.append_ #[t, t] ty #[cs, .slice (some ⟨b, o, none⟩) xs.length c0]).run P w =
                .ok (.slice (some ⟨w.heap.size, 0, none⟩) (es.length + xs.length) cap') (w.drew.alloc (.cells (olds.toArray ++ news.toArray ++ Builtin.zeroCells zv.cells (cap' - (es.length + xs.length))) e)) →
              VOk P X B ρ w H (.sl H.length (es.length + xs.length) 0 (es.length + xs.length)) (H ++ [.row (es.map (·.map AV.im) ++ xs) z e]) (Builtin.append_ #[t, t] ty #[cs, .slice (some ⟨b, o, none⟩) xs.length c0]) :=
            fun olds cap' h1 h2 h3 hcap' hrun => by
            obtain ⟨E, R'⟩ := R.newRow (drew_alloc_is _) (hmk olds (Builtin.zeroCells zv.cells (cap' - (es.length + xs.length))) h1 h2 h3)
            refine ⟨_, _, _, hrun, E, R', by simp, rfl, fun es' z' t' h => ?_⟩
            rw [new_row] at h; cases h
            refine ⟨by simp, fun _ => .inr (.inr ⟨w.heap.size, cap', _, new_look R _, by simp, hcap', (drew_alloc_is (w := w) _).new, ?_⟩)⟩
            have hol : olds.length = es.length * z := by rw [← h1.length, flat_length h3]; simp
            simp only [Array.size_append, List.size_toArray, size_zeroCells, hol, hnl, hzs, ← Nat.add_mul]
            rw [Nat.zero_add]
            exact Nat.le_of_eq (by congr 1; omega)
          rcases hrep with ⟨rfl, rfl, rfl⟩ | ⟨b', o', sp, rfl, hb', hrow⟩
          · have hr := run_append_nil (P := P) w t ty e i zv ht hi hzv ⟨b, o, none⟩ xs.length c0 news (by rw [hnl, hiz]) hnews hpos (by simp at hbound; omega) (by simp at hbytes; omega)
            exact hfin [] (grownCap w xs.length 0 e) rfl (by simp) (by simp) (by simpa using grownCap_ge w xs.length 0 e) (by simpa using hr)
          · have hold : ∀ (j : Nat) (e : List AV), (es.map (·.map AV.im))[j]? = some e → e.length = z ∧ Stretch w ρ H (Nof ρ H X B) (Nqof ρ H X) b' (o' + j * z) e := fun j e hj => by
              rw [List.getElem?_map] at hj
              cases hd : es[j]? with
              | none => rw [hd] at hj; cases hj
              | some d =>
                rw [hd] at hj; cases hj
                have hzz : z0 = z := by
                  rcases hz2 with h | h
                  · exact h
                  · have : es = [] := by simpa using h
                    subst this; simp at hd
                subst hzz
                obtain ⟨h3, h4⟩ := RepRows.get hrow hd
                exact ⟨by simpa using h3, Stretch.of_cells h4⟩
            obtain ⟨olds, h1, h2, h3, h4⟩ := Elems.news hold
            have h1' : olds.length = es.length * i.size := by rw [h1, hiz]; simp
            have h2s : ∀ j v, olds[j]? = some v → w.cell? ((⟨b', o', sp⟩ : Addr).add j) = some v := fun j v hj => by
              by_cases hes : es = []
              · subst hes
                have : olds = [] := List.eq_nil_of_length_eq_zero (by rw [h1]; simp)
                subst this; simp at hj
              · obtain ⟨hsp, _⟩ := hb' hes
                subst hsp; exact h2 j v hj
            have hr := run_append_grow (P := P) w t ty e i zv ht hi hzv ⟨b', o', sp⟩ es.length c olds h1' h2s ⟨b, o, none⟩ xs.length c0 news (by rw [hnl, hiz]) hnews (by omega) (by omega) (growslice_fits (by omega) hbytes)
            exact hfin olds (grownCap w (es.length + xs.length) c e) h3 h4 (fun j e hj => (hold j e hj).1) (grownCap_ge w _ _ e) hr
        · cases h
    · rename_i l st j n
      split at h
      · rename_i es z' e' ho
        split at h
        · rename_i hc2
          obtain ⟨hst, hj0, hn, rfl, rfl, hbound⟩ := hc2
          cases h
          subst hj0
          have hlH : l < H.length := (List.getElem?_eq_some_iff.1 ho).1
          by_cases hx0 : xs = []
          · obtain ⟨a', c', rfl⟩ := hnone hx0
            subst hx0
            have hset : H.set l (.row (es ++ []) z' e') = H := by
              rw [List.append_nil]
              apply List.ext_getElem?
              intro m
              by_cases hm : l = m
              · subst hm; rw [List.getElem?_set_self hlH, ho]
              · rw [List.getElem?_set_ne hm]
            rw [hset]
            have hs' : Rp X B ρ w H (.sl l (es.length + ([] : List (List AV)).length) 0 (n + ([] : List (List AV)).length)) cs := by
              simp only [List.length_nil, Nat.add_zero]; rw [hst]; exact hs
            rcases (hs.2.2 es z' e' ho).2 hst with ⟨_, rfl, _⟩ | ⟨_, hj, _⟩ | ⟨b, c, arr, hb, rfl, hnc, harr, hsz⟩
            · exact VOk.pure R (run_append_none ht hz (Nat.le_refl _)) hs'
            · omega
            · exact VOk.pure R (run_append_none ht hz hnc) hs'
          · obtain ⟨b, o, c0, news, rfl, hnl, hnews, hnr, hn1, hxz⟩ := hsome hx0
            have hpos : 0 < xs.length := List.length_pos_iff.2 hx0
            have hgrow : es.length < (es ++ xs).length := by simp; exact hpos
            have hbytes : (es.length + xs.length) * i.bytes ≤ 140737488355328 := by
              rw [hby]
              exact Nat.le_trans (Nat.mul_le_mul hbound hbyB) (by decide)
            have hnew : ∀ (olds : List Value) (cap' : Nat), RepAL w ρ H (Nof ρ H X B) (Nqof ρ H X) es.flatten olds → (∀ u ∈ olds, u.oneCell' = true) → (∀ (j : Nat) (e : List AV), es[j]? = some e → e.length = z') →
                es.length + xs.length ≤ cap' → (Builtin.append_ #[t, t] ty #[cs, .slice (some ⟨b, o, none⟩) xs.length c0]).run P w =
                  .ok (.slice (some ⟨w.heap.size, 0, none⟩) (es.length + xs.length) cap') (w.drew.alloc (.cells (olds.toArray ++ news.toArray ++ Builtin.zeroCells zv.cells (cap' - (es.length + xs.length))) e')) →
                VOk P X B ρ w H (.sl l (es.length + xs.length) 0 (n + xs.length)) (H.set l (.row (es ++ xs) z' e')) (Builtin.append_ #[t, t] ty #[cs, .slice (some ⟨b, o, none⟩) xs.length c0]) :=
              fun olds cap' h1 h2 h3 hcap' hrun => by
              have hrow : RowRep X B ρ w H z' (es ++ xs) (olds.toArray ++ news.toArray ++ Builtin.zeroCells zv.cells (cap' - (es.length + xs.length))) :=
                row_of_flat (slots h3 hxz) (flatten_append_rep h1 hnr) (fun u hu => by
                  rcases List.mem_append.1 hu with hu | hu
                  · exact h2 u hu
                  · exact hn1 u hu) (fun k hk => by
                  simp only [List.append_toArray]
                  rw [Array.getElem?_append_left (by simpa using hk)]
                  simp) (by simp)
              obtain ⟨E, R'⟩ := R.moveRow (drew_alloc_is _) ho hgrow hrow
              refine ⟨_, _, _, hrun, E, R', by simpa using hlH, rfl, fun es' z'' t' h => ?_⟩
              have hrowE : (H.set l (.row (es ++ xs) z' e'))[l]? = some (.row (es ++ xs) z' e') := by simp [hlH]
              rw [hrowE] at h; cases h
              refine ⟨by simp, fun _ => .inr (.inr ⟨w.heap.size, cap', _, look_set (by rw [R.len]; exact hlH) _, by rw [hn]; simp, by omega, (drew_alloc_is (w := w) _).new, ?_⟩)⟩
              have hol : olds.length = es.length * z' := by rw [← h1.length, flat_length h3]
              simp only [Array.size_append, List.size_toArray, size_zeroCells, hol, hnl, hzs, ← Nat.add_mul]
              rw [Nat.zero_add]
              exact Nat.le_of_eq (by congr 1; omega)
            rcases (hs.2.2 es z' e' ho).2 hst with ⟨hln, rfl, hn0⟩ | ⟨_, hj, _⟩ | ⟨b', c, arr, hb', rfl, hnc, harr, hsz⟩
            · have hes0 : es = [] := List.eq_nil_of_length_eq_zero (by omega)
              subst hes0
              have hr := run_append_nil (P := P) w t ty e' i zv ht hi hzv ⟨b, o, none⟩ xs.length c0 news (by rw [hnl, hiz]) hnews hpos (by simp at hbound; omega) (by simp at hbytes; omega)
              exact hnew [] (grownCap w xs.length 0 e') rfl (by simp) (by simp) (by simpa using grownCap_ge w xs.length 0 e') (by simpa using hr)
            · omega
            · obtain ⟨arr', harr', hfit, hlen, hss⟩ := (R.obj l _ ho).row hb'
              rw [harr] at harr'; cases harr'
              obtain ⟨olds, h1, h2, h3, h4⟩ := Elems.news (b := b') (o := 0) (z := z') (xs := es) fun j e hj => ⟨hlen j e hj, by have := hss j e hj; rwa [Nat.zero_add]⟩
              have h1' : olds.length = es.length * i.size := by rw [h1, hiz]
              have hbase : (0 : Nat) * z' = 0 := Nat.zero_mul _
              rw [hbase]
              by_cases hroom : n + xs.length ≤ c
              · -- in place
                have hfit2 : n * i.size + news.length ≤ arr.size := by
                  rw [hiz, hnl, ← Nat.add_mul]
                  exact Nat.le_trans (Nat.mul_le_mul_right _ hroom) (by simpa using hsz)
                have hr := run_append_room (P := P) w t ty e' i ht hi b' n c arr harr ⟨b, o, none⟩ xs.length c0 news (by rw [hnl, hiz]) hnews hn1 hroom hfit2
                have hrow : RowRep X B ρ w H z' (es ++ xs) (arr.toList.take (n * i.size) ++ news ++ arr.toList.drop (n * i.size + news.length)).toArray :=
                  row_of_flat (vs := olds ++ news) (slots hlen hxz) (flatten_append_rep h3 hnr) (fun u hu => by
                    rcases List.mem_append.1 hu with hu | hu
                    · exact h4 u hu
                    · exact hn1 u hu) (fun k hk => by
                    have hnz : n * i.size = olds.length := by rw [h1, hiz, hn]
                    rw [hnz]
                    have htake : arr.toList.take olds.length = olds := by
                      apply List.ext_getElem?
                      intro m
                      rw [List.getElem?_take]
                      by_cases hm : m < olds.length
                      · rw [if_pos hm]
                        have := h2 m olds[m] (by simp [hm])
                        rw [add_none] at this
                        simp only [World.cell?, harr, Nat.zero_add] at this
                        rw [List.getElem?_eq_getElem hm]
                        simpa using this
                      · rw [if_neg hm, List.getElem?_eq_none (by omega)]
                    rw [htake, List.getElem?_toArray, List.getElem?_append_left hk]) (by
                    have : olds.length = n * i.size := by rw [h1, hiz, hn]
                    simp; omega)
                obtain ⟨E, R'⟩ := R.growRow ho hb' harr hgrow hrow
                refine ⟨_, _, _, hr, E, R', by simpa using hlH, rfl, fun es' z'' t' h => ?_⟩
                have hrowE : (H.set l (.row (es ++ xs) z' e'))[l]? = some (.row (es ++ xs) z' e') := by simp [hlH]
                rw [hrowE] at h; cases h
                have hw := setRow_is (arr := (arr.toList.take (n * i.size) ++ news ++ arr.toList.drop (n * i.size + news.length)).toArray) harr
                refine ⟨by simp, fun _ => .inr (.inr ⟨b', c, _, hb', by simp, hroom, hw.set_same (Array.getElem?_eq_some_iff.1 harr).1, ?_⟩)⟩
                have : (arr.toList.take (n * i.size) ++ news ++ arr.toList.drop (n * i.size + news.length)).toArray.size = arr.size := by simp; omega
                rw [this]; exact hsz
              · have hcn : c < es.length + xs.length := by omega
                have hr := run_append_grow (P := P) w t ty e' i zv ht hi hzv ⟨b', 0, none⟩ es.length c olds h1' h2 ⟨b, o, none⟩ xs.length c0 news (by rw [hnl, hiz]) hnews hcn (by omega) (growslice_fits (by omega) hbytes)
                have := hnew olds (grownCap w (es.length + xs.length) c e') h3 h4 hlen (grownCap_ge w _ _ e')
                rw [hbase, hn] at this
                rw [hn]
                exact this hr
        · cases h
      · cases h
    · cases h
  · cases h
end
end Go.Proofs.Ytnbbhbbhgcipjaa.Am

namespace Go.Proofs.Ytnbbhbbhgcipjaa.Am
variable [LFit]
section
variable {P : Program} {X B : Nat → Prop} {ρ : List (Option Nat)} {w : World} {H : AHeap}

theorem alen_ok (R : HRel X B ρ w H) {t ty : TypeId} {x v : AV} {cx : Value} (h : alen P t H x = some v) (hx : Rp X B ρ w H x cx) : ∃ cv, (Builtin.len_ #[t] ty #[cx]).run P w = .ok cv w ∧ Rp X B ρ w H v cv := by
  unfold alen at h
  split at h
  · rename_i hu
    cases h
    have e : cx = .string _ := hx
    subst e
    exact ⟨_, by simp [Builtin.len_, run_underlying hu, goInt], rfl⟩
  · rename_i hu
    cases h
    obtain ⟨c, _, _, hr⟩ := hx
    rcases hr with ⟨rfl, rfl, _⟩ | ⟨b, o, sp, rfl, _⟩
    · exact ⟨_, by simp [Builtin.len_, run_underlying hu, goInt], rfl⟩
    · exact ⟨_, by simp [Builtin.len_, run_underlying hu, goInt], rfl⟩
  · rename_i hu
    split at h
    · rename_i hlive
      cases h
      unfold live at hlive
      rw [Option.isSome_iff_exists] at hlive
      obtain ⟨⟨es, z⟩, hr⟩ := hlive
      obtain ⟨t', ho, hst⟩ := rdr_row hr
      rcases (hx.2.2 es z t' ho).2 hst with ⟨_, rfl, rfl⟩ | ⟨rfl, _, b, o, rfl⟩ | ⟨b, c, arr, hb, rfl, _⟩
      · exact ⟨_, by simp [Builtin.len_, run_underlying hu, goInt], rfl⟩
      · exact ⟨_, by simp [Builtin.len_, run_underlying hu, goInt], rfl⟩
      · exact ⟨_, by simp [Builtin.len_, run_underlying hu, goInt], rfl⟩
    · cases h
  · rename_i hu
    cases h
    have e : cx = .map none := hx
    subst e
    exact ⟨_, by simp [Builtin.len_, run_underlying hu, goInt], rfl⟩
  · rename_i hu
    cases h
    obtain ⟨r, es, clock, rfl, hh, _, hk, _⟩ := hx
    refine ⟨.int .i64 es.size, by simp [Builtin.len_, run_underlying hu, goInt, run_getMap hh], ?_⟩
    · have := hk.length; simp at this; show Value.int _ _ = Value.int _ _; rw [this]
  · rename_i hu
    split at h
    · rename_i ks vs ho
      cases h
      obtain ⟨b, hb, rfl⟩ := hx.2.2 _ _ ho
      obtain ⟨b', es, c, hb', hbb, h1, h2⟩ := R.obj _ _ ho
      rw [hb] at hb'; cases hb'
      refine ⟨.int .i64 es.size, by simp [Builtin.len_, run_underlying hu, goInt, run_getMap hbb], ?_⟩
      · have := h1.length; simp at this; show Value.int _ _ = Value.int _ _; rw [this]
    · cases h
  · cases h

theorem amaxmin_ok {m : Bool} {as : List AV} {v : AV} {cas : Array Value} {a1 : Array TypeId} {ty : TypeId} (h : amaxmin m as = some v) (ha : RepAL w ρ H (Nof ρ H X B) (Nqof ρ H X) as cas.toList) :
    ∃ cv, (if m then Builtin.max_ a1 ty cas else Builtin.min_ a1 ty cas).run P w = .ok cv w ∧ Rp X B ρ w H v cv := by
  unfold amaxmin at h
  split at h
  · rename_i k x k' y
    split at h
    · rename_i hk
      subst hk
      cases h
      obtain ⟨v1, vs, e, h1, v2, vs2, e2, h2, e3⟩ := ha
      have e1 : v1 = .int k x := h1
      have e2' : v2 = .int k y := h2
      have e4 : vs2 = [] := e3
      subst e1; subst e2'; subst e4; subst e2
      cases m
      · refine ⟨.int k (if y < x then y else x), ?_, by simp [Rp, RepA, RepI]⟩
        simp only [Bool.false_eq_true, if_false, Builtin.min_, e]
        simp [Builtin.min2]
      · refine ⟨.int k (if y > x then y else x), ?_, by simp [Rp, RepA, RepI]⟩
        simp only [if_true, Builtin.max_, e]
        simp [Builtin.max2]
    · cases h
  · cases h

theorem zero_flat {z n : Nat} {cs : Array Value} (hz : cs.size = z) (_hz0 : 0 < z) : ∀ {j m : Nat}, j < n → m < z → (Builtin.zeroCells cs n)[j * z + m]? = cs[m]? := by
  intro j m hj hm
  have hlt : j * z + m < n * z := by
    have : (j + 1) * z ≤ n * z := Nat.mul_le_mul_right _ hj
    rw [Nat.add_mul] at this; omega
  have hmod : (j * z + m) % z = m := by rw [Nat.add_comm, Nat.add_mul_mod_self_right, Nat.mod_eq_of_lt hm]
  simp only [Builtin.zeroCells, Array.getElem?_map, hz]
  rw [Array.getElem?_range, if_pos hlt]
  simp only [Option.map_some, hmod]
  rw [getElem!_pos cs m (by omega), Array.getElem?_eq_getElem (by omega)]
theorem zero_row {N Nq : Nat → Prop} {z n : Nat} {cs : Array Value} {d : Imm} (hz : d.cells.length = z) (hz0 : 0 < z) (h1 : RepAL w ρ H N Nq (d.cells.map .im) cs.toList) (h2 : ∀ x ∈ cs.toList, x.oneCell' = true) :
    ∀ (j : Nat) (e : List AV) (m : Nat) (c : AV), (List.replicate n (d.cells.map AV.im))[j]? = some e → e[m]? = some c → ∃ u, (Builtin.zeroCells cs n)[j * z + m]? = some u ∧ u.oneCell' = true ∧ RepA w ρ H N Nq c u := by
  intro j e m c hj hm
  have hcs : cs.size = z := by have := h1.length; simp at this; omega
  have hjn : j < n := by have := (List.getElem?_eq_some_iff.1 hj).1; simpa using this
  have he : e = d.cells.map .im := by
    rw [List.getElem?_replicate, if_pos hjn] at hj; cases hj; rfl
  subst he
  have hmz : m < z := by have := (List.getElem?_eq_some_iff.1 hm).1; simp at this; omega
  obtain ⟨u, hu, hr⟩ := h1.get hm
  refine ⟨u, ?_, h2 u (List.mem_of_getElem? hu), hr⟩
  rw [zero_flat hcs hz0 hjn hmz]; simpa using hu
theorem amakeSlice_ok (R : HRel X B ρ w H) {t : TypeId} {n c v : AV} {cn cc : Value} {H' : AHeap} (h : amakeSlice P t n c H = some (v, H')) (hn : Rp X B ρ w H n cn) (hc : Rp X B ρ w H c cc) :
    VOk P X B ρ w H v H' (Instr.makeSlice t cn cc) := by
  unfold amakeSlice at h
  simp only [Option.bind_eq_bind, Option.bind_eq_some_iff, Option.map_eq_some_iff] at h
  obtain ⟨e, he, z, hz, by_, ⟨i, hi, hby⟩, d, hd, ni, hni, ci, hci, h⟩ := h
  have hu := elemOf_under he
  obtain ⟨k, rfl⟩ := aint_ok hni hn
  obtain ⟨k', rfl⟩ := aint_ok hci hc
  split at h
  · rename_i hcnd
    obtain ⟨hz0, hb0, hbB, hn0, hnc, hbig, hdz⟩ := hcnd
    cases h
    subst hnc
    obtain ⟨i', zv, hi', hzv, hvi⟩ := zeroImm_info hd
    rw [hi] at hi'; cases hi'
    obtain ⟨h1, h2⟩ := imm_cells_rep (w := w) (ρ := ρ) (H := H) (N := Nof ρ H X B) (Nq := Nqof ρ H X) hvi
    have hzs : zv.cells.size = z := by have := h1.length; simp at this; omega
    have hlarge : (i.bytes : Int) * ni ≤ 281474976710656 := by
      have h3 : (i.bytes : Int) ≤ 4096 := by omega
      have h4 : (i.bytes : Int) * ni ≤ 4096 * 4294967296 := Int.mul_le_mul h3 hbig hn0 (by omega)
      omega
    obtain ⟨i2, hi2, hiz⟩ := szOf_info hz
    rw [hi] at hi2; cases hi2
    have hrun := run_make (P := P) w t e i zv hu hi hzv k k' ni ni hn0 (Int.le_refl _) hlarge (by omega)
    have hcells : madeCells zv.cells (ni.toNat * i.size) = Builtin.zeroCells zv.cells ni.toNat := by unfold madeCells Builtin.zeroCells; rw [hzs, hiz]
    rw [hcells] at hrun
    have hrow : RowRep X B ρ w H z (List.replicate ni.toNat (d.cells.map AV.im)) (Builtin.zeroCells zv.cells ni.toNat) := by
      refine ⟨by rw [size_zeroCells, hzs]; simp, fun j e hj => ?_, zero_row hdz hz0 h1 h2⟩
      rw [List.getElem?_replicate] at hj
      split at hj
      · cases hj; simpa using hdz
      · cases hj
    obtain ⟨E, R'⟩ := R.newRow (alloc_is (.cells (Builtin.zeroCells zv.cells ni.toNat) e)) hrow
    refine ⟨_, _, _, hrun, E, R', by simp, rfl, fun es' z' t' h => ?_⟩
    rw [new_row] at h; cases h
    refine ⟨by simp, fun _ => .inr (.inr ⟨w.heap.size, ni.toNat, _, new_look R _, by simp, Nat.le_refl _, (alloc_is (w := w) _).new, ?_⟩)⟩
    rw [size_zeroCells, hzs]; simp
  · cases h

theorem set_self {l : Nat} {o : AObj} (h : H[l]? = some o) : H.set l o = H := by
  have hl := (List.getElem?_eq_some_iff.1 h).1
  apply List.ext_getElem?
  intro m
  by_cases hm : l = m
  · subst hm; rw [List.getElem?_set_self hl, h]
  · rw [List.getElem?_set_ne hm]
theorem aclear_ok (R : HRel X B ρ w H) {t ty : TypeId} {x : AV} {cx : Value} {H' : AHeap} (h : aclear P t x H = some H') (hx : Rp X B ρ w H x cx) : VOk P X B ρ w H (.im (.und)) H' (Builtin.clear_ #[t] ty #[cx]) := by
  unfold aclear at h
  simp only [Option.bind_eq_bind, Option.bind_eq_some_iff] at h
  obtain ⟨e, he, d, hd, h⟩ := h
  have hu := elemOf_under he
  obtain ⟨i, zv, hi, hzv, hvi⟩ := zeroImm_info hd
  have hnil : ∀ a c, (Builtin.clear_ #[t] ty #[.slice a 0 c]).run P w = .ok undef w := by
    intro a c; cases a <;> simp [Builtin.clear_, run_underlying hu, undef]
  split at h
  · cases h
    obtain ⟨c, _, _, hr⟩ := hx
    rcases hr with ⟨rfl, _, rfl⟩ | ⟨b, o, sp, rfl, _⟩
    · exact VOk.pure R (hnil _ _) rfl
    · exact VOk.pure R (hnil _ _) rfl
  · rename_i l st j n
    split at h
    · rename_i es z e' ho
      split at h
      · rename_i hc
        obtain ⟨hst, hjn, hdz, hez⟩ := hc
        cases h
        have hzero : n = 0 → H.set l (.row (es.take j ++ List.replicate n (d.cells.map AV.im) ++ es.drop (j + n)) z e') = H := fun h0 => by
          subst h0
          simp only [List.replicate_zero, List.append_nil, Nat.add_zero, List.take_append_drop]
          exact set_self ho
        rcases (hx.2.2 es z e' ho).2 hst with ⟨_, rfl, h0⟩ | ⟨h0, _, b, o, rfl⟩ | ⟨b, c, arr, hb, rfl, hnc, harr, hsz⟩
        · rw [hzero h0]; exact VOk.pure R (hnil _ _) rfl
        · rw [hzero h0]; exact VOk.pure R (hnil _ _) rfl
        · by_cases h0 : n = 0
          · rw [hzero h0]; subst h0; exact VOk.pure R (hnil _ _) rfl
          · obtain ⟨arr2, harr2, hes, hlen, hs⟩ := (R.obj l _ ho).row hb
            rw [harr] at harr2; cases harr2
            obtain ⟨h1, h2⟩ := imm_cells_rep (w := w) (ρ := ρ) (H := H) (N := Nof ρ H X B) (Nq := Nqof ρ H X) hvi
            have hzs : zv.cells.size = z := by have := h1.length; simp at this; omega
            have hzl : (Builtin.zeroCells zv.cells n).toList.length = n * z := by rw [Array.length_toList, size_zeroCells, hzs]
            have hfit : j * z + n * z ≤ arr.size := by
              rw [← Nat.add_mul]; exact Nat.le_trans (Nat.mul_le_mul_right _ hjn) hes
            have hone : ∀ u ∈ (Builtin.zeroCells zv.cells n).toList, u.oneCell' = true := by
              intro u hu
              simp only [Builtin.zeroCells, Array.toList_map, List.mem_map] at hu
              obtain ⟨k, hk, rfl⟩ := hu
              have hk' : k < n * zv.cells.size := by simpa using hk
              have hz0 : 0 < zv.cells.size := by
                rcases Nat.eq_zero_or_pos zv.cells.size with h | h
                · rw [h] at hk'; simp at hk'
                · exact h
              have hm := Nat.mod_lt k hz0
              rw [getElem!_pos zv.cells _ hm]
              exact h2 _ (by simp)
            have hrun := run_storeCells_at P b (j * z) e' (Builtin.zeroCells zv.cells n).toList 0 arr w harr (by rw [hzl]; omega) hone
            simp only [Nat.add_zero] at hrun
            have hfit3 : j * z + (Builtin.zeroCells zv.cells n).toList.length ≤ arr.toList.length := by rw [hzl, Array.length_toList]; exact hfit
            have hjr : j + (List.replicate n (d.cells.map AV.im)).length ≤ es.length := by simpa using hjn
            have hsp : es.take j ++ List.replicate n (d.cells.map AV.im) ++ es.drop (j + n) = splice es j (List.replicate n (d.cells.map AV.im)) := by unfold splice; simp
            rw [hsp]
            obtain ⟨E, R'⟩ := R.setRow (es' := splice es j (List.replicate n (d.cells.map AV.im))) ho hb harr (arr' := (splice arr.toList (j * z) (Builtin.zeroCells zv.cells n).toList).toArray)
              (by simp only [List.size_toArray, splice_length hfit3, Array.length_toList]) (splice_length hjr)
              (fun j' e2 hj' => by
                rw [splice_get hjr] at hj'
                split at hj'
                · rw [List.getElem?_replicate] at hj'
                  split at hj'
                  · cases hj'; simpa using hdz
                  · cases hj'
                · exact hlen j' e2 hj') hes
              (fun j' e2 m c2 hj' hm => by
                rw [splice_get hjr] at hj'
                simp only [List.length_replicate] at hj'
                rw [List.getElem?_toArray, splice_get hfit3, hzl]
                split at hj'
                · rename_i hin
                  have he2 : e2 = d.cells.map AV.im := by
                    rw [List.getElem?_replicate, if_pos (by omega)] at hj'; cases hj'; rfl
                  have hmz : m < z := by have := (List.getElem?_eq_some_iff.1 hm).1; subst he2; simp at this; omega
                  obtain ⟨u, hu, hu1, hu2⟩ := zero_row (n := n) hdz (by omega) h1 h2 (j' - j) e2 m c2 hj' hm
                  refine ⟨u, ?_, hu1, hu2⟩
                  have e1 : (j' - j) * z + m < n * z := row_index hmz (by omega) (Nat.le_refl _)
                  have e3 : j' * z = j * z + (j' - j) * z := by rw [← Nat.add_mul]; congr 1; omega
                  rw [if_pos ⟨by omega, by omega⟩, Array.getElem?_toList, ← hu]
                  congr 1; omega
                · rename_i hout
                  have hmz : m < z := by have := (List.getElem?_eq_some_iff.1 hm).1; have := hlen j' e2 hj'; omega
                  obtain ⟨u, hu, hu1, hu2⟩ := hs j' e2 hj' m c2 hm
                  refine ⟨u, ?_, hu1, hu2⟩
                  rw [if_neg (fun hin => hout ?_)]
                  · simpa [World.cell?, harr] using hu
                  · constructor
                    · rcases Nat.lt_or_ge j' j with h | h
                      · have := row_index (z := z) hmz h (Nat.le_refl _); omega
                      · exact h
                    · rcases Nat.lt_or_ge j' (j + n) with h | h
                      · exact h
                      · have := Nat.mul_le_mul_right z h
                        rw [Nat.add_mul] at this; omega)
            refine ⟨undef, _, ρ, ?_, E, R', rfl⟩
            have ez : ∃ i2, P.info? e = some i2 ∧ i2.zero = some zv := ⟨i, hi, hzv⟩
            cases n with
            | zero => exact absurd rfl h0
            | succ n => simp [Builtin.clear_, run_underlying hu, run_zeroValue hi hzv, hrun, undef, splice]
      · cases h
    · cases h
  · cases h
end
end Go.Proofs.Ytnbbhbbhgcipjaa.Am

namespace Go.Proofs.Ytnbbhbbhgcipjaa.Am
variable [LFit]
section
variable {P : Program} {X B : Nat → Prop} {ρ : List (Option Nat)} {w : World} {H : AHeap}

def AOk (P : Program) (X B : Nat → Prop) (ρ : List (Option Nat)) (w : World) (H : AHeap) : AO → Result Next → Prop
  | .val v H', r => ∃ cv w' ρ', r = .ok (.value cv) w' ∧ Evo ρ w H ρ' w' H' ∧ HRel X B ρ' w' H' ∧ Rp X B ρ' w' H' v cv
  | .skip H', r => ∃ w' ρ', r = .ok .skip w' ∧ Evo ρ w H ρ' w' H' ∧ HRel X B ρ' w' H'
  | .call (.fn f as), r => ∃ cas : Array Value, r = (callFunc f cas).run P w ∧ RepAL w ρ H (Nof ρ H X B) (Nqof ρ H X) as cas.toList
  | .call (.round l as), r => ∃ (f' : Fn) (cas : Array Value), RepFn ρ H (.yield l) f' ∧ r = (invoke (.fn f' #[]) cas).run P w ∧ RepAL w ρ H (Nof ρ H X B) (Nqof ρ H X) as cas.toList
  | .dfr g as, r => ∃ (cap cas : Array Value), r = .ok (.defer { target := .fn (.func g) cap, args := cas }) w ∧ RepAL w ρ H (Nof ρ H X B) (Nqof ρ H X) as (cas ++ cap).toList
  | .pan d, r => ∃ v, r = .halt (.panic v) w ∧ RepI w (Nof ρ H X B) (Nqof ρ H X) d v

theorem AOk.same (R : HRel X B ρ w H) {v : AV} {r : Result Next} (h : ∃ cv, r = .ok (.value cv) w ∧ Rp X B ρ w H v cv) : AOk P X B ρ w H (.val v H) r := by
  obtain ⟨cv, h1, h2⟩ := h
  exact ⟨cv, w, ρ, h1, Evo.refl ρ w H, R, h2⟩
theorem AOk.of_v (R : HRel X B ρ w H) {v : AV} {s : Sem Value} (h : ∃ cv, s.run P w = .ok cv w ∧ Rp X B ρ w H v cv) : AOk P X B ρ w H (.val v H) ((do let x ← s; pure (.value x) : Sem Next).run P w) := by
  obtain ⟨cv, h1, h2⟩ := h
  exact AOk.same R ⟨cv, by simp [h1], h2⟩
theorem AOk.of_V {v : AV} {H' : AHeap} {s : Sem Value} (h : VOk P X B ρ w H v H' s) : AOk P X B ρ w H (.val v H') ((do let x ← s; pure (.value x) : Sem Next).run P w) := by
  obtain ⟨cv, w', ρ', h1, h2, h3, h4⟩ := h
  exact ⟨cv, w', ρ', by simp [h1], h2, h3, h4⟩
theorem AOk.of_U {H' : AHeap} {s : Sem Unit} (h : UOk P X B ρ w H H' s) : AOk P X B ρ w H (.skip H') ((do s; pure .skip : Sem Next).run P w) := by
  obtain ⟨w', ρ', h1, h2, h3⟩ := h
  exact ⟨w', ρ', by simp [h1], h2, h3⟩
theorem RepAL.of_map {fr : Fr} {a : Act} {N Nq : Nat → Prop} : ∀ {xs : List Operand}, (∀ x ∈ xs, RepA w ρ H N Nq (ev fr x) (a.eval x)) → RepAL w ρ H N Nq (xs.map (ev fr)) (xs.map a.eval)
  | [], _ => rfl
  | x :: xs, h => ⟨_, _, rfl, h x (by simp), RepAL.of_map fun y hy => h y (by simp [hy])⟩
theorem PartsRep.of_map {fr : Fr} {a : Act} : ∀ {ps : List (Nat × Operand)}, (∀ x ∈ ps.map (·.2), Rp X B ρ w H (ev fr x) (a.eval x)) → PartsRep X B ρ w H (ps.map fun (i, x) => (i, ev fr x)) (ps.map fun (i, x) => (i, a.eval x))
  | [], _ => rfl
  | (i, x) :: ps, h => ⟨_, _, rfl, h x (by simp), PartsRep.of_map fun y hy => h y (by simp [hy])⟩
theorem callee_ok {f : AV} {cf : Value} {as : List AV} {cas : Array Value} {r : Req} (h : callee f as = some r) (hf : Rp X B ρ w H f cf) (ha : RepAL w ρ H (Nof ρ H X B) (Nqof ρ H X) as cas.toList) :
    AOk P X B ρ w H (.call r) ((do let d ← Deferred.ofValue cf cas; invoke d.target d.args : Sem Next).run P w) := by
  unfold callee at h
  split at h
  · rename_i g cap
    cases h
    obtain ⟨l, rfl, hl⟩ := hf
    refine ⟨cas ++ l, by simp [Deferred.ofValue, invoke], ?_⟩
    rw [Array.toList_append]
    exact repAL_snoc ha (RepAL.im.2 hl)
  · rename_i g cap
    cases h
    obtain ⟨f', l, rfl, hf', hl⟩ := hf
    cases hf'
    refine ⟨cas ++ l, by simp [Deferred.ofValue, invoke], ?_⟩
    rw [Array.toList_append]
    exact repAL_snoc ha hl
  · rename_i l
    cases h
    obtain ⟨f', lc, rfl, hf', hl⟩ := hf
    have hl0 : lc = #[] := by
      have : lc.toList = [] := hl
      exact Array.toList_eq_nil_iff.1 this
    subst hl0
    exact ⟨f', cas, hf', by simp [Deferred.ofValue], ha⟩
  · cases h
theorem callee_dfr {f : AV} {cf : Value} {as as' : List AV} {cas : Array Value} {g : FuncId} (h : callee f as = some (.fn g as')) (hf : Rp X B ρ w H f cf) (ha : RepAL w ρ H (Nof ρ H X B) (Nqof ρ H X) as cas.toList) :
    ∃ cap, (Deferred.ofValue cf cas).run P w = .ok { target := .fn (.func g) cap, args := cas } w ∧ RepAL w ρ H (Nof ρ H X B) (Nqof ρ H X) as' (cas ++ cap).toList := by
  unfold callee at h
  split at h
  · rename_i g cap
    cases h
    obtain ⟨l, rfl, hl⟩ := hf
    refine ⟨l, by simp [Deferred.ofValue], ?_⟩
    rw [Array.toList_append]
    exact repAL_snoc ha (RepAL.im.2 hl)
  · rename_i g cap
    cases h
    obtain ⟨f', l, rfl, hf', hl⟩ := hf
    cases hf'
    refine ⟨l, by simp [Deferred.ofValue], ?_⟩
    rw [Array.toList_append]
    exact repAL_snoc ha hl
  · cases h
  · cases h

variable {cx : Cx}
theorem aop_ok (hP : cx.P = P) (R : HRel X B ρ w H) {fn : FuncId} {o : Oper} {fr : Fr} {a : Act} {ao : AO} (h : aop cx fn o fr H = some ao) (hfr : ∀ x ∈ o.op.operands, Rp X B ρ w H (ev fr x) (a.eval x)) :
    AOk P X B ρ w H ao ((execOp a.eval o).run P w) := by
  subst hP
  unfold aop at h
  dsimp only at h
  split at h
  -- move
  · rename_i x ho
    simp only [Option.map_some] at h; cases h
    exact AOk.same R ⟨a.eval x, by simp [execOp, ho], hfr x (by simp [ho, Op.operands])⟩
  -- assign
  · rename_i x ho
    split at h
    · rename_i hv
      simp only [Option.bind_eq_some_iff] at h
      obtain ⟨e, he, z, hz, h⟩ := h
      cases h
      obtain ⟨cv, w', ρ', h1, h2, h3, h4⟩ := vrow_ok (P := cx.P) R z e
      refine ⟨cv, w', ρ', ?_, h2, h3, h4⟩
      have : (Value.slice none 0 0) = cv ∧ w = w' := by simpa using h1
      obtain ⟨rfl, rfl⟩ := this
      simp [execOp, ho, Act.eval]
    · simp only [Option.map_some] at h; cases h
      exact AOk.same R ⟨_, by simp only [execOp, ho]; rfl, hfr _ (by rw [ho]; simp [Op.operands])⟩
  -- pick
  · rename_i c x y ho
    simp only [Option.bind_eq_some_iff] at h
    obtain ⟨t, ht, h⟩ := h
    have hc := abool_ok ht (hfr c (by simp [ho, Op.operands]))
    have hx := hfr x (by simp [ho, Op.operands])
    have hy := hfr y (by simp [ho, Op.operands])
    have hrun : (execOp a.eval o).run cx.P w = .ok (.value (if t then a.eval x else a.eval y)) w := by cases t <;> simp [execOp, ho, asBool, hc]
    rw [hrun]
    split at h
    · rename_i p q hp hq
      simp only [Option.map_some] at h; cases h
      rw [hp] at hx; rw [hq] at hy
      refine AOk.same R ⟨_, rfl, ?_⟩
      cases t
      · exact hy
      · exact hx
    · simp only [Option.map_some] at h; cases h
      refine AOk.same R ⟨_, rfl, ?_⟩
      cases t
      · exact hy
      · exact hx
  -- alloc
  · rename_i e ho
    simp only [Option.bind_eq_bind, Option.bind_eq_some_iff] at h
    obtain ⟨z, hz, n, hn, h⟩ := h
    have hrun : (execOp a.eval o).run cx.P w = (do let x ← Instr.alloc e true (.tuple #[]); pure (.value x) : Sem Next).run cx.P w := by simp [execOp, ho]
    rw [hrun]
    split at h
    · rename_i e' _ _
      simp only [Option.bind_eq_some_iff] at h
      obtain ⟨z', hz', h⟩ := h
      split at h
      · cases h
        exact AOk.of_V (valloc_ok R hz rfl rfl)
      · cases h
    · split at h
      · rename_i hl
        cases h
        exact AOk.of_V (alloc_ok R hz hl)
      · cases h
  -- box
  · rename_i e x ho
    have hx := hfr x (by simp [ho, Op.operands])
    have hrun : (execOp a.eval o).run cx.P w = (do let x ← Instr.box e (a.eval x); pure (.value x) : Sem Next).run cx.P w := by simp [execOp, ho]
    rw [hrun]
    split at h
    · rename_i hc
      obtain ⟨hc1, hc2⟩ := hc
      split at h
      · rename_i d _ hd
        simp only [Option.map_some] at h; cases h
        rw [hd] at hx hc2 ⊢
        exact AOk.of_V (cbox_ok R hc2 hx)
      · cases h
        exact AOk.of_V (box_ok R hc2 hx)
    · cases h
  -- build
  · rename_i t ps ho
    simp only [Option.map_eq_some_iff] at h
    obtain ⟨v, hv, h⟩ := h
    cases h
    have hp : PartsRep X B ρ w H (ps.toList.map fun (i, x) => (i, ev fr x)) (ps.map fun (i, x) => (i, a.eval x)).toList := by
      rw [Array.toList_map]
      exact PartsRep.of_map fun x hx => hfr x (by simp only [ho, Op.operands]; simpa using hx)
    have hrun : (execOp a.eval o).run cx.P w = (do let x ← Instr.build t (ps.map fun (i, x) => (i, a.eval x)); pure (.value x) : Sem Next).run cx.P w := by simp [execOp, ho]
    rw [hrun]
    exact AOk.of_v R (abuild_ok hv hp)
  -- buildSlice
  · rename_i t n ps ho
    simp only [Option.map_eq_some_iff] at h
    obtain ⟨⟨v, H'⟩, hv, h⟩ := h
    cases h
    have hp : PartsRep X B ρ w H (ps.toList.map fun (i, x) => (i, ev fr x)) (ps.map fun (i, x) => (i, a.eval x)).toList := by
      rw [Array.toList_map]
      exact PartsRep.of_map fun x hx => hfr x (by simp only [ho, Op.operands]; simpa using hx)
    have hrun : (execOp a.eval o).run cx.P w = (do let x ← Instr.buildSlice t n (ps.map fun (i, x) => (i, a.eval x)); pure (.value x) : Sem Next).run cx.P w := by simp [execOp, ho]
    rw [hrun]
    exact AOk.of_V (abuildSlice_ok R hv hp)
  -- load
  · rename_i t x ho
    simp only [Option.map_eq_some_iff] at h
    obtain ⟨v, hv, h⟩ := h
    cases h
    have hrun : (execOp a.eval o).run cx.P w = (do let x ← Instr.loadAt t (a.eval x); pure (.value x) : Sem Next).run cx.P w := by simp [execOp, ho]
    rw [hrun]
    exact AOk.of_v R (aload_ok R hv (hfr x (by simp [ho, Op.operands])))
  -- store
  · rename_i t x y ho
    simp only [Option.map_eq_some_iff] at h
    obtain ⟨H', hv, h⟩ := h
    cases h
    have hrun : (execOp a.eval o).run cx.P w = (do Instr.storeAt t (a.eval x) (a.eval y); pure .skip : Sem Next).run cx.P w := by simp [execOp, ho]
    rw [hrun]
    exact AOk.of_U (astore_ok R hv (hfr x (by simp [ho, Op.operands])) (hfr y (by simp [ho, Op.operands])))
  -- nilCheck
  · rename_i x ho
    have hx := hfr x (by simp [ho, Op.operands])
    split at h
    · rename_i l st j off he
      split at h
      · rename_i hlive
        simp only [Option.map_some] at h; cases h
        rw [he] at hx
        unfold live at hlive
        rw [Option.isSome_iff_exists] at hlive
        obtain ⟨⟨es, z⟩, hr⟩ := hlive
        obtain ⟨t', ho', hst⟩ := rdr_row hr
        obtain ⟨b, hb, hv⟩ := (hx.2.2 es z t' ho').2 hst
        exact AOk.same R ⟨a.eval x, by simp [execOp, ho, hv], hx⟩
      · cases h
    · rename_i z q es j off he
      simp only [Option.map_some] at h; cases h
      rw [he] at hx
      have hx' := hx
      obtain ⟨b, o', hv, _⟩ := hx'
      exact AOk.same R ⟨a.eval x, by simp [execOp, ho, hv], hx⟩
    · cases h
  -- binOp
  · rename_i op t x y _ ho
    simp only [Option.map_eq_some_iff] at h
    obtain ⟨v, hv, h⟩ := h
    cases h
    have hrun : (execOp a.eval o).run cx.P w = (do let x ← (do eqGuard op t x y (a.eval x) (a.eval y); Go.binOp op t (a.eval x) (a.eval y) : Sem Value); pure (.value x) : Sem Next).run cx.P w := by simp [execOp, ho]
    rw [hrun]
    rw [Option.or_eq_some_iff] at hv
    rcases hv with hv | ⟨_, hv⟩
    · exact AOk.of_v R (abin_ok hv (hfr x (by simp [ho, Op.operands])) (hfr y (by simp [ho, Op.operands])))
    · split at hv
      · rename_i ms hms
        exact AOk.of_v R (aifc_ok ⟨ms, hms⟩ hv (hfr x (by simp [ho, Op.operands])) (hfr y (by simp [ho, Op.operands])))
      · cases hv
  -- unOp
  · rename_i op t x ho
    simp only [Option.map_eq_some_iff] at h
    obtain ⟨v, hv, h⟩ := h
    cases h
    have hrun : (execOp a.eval o).run cx.P w = (do let x ← Op.unary op (a.eval x); pure (.value x) : Sem Next).run cx.P w := by simp [execOp, ho]
    rw [hrun]
    exact AOk.of_v R (aun_ok hv (hfr x (by simp [ho, Op.operands])))
  -- convert
  · rename_i s d x ho
    simp only [Option.map_eq_some_iff] at h
    obtain ⟨v, hv, h⟩ := h
    cases h
    have hrun : (execOp a.eval o).run cx.P w = (do let x ← Go.convert s d (a.eval x); pure (.value x) : Sem Next).run cx.P w := by simp [execOp, ho]
    rw [hrun]
    exact AOk.of_v R (aconv_ok hv (hfr x (by simp [ho, Op.operands])))
  -- makeInterface
  · rename_i t x ho
    have hx := hfr x (by simp [ho, Op.operands])
    split at h
    · cases h
    · rename_i td d hni htd he
      simp only [Option.map_some] at h; cases h
      rw [he] at hx
      refine AOk.same R ⟨.iface t (a.eval x), ?_, a.eval x, rfl, hx⟩
      have hu := run_underlying htd (w := w)
      simp only [execOp, ho, Instr.makeInterface, Sem.run_bind, hu, Result.andThen_ok]
      rfl
    · cases h
  -- makeFunc
  · rename_i g first cap ho
    split at h
    · rename_i hf
      simp only [Option.map_some] at h; cases h
      have hf0 : first = #[] := by simpa using hf
      have hc : RepAL w ρ H (Nof ρ H X B) (Nqof ρ H X) (cap.toList.map (ev fr)) (cap.map a.eval).toList := by
        rw [Array.toList_map]
        exact RepAL.of_map fun x hx => hfr x (by simp only [ho, Op.operands]; simpa [hf0] using hx)
      refine AOk.same R ⟨.func (.func g) #[] (cap.map a.eval), by simp [execOp, ho, Instr.makeFunc, hf0], ?_⟩
      split
      · rename_i ds hds
        rw [allIm_eq hds] at hc
        exact ⟨_, rfl, RepAL.im.1 hc⟩
      · exact ⟨_, _, rfl, rfl, hc⟩
    · cases h
  -- makeMap
  · rename_i t r ho
    split at h
    · rename_i hr
      cases h
      have hr0 : r = none := by simpa using hr
      have hrun : (execOp a.eval o).run cx.P w = (do let x ← Instr.makeMap t none; pure (.value x) : Sem Next).run cx.P w := by simp [execOp, ho, hr0]
      rw [hrun]
      exact AOk.of_V (amakeMap_ok R t)
    · cases h
  -- makeSlice
  · rename_i t n c ho
    simp only [Option.map_eq_some_iff] at h
    obtain ⟨⟨v, H'⟩, hv, h⟩ := h
    cases h
    have hrun : (execOp a.eval o).run cx.P w = (do let x ← Instr.makeSlice t (a.eval n) (a.eval c); pure (.value x) : Sem Next).run cx.P w := by simp [execOp, ho]
    rw [hrun]
    exact AOk.of_V (amakeSlice_ok R hv (hfr n (by simp [ho, Op.operands])) (hfr c (by simp [ho, Op.operands])))
  -- slice
  · rename_i t x lo hi mx ho
    split at h
    · cases h
    · rename_i hmh
      simp only [Option.map_eq_some_iff] at h
      obtain ⟨v, hv, h⟩ := h
      cases h
      have hrun : (execOp a.eval o).run cx.P w = (do let x ← Instr.sliceAt t (a.eval x) (lo.map a.eval) (hi.map a.eval) (mx.map a.eval); pure (.value x) : Sem Next).run cx.P w := by simp [execOp, ho]
      rw [hrun]
      have hopt : ∀ y : Option Operand, (∀ x ∈ y.toArray, Rp X B ρ w H (ev fr x) (a.eval x)) → (∀ v, y.map (ev fr) = some v → ∃ cv, y.map a.eval = some cv ∧ Rp X B ρ w H v cv) ∧ (y.map (ev fr) = none → y.map a.eval = none) := by
        intro y hy
        cases y with
        | none => exact ⟨fun v h => (by cases h), fun _ => rfl⟩
        | some x => exact ⟨fun v h => (by cases h; exact ⟨_, rfl, hy x (by simp)⟩), fun h => by cases h⟩
      refine AOk.of_v R (aslice_ok hv (hfr x (by simp [ho, Op.operands])) (hopt lo fun x hx => hfr x ?_) (hopt hi fun x hx => hfr x ?_) (hopt mx fun x hx => hfr x ?_) ?_)
      · simp only [ho, Op.operands, Array.mem_append]; exact .inl (.inl (.inr hx))
      · simp only [ho, Op.operands, Array.mem_append]; exact .inl (.inr hx)
      · simp only [ho, Op.operands, Array.mem_append]; exact .inr hx
      · cases mx <;> cases hi <;> simp_all
  -- fieldAddr
  · rename_i t x f ho
    simp only [Option.map_eq_some_iff] at h
    obtain ⟨v, hv, h⟩ := h
    cases h
    have hrun : (execOp a.eval o).run cx.P w = (do let x ← Instr.fieldAt t (a.eval x) f; pure (.value x) : Sem Next).run cx.P w := by simp [execOp, ho]
    rw [hrun]
    exact AOk.of_v R (afieldAddr_ok hv (hfr x (by simp [ho, Op.operands])))
  -- field
  · rename_i t x f ho
    simp only [Option.map_eq_some_iff] at h
    obtain ⟨v, hv, h⟩ := h
    cases h
    have hrun : (execOp a.eval o).run cx.P w = (do let x ← Instr.field t (a.eval x) f; pure (.value x) : Sem Next).run cx.P w := by simp [execOp, ho]
    rw [hrun]
    exact AOk.of_v R (afield_ok hv (hfr x (by simp [ho, Op.operands])))
  -- indexAddr
  · rename_i t x i ho
    simp only [Option.map_eq_some_iff] at h
    obtain ⟨v, hv, h⟩ := h
    cases h
    have hrun : (execOp a.eval o).run cx.P w = (do let x ← Instr.indexAt t (a.eval x) (a.eval i); pure (.value x) : Sem Next).run cx.P w := by simp [execOp, ho]
    rw [hrun]
    exact AOk.of_v R (aindexAddr_ok hv (hfr x (by simp [ho, Op.operands])) (hfr i (by simp [ho, Op.operands])))
  -- index
  · rename_i t x i ho
    simp only [Option.map_eq_some_iff] at h
    obtain ⟨v, hv, h⟩ := h
    cases h
    have hrun : (execOp a.eval o).run cx.P w = (do let x ← Instr.index t (a.eval x) (a.eval i); pure (.value x) : Sem Next).run cx.P w := by simp [execOp, ho]
    rw [hrun]
    exact AOk.of_v R (aindex_ok hv (hfr x (by simp [ho, Op.operands])) (hfr i (by simp [ho, Op.operands])))
  -- lookup
  · rename_i t x i ok ho
    simp only [Option.map_eq_some_iff] at h
    obtain ⟨v, hv, h⟩ := h
    cases h
    have hrun : (execOp a.eval o).run cx.P w = (do let x ← Instr.lookup t (a.eval x) (a.eval i) ok; pure (.value x) : Sem Next).run cx.P w := by simp [execOp, ho]
    rw [hrun]
    exact AOk.of_v R (alookup_ok R hv (hfr x (by simp [ho, Op.operands])) (hfr i (by simp [ho, Op.operands])))
  -- mapUpdate
  · rename_i t m k x ho
    simp only [Option.map_eq_some_iff] at h
    obtain ⟨H', hv, h⟩ := h
    cases h
    have hrun : (execOp a.eval o).run cx.P w = (do Instr.mapUpdate t (a.eval m) (a.eval k) (a.eval x); pure .skip : Sem Next).run cx.P w := by simp [execOp, ho]
    rw [hrun]
    exact AOk.of_U (amapUpdate_ok R hv (hfr m (by simp [ho, Op.operands])) (hfr k (by simp [ho, Op.operands])) (hfr x (by simp [ho, Op.operands])))
  -- extract
  · rename_i t i ho
    have ht := hfr t (by simp [ho, Op.operands])
    split at h
    · rename_i cs he
      simp only [Option.map_map, Option.map_eq_some_iff] at h
      obtain ⟨d, hd, h⟩ := h
      cases h
      rw [he] at ht
      obtain ⟨l, hl, hr⟩ := ht
      obtain ⟨u, hu, hru⟩ := hr.get hd
      refine AOk.same R ⟨u, ?_, hru⟩
      simp only [execOp, ho, hl, Instr.extract]
      rw [Array.getElem?_toList] at hu
      simp [hu]
    · rename_i cs he
      simp only [Option.map_eq_some_iff] at h
      obtain ⟨v, hv, h⟩ := h
      cases h
      rw [he] at ht
      obtain ⟨l, hl, hr⟩ := ht
      obtain ⟨u, hu, hru⟩ := hr.get hv
      refine AOk.same R ⟨u, ?_, hru⟩
      simp only [execOp, ho, hl, Instr.extract]
      rw [Array.getElem?_toList] at hu
      simp [hu]
    · cases h
  -- typeAssert
  · rename_i x xt u ho
    have hx := hfr x (by simp [ho, Op.operands])
    split at h
    · cases h
    · rename_i td t d hni htd he
      split at h
      · rename_i htu
        simp only [Option.map_some] at h; cases h
        subst htu
        rw [he] at hx
        obtain ⟨v, hv, hr⟩ := hx
        refine AOk.same R ⟨.tuple #[v, .bool true], ?_, #[v, .bool true], rfl, v, [.bool true], rfl, hr, _, _, rfl, rfl, rfl⟩
        have hu := run_underlying htd (w := w)
        simp only [execOp, ho, Instr.typeAssert, Sem.run_bind, hu, Result.andThen_ok, hv]
        simp
      · cases h
    · cases h
  -- call of a value
  · rename_i f args _ ho
    simp only [Option.map_eq_some_iff] at h
    obtain ⟨r, hr, h⟩ := h
    cases h
    have ha : RepAL w ρ H (Nof ρ H X B) (Nqof ρ H X) (args.toList.map (ev fr)) (args.map a.eval).toList := by
      rw [Array.toList_map]
      exact RepAL.of_map fun x hx => hfr x (by simp only [ho, Op.operands, Call.operands]; simp; exact .inr (by simpa using hx))
    have := callee_ok (P := cx.P) hr (hfr f (by simp [ho, Op.operands, Call.operands])) ha
    have hrun : (execOp a.eval o).run cx.P w = (do let d ← Deferred.ofValue (a.eval f) (args.map a.eval); invoke d.target d.args : Sem Next).run cx.P w := by simp [execOp, ho, resolve]
    rw [hrun]
    exact this
  -- builtin
  · rename_i b args argTypes ho
    obtain ⟨cs, hrun⟩ : ∃ cs, (execOp a.eval o).run cx.P w = (builtin b argTypes o.type cs (args.map a.eval)).run cx.P w := ⟨_, by simp only [execOp, ho, resolve, Sem.run_bind, Sem.run_pure, Result.andThen_ok, invoke]; rfl⟩
    rw [hrun]
    have ha : RepAL w ρ H (Nof ρ H X B) (Nqof ρ H X) (args.toList.map (ev fr)) (args.map a.eval).toList := by
      rw [Array.toList_map]
      exact RepAL.of_map fun x hx => hfr x (by simp only [ho, Op.operands, Call.operands]; simpa using hx)
    generalize (args.map a.eval) = cas at ha ⊢
    generalize args.toList.map (ev fr) = as at ha h
    have hone : ∀ {x : AV}, as = [x] → ∃ cx', cas = #[cx'] ∧ Rp X B ρ w H x cx' := fun {x} e => by
      subst e
      obtain ⟨v1, vs, e1, h1, h2⟩ := ha
      have h2 : vs = [] := h2
      subst h2
      exact ⟨v1, Array.toList_inj.1 (by simp [e1]), h1⟩
    have htwo : ∀ {x y : AV}, as = [x, y] → ∃ cx' cy, cas = #[cx', cy] ∧ Rp X B ρ w H x cx' ∧ Rp X B ρ w H y cy := fun {x y} e => by
      subst e
      obtain ⟨v1, vs, e1, h1, v2, vs2, e2, h3, h2⟩ := ha
      have h2 : vs2 = [] := h2
      subst h2; subst e2
      exact ⟨v1, v2, Array.toList_inj.1 (by simp [e1]), h1, h3⟩
    split at h
    · rename_i x t hat
      simp only [Option.map_eq_some_iff] at h
      obtain ⟨v, hv, h⟩ := h
      cases h
      obtain ⟨cx', rfl, hx⟩ := hone rfl
      have : argTypes = #[t] := Array.toList_inj.1 (by simp [hat])
      subst this
      exact AOk.of_v R (alen_ok R hv hx)
    · rename_i x t hat
      simp only [Option.map_eq_some_iff] at h
      obtain ⟨v, hv, h⟩ := h
      cases h
      obtain ⟨cx', rfl, hx⟩ := hone rfl
      have : argTypes = #[t] := Array.toList_inj.1 (by simp [hat])
      subst this
      exact AOk.of_V (aclear_ok R hv hx)
    · rename_i x y t t' hat
      split at h
      · rename_i htt
        subst htt
        simp only [Option.map_eq_some_iff] at h
        obtain ⟨⟨v, H'⟩, hv, h⟩ := h
        cases h
        obtain ⟨cx', cy, rfl, hx, hy⟩ := htwo rfl
        have : argTypes = #[t, t] := Array.toList_inj.1 (by simp [hat])
        subst this
        exact AOk.of_V (aappend_ok R hv hx hy)
      · cases h
    · simp only [Option.map_eq_some_iff] at h
      obtain ⟨v, hv, h⟩ := h
      cases h
      exact AOk.of_v R (amaxmin_ok (m := true) (a1 := argTypes) (ty := o.type) hv ha)
    · simp only [Option.map_eq_some_iff] at h
      obtain ⟨v, hv, h⟩ := h
      cases h
      exact AOk.of_v R (amaxmin_ok (m := false) (a1 := argTypes) (ty := o.type) hv ha)
    · cases h
  -- put off
  · rename_i f args _ ho
    split at h
    · rename_i g as hc
      cases h
      have ha : RepAL w ρ H (Nof ρ H X B) (Nqof ρ H X) (args.toList.map (ev fr)) (args.map a.eval).toList := by
        rw [Array.toList_map]
        exact RepAL.of_map fun x hx => hfr x (by simp only [ho, Op.operands, Call.operands]; simp; exact .inr (by simpa using hx))
      obtain ⟨cap, h1, h2⟩ := callee_dfr (P := cx.P) hc (hfr f (by simp [ho, Op.operands, Call.operands])) ha
      exact ⟨cap, _, by simp [execOp, ho, resolve, h1], h2⟩
    · cases h
  -- panics
  · rename_i x ho
    split at h
    · rename_i t d he
      cases h
      have hx := hfr x (by simp [ho, Op.operands])
      rw [he] at hx
      obtain ⟨u, hu, hr⟩ := hx
      exact ⟨_, by simp only [execOp, ho]; rw [hu]; rfl, u, rfl, hr⟩
    · cases h
  · cases h
end
end Go.Proofs.Ytnbbhbbhgcipjaa.Am
