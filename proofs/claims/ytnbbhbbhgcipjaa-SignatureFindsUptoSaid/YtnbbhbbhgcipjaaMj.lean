/-
  The program: what it finds of names (loops over functions), and the family of a name.
  Calls of functions that hand back a row of their own.
  Spines of the reference; what both sides analyse a family with.
  Calls that are lent a row of the caller.
  Maps of numbers; calls that are lent something and hand back data by view; data with nothing lent in it.
-/
import Derived.Test.YtnbbhbbhgcipjaaMi
import Derived.Test.YtnbbhbbhgcipjaaMh
set_option linter.unusedVariables false
set_option linter.unnecessarySimpa false
set_option linter.unusedSimpArgs false
set_option linter.unusedSectionVars false
namespace Go.Proofs.Ytnbbhbbhgcipjaa.Am
attribute [local irreducible] W WO WD WL WR WC WOp W1 WDf kcall kdfr kpn ob eb kval kvh kH kn0 kmp kvc kvc0 kca kpk kgb kgd kcd kcl kbl kres kmt wseq kseq kblock kreg kdn kdE kbd kcr kdm kdb kdg kdo kfin klp kround ksend kcol RN
/-- What the caller's round does with a name and an entry: goes on at other names, takes the entry at the name. -/
def RoundIs (l : Nat) (s : ByteArray) (P : AHeap) (F : List Imm → AHeap) : Prop := ∀ (G : AHeap) (nm : ByteArray) (e : Entry) (er : List Imm), e.Enc er →
  WC cx (.round l [.im (.s nm), .im (.agg er)]) (P ++ G) fun v H => ∃ k, (¬nm = s ∧ v = .im (.b true) ∧ H = P ++ (G ++ List.replicate k .gone)) ∨ (nm = s ∧ v = .im (.b false) ∧ H = F er ++ (G ++ List.replicate k .gone))
def Found (d : Decl) (x : Int) (s : ByteArray) (P : AHeap) (F : List Imm → AHeap) (v : AV) (H : AHeap) : Prop :=
  v = .im (.tup []) ∧ ∃ G, (¬d.declares s ∧ H = P ++ G) ∨ (d.declares s ∧ ∃ er, (d.entry x s).Enc er ∧ H = F er ++ G)
theorem WC.mono' {r : Req} {H : AHeap} {Q R : AV → AHeap → Prop} (h : WC cx r H Q) (hR : ∀ v H', Q v H' → R v H') : WC cx r H R := WC.mono h hR
theorem f112 (d : Decl) (r : List Imm) (x : Int) (s : ByteArray) (l : Nat) (P : AHeap) (F : List Imm → AHeap) (h : d.Enc r) (hFl : ∀ er, (F er).length = P.length) (hr : RoundIs l s P F) :
    FN cx 112 [.fn (.yield l) [], .im (.ip 1 false [[.i .i64 x]] 0 0), .im (.ip 23 false [r] 0 0)] P (Found d x s P F) := by
  refine FN.intro (fn := Try.f112) Try.func112 rfl rfl ?_
  obtain ⟨t0, t1, t2, t3, t4, v0, v1, v2, v3, v4, cz, ct, ces, u0, u1, u2, u3, u4, rz, rt, res, fz, ft, fes, rfl, hdk, hdn, hdp, hT, hV, hdf, hcz, hcl, hC, hrp, hU, hrz, hrl, hR, hfz, hfl, hF, hTn⟩ := h
  have hent : ∀ (y : Entry) t0 t1 t2 t3 t4, y.type.Enc [t0, t1, t2, t3, t4] → y.Enc [.i .i64 y.kind, .i .i64 y.decl, .i .i64 y.item, .i .i64 y.params, t0, t1, t2, t3, t4] := fun y t0 t1 t2 t3 t4 ht => ⟨_, _, _, _, _, rfl, ht⟩
  simp -implicitDefEqProofs only [↓W_seq, go_sem, ↓reduceIte, Nat.reduceBEq, Nat.reduceAdd, Nat.reduceLeDiff, Nat.reduceEqDiff, reduceCtorEq, Int.reduceToNat, Int.reduceLE, Int.reduceLT, Int.reduceEq, Int.reduceNeg, Nat.reduceLT, Nat.reduceSub, Nat.reduceMul]
  refine kcd_dec (fun e0 => ?_) (fun e0 => ?_) <;> simp -implicitDefEqProofs only [↓W_seq, go_sem, ↓reduceIte, Nat.reduceBEq, Nat.reduceAdd, Nat.reduceLeDiff, Nat.reduceEqDiff, reduceCtorEq, Int.reduceToNat, Int.reduceLE, Int.reduceLT, Int.reduceEq, Int.reduceNeg, Nat.reduceLT, Nat.reduceSub, Nat.reduceMul, e0]
  · have hd : d.declares s ↔ s = d.name := by
      unfold Decl.declares
      exact ⟨fun h => by rcases h with h | h | h <;> first | exact h.2 | (have := h.1; omega), fun h => .inl ⟨by omega, h⟩⟩
    have he : d.entry x s = ⟨0, x, 0, d.params, d.type⟩ := by unfold Decl.entry; simp [e0]
    refine WC.mono (hr _ _ ⟨0, x, 0, d.params, d.type⟩ _ (hent ⟨0, x, 0, d.params, d.type⟩ _ _ _ _ _ hT)) ?_
    rintro v H ⟨k, ⟨hne, rfl, rfl⟩ | ⟨hs, rfl, rfl⟩⟩ <;> simp -implicitDefEqProofs only [↓W_seq, go_sem, ↓reduceIte, Nat.reduceBEq, Nat.reduceAdd, Nat.reduceLeDiff, Nat.reduceEqDiff, reduceCtorEq, Int.reduceToNat, Int.reduceLE, Int.reduceLT, Int.reduceEq, Int.reduceNeg, Nat.reduceLT, Nat.reduceSub, Nat.reduceMul]
    · exact ⟨rfl, _, .inl ⟨fun h => hne (hd.1 h).symm, rfl⟩⟩
    · exact ⟨rfl, _, .inr ⟨hd.2 hs.symm, _, by rw [he]; exact hent ⟨0, x, 0, d.params, d.type⟩ _ _ _ _ _ hT, rfl⟩⟩
  refine kcd_dec (fun e1 => ?_) (fun e1 => ?_) <;> simp -implicitDefEqProofs only [↓W_seq, go_sem, ↓reduceIte, Nat.reduceBEq, Nat.reduceAdd, Nat.reduceLeDiff, Nat.reduceEqDiff, reduceCtorEq, Int.reduceToNat, Int.reduceLE, Int.reduceLT, Int.reduceEq, Int.reduceNeg, Nat.reduceLT, Nat.reduceSub, Nat.reduceMul, e1]
  · have hd : d.declares s ↔ s = d.name := by
      unfold Decl.declares
      exact ⟨fun h => by rcases h with h | h | h <;> first | exact h.2 | (have := h.1; omega), fun h => .inl ⟨by omega, h⟩⟩
    have he : d.entry x s = ⟨1, x, 0, d.params, d.type⟩ := by unfold Decl.entry; simp [e1]
    refine WC.mono (hr _ _ ⟨1, x, 0, d.params, d.type⟩ _ (hent ⟨1, x, 0, d.params, d.type⟩ _ _ _ _ _ hT)) ?_
    rintro v H ⟨k, ⟨hne, rfl, rfl⟩ | ⟨hs, rfl, rfl⟩⟩ <;> simp -implicitDefEqProofs only [↓W_seq, go_sem, ↓reduceIte, Nat.reduceBEq, Nat.reduceAdd, Nat.reduceLeDiff, Nat.reduceEqDiff, reduceCtorEq, Int.reduceToNat, Int.reduceLE, Int.reduceLT, Int.reduceEq, Int.reduceNeg, Nat.reduceLT, Nat.reduceSub, Nat.reduceMul]
    · exact ⟨rfl, _, .inl ⟨fun h => hne (hd.1 h).symm, rfl⟩⟩
    · exact ⟨rfl, _, .inr ⟨hd.2 hs.symm, _, by rw [he]; exact hent ⟨1, x, 0, d.params, d.type⟩ _ _ _ _ _ hT, rfl⟩⟩
  refine kcd_dec (fun e2 => ?_) (fun e2 => ?_) <;> simp -implicitDefEqProofs only [↓W_seq, go_sem, ↓reduceIte, Nat.reduceBEq, Nat.reduceAdd, Nat.reduceLeDiff, Nat.reduceEqDiff, reduceCtorEq, Int.reduceToNat, Int.reduceLE, Int.reduceLT, Int.reduceEq, Int.reduceNeg, Nat.reduceLT, Nat.reduceSub, Nat.reduceMul, e2]
  · have hd : d.declares s ↔ s = d.name := by
      unfold Decl.declares
      exact ⟨fun h => by rcases h with h | h | h <;> first | exact h.2 | (have := h.1; omega), fun h => .inl ⟨by omega, h⟩⟩
    have he : d.entry x s = ⟨2, x, 0, d.params, d.type⟩ := by unfold Decl.entry; simp [e2]
    refine WC.mono (hr _ _ ⟨2, x, 0, d.params, d.type⟩ _ (hent ⟨2, x, 0, d.params, d.type⟩ _ _ _ _ _ hT)) ?_
    rintro v H ⟨k, ⟨hne, rfl, rfl⟩ | ⟨hs, rfl, rfl⟩⟩ <;> simp -implicitDefEqProofs only [↓W_seq, go_sem, ↓reduceIte, Nat.reduceBEq, Nat.reduceAdd, Nat.reduceLeDiff, Nat.reduceEqDiff, reduceCtorEq, Int.reduceToNat, Int.reduceLE, Int.reduceLT, Int.reduceEq, Int.reduceNeg, Nat.reduceLT, Nat.reduceSub, Nat.reduceMul]
    · exact ⟨rfl, _, .inl ⟨fun h => hne (hd.1 h).symm, rfl⟩⟩
    · exact ⟨rfl, _, .inr ⟨hd.2 hs.symm, _, by rw [he]; exact hent ⟨2, x, 0, d.params, d.type⟩ _ _ _ _ _ hT, rfl⟩⟩
  refine kcd_dec (fun e3 => ?_) (fun e3 => ?_) <;> simp -implicitDefEqProofs only [↓W_seq, go_sem, ↓reduceIte, Nat.reduceBEq, Nat.reduceAdd, Nat.reduceLeDiff, Nat.reduceEqDiff, reduceCtorEq, Int.reduceToNat, Int.reduceLE, Int.reduceLT, Int.reduceEq, Int.reduceNeg, Nat.reduceLT, Nat.reduceSub, Nat.reduceMul, e3]
  · have hd : d.declares s ↔ ((∃ c ∈ d.ctors, c.name = s) ∨ s = d.name ∨ s = d.name ++ dotRec) := by
      unfold Decl.declares
      exact ⟨fun h => by rcases h with h | h | h <;> first | exact h.2 | (have := h.1; omega), fun h => .inr (.inl ⟨e3, h⟩)⟩
    have he : d.entry x s = if s = d.name then ⟨3, x, 0, d.params, d.type⟩ else match d.ctorAt s with
      | some i => ⟨4, x, i, d.params, ((d.ctors[i]?).map (·.type)).getD d.type⟩
      | none => ⟨5, x, 0, d.recParams, d.recType⟩ := by rw [Decl.entry, if_neg (by omega), if_neg (by omega), if_neg (by omega), if_pos e3]; rfl
    refine WC.mono (hr _ _ ⟨3, x, 0, d.params, d.type⟩ _ (hent ⟨3, x, 0, d.params, d.type⟩ _ _ _ _ _ hT)) ?_
    rintro v H ⟨k, ⟨hne, rfl, rfl⟩ | ⟨hs, rfl, rfl⟩⟩ <;> simp -implicitDefEqProofs only [↓W_seq, go_sem, ↓reduceIte, Nat.reduceBEq, Nat.reduceAdd, Nat.reduceLeDiff, Nat.reduceEqDiff, reduceCtorEq, Int.reduceToNat, Int.reduceLE, Int.reduceLT, Int.reduceEq, Int.reduceNeg, Nat.reduceLT, Nat.reduceSub, Nat.reduceMul]
    rotate_left
    · exact ⟨rfl, _, .inr ⟨hd.2 (.inr (.inl hs.symm)), _, by rw [he, if_pos hs.symm]; exact hent ⟨3, x, 0, d.params, d.type⟩ _ _ _ _ _ hT, rfl⟩⟩
    refine WL.upto ces.length (fun j st => (∀ i, i < j → ∀ c : Ctor, d.ctors[i]? = some c → ¬c.name = s) ∧ ∃ G, st = ⟨[(0, .fn (.yield l) []), (1, .im (.ip 1 false [[.i .i64 x]] 0 0)), (2, .im (.ip 23 false [[.i .i64 d.kind, .s d.name, .i .i64 d.params, t0, t1, t2, t3, t4, v0, v1, v2, v3, v4, .i .i64 d.fixed, .sl cz false ct ces, .i .i64 d.recParams, u0, u1, u2, u3, u4, .sl rz false rt res, .sl fz false ft fes]] 0 0)), (42, .im (.sl cz false ct ces)), (43, .im (.i .i64 ces.length)), (44, .im (.i .i64 j))], [], P ++ G⟩) ?_ ⟨by omega, _, by rw [e3]; rfl⟩
    rintro j st hj ⟨hI, G, rfl⟩
    simp -implicitDefEqProofs only [↓W_seq, go_sem, ↓reduceIte, Nat.reduceBEq, Nat.reduceAdd, Nat.reduceLeDiff, Nat.reduceEqDiff, reduceCtorEq, Int.reduceToNat, Int.reduceLE, Int.reduceLT, Int.reduceEq, Int.reduceNeg, Nat.reduceLT, Nat.reduceSub, Nat.reduceMul]
    refine kcd_dec (fun h1 => ?_) (fun h1 => ?_)
    · have hj1 : j < ces.length := by omega
      obtain ⟨rfl, a, r, ha, hr', x0, x1, x2, x3, x4, rfl, hx, hX, hXn⟩ := hC.at hcz hj1
      simp -implicitDefEqProofs only [↓W_seq, go_sem, ↓reduceIte, Nat.reduceBEq, Nat.reduceAdd, Nat.reduceLeDiff, Nat.reduceEqDiff, reduceCtorEq, Int.reduceToNat, Int.reduceLE, Int.reduceLT, Int.reduceEq, Int.reduceNeg, Nat.reduceLT, Nat.reduceSub, Nat.reduceMul, hj1, hr']
      refine WC.mono (hr _ _ ⟨4, x, j, d.params, a.type⟩ _ (hent ⟨4, x, j, d.params, a.type⟩ _ _ _ _ _ hX)) ?_
      rintro v H ⟨k, ⟨hne', rfl, rfl⟩ | ⟨hs, rfl, rfl⟩⟩ <;> simp -implicitDefEqProofs only [↓W_seq, go_sem, ↓reduceIte, Nat.reduceBEq, Nat.reduceAdd, Nat.reduceLeDiff, Nat.reduceEqDiff, reduceCtorEq, Int.reduceToNat, Int.reduceLE, Int.reduceLT, Int.reduceEq, Int.reduceNeg, Nat.reduceLT, Nat.reduceSub, Nat.reduceMul, wrap_succ hj1 hcl]
      · refine ⟨fun i hi c hc => ?_, _, rfl⟩
        rcases Nat.lt_succ_iff_lt_or_eq.1 hi with hi | rfl
        · exact hI i hi c hc
        · rw [ha] at hc; cases hc; exact hne'
      · have hf : d.ctorAt s = some j := first_some ha hs hI
        exact ⟨rfl, _, .inr ⟨hd.2 (.inl ⟨a, List.mem_of_getElem? ha, hs⟩), _, by rw [he, if_neg (fun h => hne h.symm), hf]; simp only [ha, Option.map_some, Option.getD_some]; exact hent ⟨4, x, j, d.params, a.type⟩ _ _ _ _ _ hX, rfl⟩⟩
    · have hcat : d.name.size + (⟨#[46, 114, 101, 99]⟩ : ByteArray).size ≤ 9223372036854775807 := by
        have : (⟨#[46, 114, 101, 99]⟩ : ByteArray).size = 4 := rfl
        have : lim = 1073741824 := rfl
        omega
      have hno : ∀ (i : Nat) (b : Ctor), d.ctors[i]? = some b → ¬b.name = s := fun i b hb => hI i (by have := (List.getElem?_eq_some_iff.1 hb).1; rw [hC.length] at this; omega) b hb
      have hf : d.ctorAt s = none := first_none hno
      simp -implicitDefEqProofs only [↓W_seq, go_sem, ↓reduceIte, Nat.reduceBEq, Nat.reduceAdd, Nat.reduceLeDiff, Nat.reduceEqDiff, reduceCtorEq, Int.reduceToNat, Int.reduceLE, Int.reduceLT, Int.reduceEq, Int.reduceNeg, Nat.reduceLT, Nat.reduceSub, Nat.reduceMul, bin_sadd hcat]
      refine WC.mono (hr _ _ ⟨5, x, 0, d.recParams, d.recType⟩ _ (hent ⟨5, x, 0, d.recParams, d.recType⟩ _ _ _ _ _ hU)) ?_
      rintro v H ⟨k, ⟨hne', rfl, rfl⟩ | ⟨hs, rfl, rfl⟩⟩ <;> simp -implicitDefEqProofs only [↓W_seq, go_sem, ↓reduceIte, Nat.reduceBEq, Nat.reduceAdd, Nat.reduceLeDiff, Nat.reduceEqDiff, reduceCtorEq, Int.reduceToNat, Int.reduceLE, Int.reduceLT, Int.reduceEq, Int.reduceNeg, Nat.reduceLT, Nat.reduceSub, Nat.reduceMul]
      · refine ⟨rfl, _, .inl ⟨fun h => ?_, rfl⟩⟩
        rcases hd.1 h with ⟨c, hc, e⟩ | h | h
        · obtain ⟨i, hi⟩ := List.getElem?_of_mem hc
          exact hno i c hi e
        · exact hne h.symm
        · exact hne' h.symm
      · exact ⟨rfl, _, .inr ⟨hd.2 (.inr (.inr hs.symm)), _, by rw [he, if_neg (fun h => hne h.symm), hf]; exact hent ⟨5, x, 0, d.recParams, d.recType⟩ _ _ _ _ _ hU, rfl⟩⟩
  refine kcd_dec (fun e4 => ?_) (fun e4 => ?_) <;> simp -implicitDefEqProofs only [↓W_seq, go_sem, ↓reduceIte, Nat.reduceBEq, Nat.reduceAdd, Nat.reduceLeDiff, Nat.reduceEqDiff, reduceCtorEq, Int.reduceToNat, Int.reduceLE, Int.reduceLT, Int.reduceEq, Int.reduceNeg, Nat.reduceLT, Nat.reduceSub, Nat.reduceMul, e4]
  · have hd : d.declares s ↔ (∃ c ∈ d.funs, c.name = s) := by
      unfold Decl.declares
      exact ⟨fun h => by rcases h with h | h | h <;> first | exact h.2 | (have := h.1; omega), fun h => .inr (.inr ⟨e4, h⟩)⟩
    have he : d.entry x s = match d.funAt s with
      | some i => ⟨6, x, i, d.params, ((d.funs[i]?).map (·.type)).getD d.type⟩
      | none => ⟨0, x, 0, d.params, d.type⟩ := by rw [Decl.entry, if_neg e0, if_neg e1, if_neg e2, if_neg e3]; rfl
    refine WL.upto fes.length (fun j st => (∀ i, i < j → ∀ c : Fn, d.funs[i]? = some c → ¬c.name = s) ∧ ∃ G, st = ⟨[(0, .fn (.yield l) []), (1, .im (.ip 1 false [[.i .i64 x]] 0 0)), (2, .im (.ip 23 false [[.i .i64 d.kind, .s d.name, .i .i64 d.params, t0, t1, t2, t3, t4, v0, v1, v2, v3, v4, .i .i64 d.fixed, .sl cz false ct ces, .i .i64 d.recParams, u0, u1, u2, u3, u4, .sl rz false rt res, .sl fz false ft fes]] 0 0)), (78, .im (.sl fz false ft fes)), (79, .im (.i .i64 fes.length)), (80, .im (.i .i64 j))], [], P ++ G⟩) ?_ ⟨by omega, _, by rw [e4]; rfl⟩
    rintro j st hj ⟨hI, G, rfl⟩
    simp -implicitDefEqProofs only [↓W_seq, go_sem, ↓reduceIte, Nat.reduceBEq, Nat.reduceAdd, Nat.reduceLeDiff, Nat.reduceEqDiff, reduceCtorEq, Int.reduceToNat, Int.reduceLE, Int.reduceLT, Int.reduceEq, Int.reduceNeg, Nat.reduceLT, Nat.reduceSub, Nat.reduceMul]
    refine kcd_dec (fun h1 => ?_) (fun h1 => ?_)
    · have hj1 : j < fes.length := by omega
      obtain ⟨rfl, a, r, ha, hr', x0, x1, x2, x3, x4, y0, y1, y2, y3, y4, y5, y6, y7, rfl, hx, hX, hy, hY⟩ := hF.at hfz hj1
      simp -implicitDefEqProofs only [↓W_seq, go_sem, ↓reduceIte, Nat.reduceBEq, Nat.reduceAdd, Nat.reduceLeDiff, Nat.reduceEqDiff, reduceCtorEq, Int.reduceToNat, Int.reduceLE, Int.reduceLT, Int.reduceEq, Int.reduceNeg, Nat.reduceLT, Nat.reduceSub, Nat.reduceMul, hj1, hr']
      refine WC.mono (hr _ _ ⟨6, x, j, d.params, a.type⟩ _ (hent ⟨6, x, j, d.params, a.type⟩ _ _ _ _ _ hX)) ?_
      rintro v H ⟨k, ⟨hne', rfl, rfl⟩ | ⟨hs, rfl, rfl⟩⟩ <;> simp -implicitDefEqProofs only [↓W_seq, go_sem, ↓reduceIte, Nat.reduceBEq, Nat.reduceAdd, Nat.reduceLeDiff, Nat.reduceEqDiff, reduceCtorEq, Int.reduceToNat, Int.reduceLE, Int.reduceLT, Int.reduceEq, Int.reduceNeg, Nat.reduceLT, Nat.reduceSub, Nat.reduceMul, wrap_succ hj1 hfl]
      · refine ⟨fun i hi c hc => ?_, _, rfl⟩
        rcases Nat.lt_succ_iff_lt_or_eq.1 hi with hi | rfl
        · exact hI i hi c hc
        · rw [ha] at hc; cases hc; exact hne'
      · have hf : d.funAt s = some j := first_some ha hs hI
        exact ⟨rfl, _, .inr ⟨hd.2 ⟨a, List.mem_of_getElem? ha, hs⟩, _, by rw [he, hf]; simp only [ha, Option.map_some, Option.getD_some]; exact hent ⟨6, x, j, d.params, a.type⟩ _ _ _ _ _ hX, rfl⟩⟩
    · simp -implicitDefEqProofs only [↓W_seq, go_sem, ↓reduceIte, Nat.reduceBEq, Nat.reduceAdd, Nat.reduceLeDiff, Nat.reduceEqDiff, reduceCtorEq, Int.reduceToNat, Int.reduceLE, Int.reduceLT, Int.reduceEq, Int.reduceNeg, Nat.reduceLT, Nat.reduceSub, Nat.reduceMul]
      refine ⟨rfl, _, .inl ⟨fun h => ?_, rfl⟩⟩
      obtain ⟨c, hc, e⟩ := hd.1 h
      obtain ⟨i, hi⟩ := List.getElem?_of_mem hc
      exact hI i (by have := (List.getElem?_eq_some_iff.1 hi).1; rw [hF.length] at this; omega) c hi e
  · refine ⟨rfl, _, .inl ⟨?_, rfl⟩⟩
    unfold Decl.declares
    rintro (h | h | h) <;> (have := h.1; omega)
theorem f69 (d : Decl) (r : List Imm) (x : Int) (h : d.Enc r) : PF cx 69 [.agg r, .i .i64 x] fun y => y = .fn 112 [.ip 1 false [[.i .i64 x]] 0 0, .ip 23 false [r] 0 0] := by
  refine PF.intro (fn := Try.f69) Try.func69 rfl rfl ?_
  obtain ⟨t0, t1, t2, t3, t4, v0, v1, v2, v3, v4, cz, ct, ces, u0, u1, u2, u3, u4, rz, rt, res, fz, ft, fes, rfl, hdk, hdn, hdp, hT, hV, hdf, hcz, hcl, hC, hrp, hU, hrz, hrl, hR, hfz, hfl, hF, hTn⟩ := h
  simp -implicitDefEqProofs only [↓W_seq, go_sem, ↓reduceIte, Nat.reduceBEq, Nat.reduceAdd, Nat.reduceLeDiff, Nat.reduceEqDiff, reduceCtorEq, Int.reduceToNat, Int.reduceLE, Int.reduceLT, Int.reduceEq, Int.reduceNeg, Nat.reduceLT, Nat.reduceSub, Nat.reduceMul]
  exact ⟨_, rfl, rfl⟩
theorem ob_i {α : Type} {x : Option α} {a : α} {f : α → Prop} (h : x = some a) (hf : f a) : ob x f := by rw [h, ob_some]; exact hf
theorem tomb_app (U Y : AHeap) (n : Nat) (h : U.length = n) : tomb n (U ++ Y) = U ++ List.replicate Y.length .gone := by
  subst h
  unfold tomb
  rw [List.take_left', List.length_append, Nat.add_sub_cancel_left]
  rfl
theorem find_loop {a b : Code} {fr : Fr} {ds : List Dfr} {G : AHeap} {A0 A1 : AObj} {Q : Ex → St → Prop} {d : Decl} {r : List Imm} {x : Int} {s : ByteArray} (h : d.Enc r)
    (hc : callee (ev fr (.tmp 19)) [.fn (.yield (G.length + 3)) []] = some (.fn 112 [.fn (.yield (G.length + 3)) [], .im (.ip 1 false [[.i .i64 x]] 0 0), .im (.ip 23 false [r] 0 0)]))
    (hround : ∀ (nm : ByteArray) (e : Entry) (er : List Imm) (X : AHeap), e.Enc er →
      W cx 23 (some (G.length + 3)) a ⟨(21, .im (.agg er)) :: (20, .im (.s nm)) :: fr, [], A0 :: A1 :: (G ++ (.dfr false :: .loop .ready none 23 fr [20, 21] a b (G.length + 2) :: X))⟩ fun ex st => ex = .nrm ∧ ∃ fr' Y,
        st = ⟨fr', [], A0 :: A1 :: (G ++ (.dfr false :: .loop .ready none 23 fr [20, 21] a b (G.length + 2) :: (X ++ Y)))⟩ ∧
        W cx 23 (some (G.length + 3)) b ⟨fr', [], A0 :: A1 :: (G ++ (.dfr false :: .loop .busy none 23 fr [20, 21] a b (G.length + 2) :: (X ++ Y)))⟩ fun ex st =>
          (¬nm = s ∧ ex = .nrm ∧ ∃ Z fr2, st = ⟨fr2, [], A0 :: A1 :: (G ++ (.dfr false :: .loop .busy none 23 fr [20, 21] a b (G.length + 2) :: (X ++ Z)))⟩) ∨
          (nm = s ∧ ex = .ret ∧ ∃ Z fr2, st = ⟨fr2, [], .row [er.map .im] 9 44 :: .row [[.im (.i .i64 0)]] 1 38 :: (G ++ (.dfr false :: .loop .busy none 23 fr [20, 21] a b (G.length + 2) :: (X ++ Z)))⟩))
    (hmiss : ¬d.declares s → ∀ X, Q .nrm ⟨fr, Dfr.mark (G.length + 2) :: ds, A0 :: A1 :: (G ++ (.dfr false :: X))⟩)
    (hhit : d.declares s → ∀ er X, (d.entry x s).Enc er → Q .ret ⟨fr, Dfr.mark (G.length + 2) :: ds, .row [er.map .im] 9 44 :: .row [[.im (.i .i64 0)]] 1 38 :: (G ++ (.dfr false :: X))⟩) :
    WR cx 23 none (.tmp 19) #[20, 21] a b ⟨fr, ds, A0 :: A1 :: G⟩ Q := by
  have key := f112 d r x s (G.length + 3) (A0 :: A1 :: (G ++ [.dfr false, .loop .ready none 23 fr [20, 21] a b (G.length + 2)]))
    (fun er => .row [er.map .im] 9 44 :: .row [[.im (.i .i64 0)]] 1 38 :: (G ++ [.dfr false, .loop .done (some .ret) 23 fr [20, 21] a b (G.length + 2)])) h (by intro er; simp) (by
      intro X nm e er he
      refine WC.round ?_
      have hl : (A0 :: A1 :: (G ++ [.dfr false, .loop .ready none 23 fr [20, 21] a b (G.length + 2)]) ++ X)[G.length + 3]? = some (.loop .ready none 23 fr [20, 21] a b (G.length + 2)) := by
        simp [hpk]
      refine RN.intro hl rfl ?_
      have e0 : (A0 :: A1 :: (G ++ [.dfr false, .loop .ready none 23 fr [20, 21] a b (G.length + 2)]) ++ X) = A0 :: A1 :: (G ++ (.dfr false :: .loop .ready none 23 fr [20, 21] a b (G.length + 2) :: X)) := by simp
      rw [e0]
      refine W.mono (hround nm e er X he) ?_
      rintro _ _ ⟨rfl, fr', Y, rfl, hb⟩
      refine ⟨rfl, none, 23, fr, [20, 21], a, b, G.length + 2, by simp [hpk], ?_⟩
      have e1 : (A0 :: A1 :: (G ++ (.dfr false :: .loop .ready none 23 fr [20, 21] a b (G.length + 2) :: (X ++ Y)))).set (G.length + 3) (.loop .busy none 23 fr [20, 21] a b (G.length + 2)) = A0 :: A1 :: (G ++ (.dfr false :: .loop .busy none 23 fr [20, 21] a b (G.length + 2) :: (X ++ Y))) := by simp [hsk]
      dsimp only
      rw [e1]
      refine W.mono hb ?_
      rintro _ _ (⟨hn, rfl, Z, fr2, rfl⟩ | ⟨hn, rfl, Z, fr2, rfl⟩)
      · rw [kround_nrm]
        refine ob_i (a := A0 :: A1 :: (G ++ (.dfr false :: .loop .ready none 23 fr [20, 21] a b (G.length + 2) :: (X ++ Z)))) (by simp [setEnd, hpk, hsk]) ?_
        rw [ksend_eq]
        refine ⟨_, rfl, Z.length, .inl ⟨hn, rfl, ?_⟩⟩
        have e2 : A0 :: A1 :: (G ++ (.dfr false :: .loop .ready none 23 fr [20, 21] a b (G.length + 2) :: (X ++ Z))) = (A0 :: A1 :: (G ++ (.dfr false :: .loop .ready none 23 fr [20, 21] a b (G.length + 2) :: X))) ++ Z := by simp
        rw [e2, tomb_app _ _ _ rfl]
        simp
      · rw [kround_ret]
        refine ob_i (a := .row [er.map .im] 9 44 :: .row [[.im (.i .i64 0)]] 1 38 :: (G ++ (.dfr false :: .loop .done (some .ret) 23 fr [20, 21] a b (G.length + 2) :: (X ++ Z)))) (by simp [setEnd, hpk, hsk]) ?_
        rw [ksend_eq]
        refine ⟨_, rfl, Z.length, .inr ⟨hn, rfl, ?_⟩⟩
        have e2 : (.row [er.map .im] 9 44 :: .row [[.im (.i .i64 0)]] 1 38 :: (G ++ (.dfr false :: .loop .done (some .ret) 23 fr [20, 21] a b (G.length + 2) :: (X ++ Z))) : AHeap) = (.row [er.map .im] 9 44 :: .row [[.im (.i .i64 0)]] 1 38 :: (G ++ (.dfr false :: .loop .done (some .ret) 23 fr [20, 21] a b (G.length + 2) :: X))) ++ Z := by simp
        rw [e2, tomb_app _ _ _ (by simp)]
        simp)
  refine WR.intro hc (FN.mono key ?_)
  rintro v H ⟨rfl, X, ⟨hnd, rfl⟩ | ⟨hd, er, her, rfl⟩⟩
  · refine ⟨rfl, .ready, none, 23, fr, [20, 21], a, b, G.length + 2, by simp [hpk], by simp, ?_⟩
    have := hmiss hnd (.loop .exhausted none 23 fr [20, 21] a b (G.length + 2) :: X)
    have e3 : (A0 :: A1 :: (G ++ [.dfr false, .loop .ready none 23 fr [20, 21] a b (G.length + 2)]) ++ X).set ((A0 :: A1 :: G).length + 1) (.loop .exhausted none 23 fr [20, 21] a b (G.length + 2)) = A0 :: A1 :: (G ++ (.dfr false :: .loop .exhausted none 23 fr [20, 21] a b (G.length + 2) :: X)) := by simp [hsk]
    rw [e3]; exact this
  · refine ⟨rfl, .done, some .ret, 23, fr, [20, 21], a, b, G.length + 2, by simp [hpk], by simp, ?_⟩
    have := hhit hd er (.loop .exhausted (some .ret) 23 fr [20, 21] a b (G.length + 2) :: X) her
    have e3 : (.row [er.map .im] 9 44 :: .row [[.im (.i .i64 0)]] 1 38 :: (G ++ [.dfr false, .loop .done (some .ret) 23 fr [20, 21] a b (G.length + 2)]) ++ X : AHeap).set ((A0 :: A1 :: G).length + 1) (.loop .exhausted (some .ret) 23 fr [20, 21] a b (G.length + 2)) = .row [er.map .im] 9 44 :: .row [[.im (.i .i64 0)]] 1 38 :: (G ++ (.dfr false :: .loop .exhausted (some .ret) 23 fr [20, 21] a b (G.length + 2) :: X)) := by simp [hsk]
    rw [e3]; exact this
def DsOk (dl : List Nat) (G : AHeap) : Prop := dl.Nodup ∧ ∀ l ∈ dl, 2 ≤ l ∧ G[l - 2]? = some (.dfr false)
theorem DsOk.app {dl : List Nat} {G : AHeap} (h : DsOk dl G) (X : AHeap) : DsOk dl (G ++ X) := ⟨h.1, fun l hl => ⟨(h.2 l hl).1, hpo (h.2 l hl).2 X⟩⟩
theorem DsOk.cons {dl : List Nat} {G : AHeap} (h : DsOk dl G) (X : AHeap) : DsOk ((G.length + 2) :: dl) (G ++ (.dfr false :: X)) := by
  refine ⟨List.nodup_cons.2 ⟨fun hm => ?_, h.1⟩, fun l hl => ?_⟩
  · have := (List.getElem?_eq_some_iff.1 (h.2 _ hm).2).1
    omega
  · rcases List.mem_cons.1 hl with rfl | hl
    · exact ⟨by omega, by simp⟩
    · exact (h.app _).2 l hl
theorem DsOk.run {dl : List Nat} {G : AHeap} (h : DsOk dl G) (a b : AObj) : ∃ H', acolls (dl.map .mark) (a :: b :: G) = some H' ∧ H'[0]? = some a ∧ H'[1]? = some b := by
  obtain ⟨H', h1, h2, h3⟩ := acolls_run dl (a :: b :: G) h.1 fun l hl => by
    obtain ⟨h2, h4⟩ := h.2 l hl
    refine ⟨h2, ?_⟩
    obtain ⟨k, rfl⟩ : ∃ k, l = k + 2 := ⟨l - 2, by omega⟩
    simpa using h4
  exact ⟨H', h1, h2, h3⟩
theorem gen_heap {rd : Option Nat} {f : Operand} {ps : Array Tmp} {a b : Code} {fr : Fr} {dl : List Nat} {G X : AHeap} {A0 A1 : AObj} {Q : Ex → St → Prop} (hd : DsOk dl G) (h : ∀ G2 : AHeap, DsOk dl G2 → WR cx 23 rd f ps a b ⟨fr, dl.map .mark, A0 :: A1 :: G2⟩ Q) : WR cx 23 rd f ps a b ⟨fr, dl.map .mark, A0 :: A1 :: (G ++ X)⟩ Q := h _ (hd.app X)
abbrev zeroRow : List AV := [.im (.i .i64 0), .im (.i .i64 0), .im (.i .i64 0), .im (.i .i64 0), .im (.i .i64 0), .im (.i .i64 0), .im (.s ByteArray.empty), .im (.sl 1 false true []), .im (.sl 1 false true [])]
theorem fin23 {fr : Fr} {dl : List Nat} {G : AHeap} {er : List Imm} {e : Int} {R : AV → AHeap → Prop} (hd : DsOk dl G) (h4 : gd (lk 4 fr) = .ptr 0 1 0 0) (h5 : gd (lk 5 fr) = .ptr 1 1 0 0) (hl : er.length = 9) (hR : ∀ H, R (.im (.tup [.agg er, .i .i64 e])) H) :
    kfin cx [.cell 4 44, .cell 5 38] R .ret ⟨fr, dl.map .mark, .row [er.map .im] 9 44 :: .row [[.im (.i .i64 e)]] 1 38 :: G⟩ := by
  obtain ⟨H', h1, h2, h3⟩ := hd.run (.row [er.map .im] 9 44) (.row [[.im (.i .i64 e)]] 1 38)
  have hs : sub (List.map AV.im er) 0 9 = some (er.map .im) := sub_all (by simp [hl])
  rw [kfin_all, h1, ob_some, kcol_eq]
  simp -implicitDefEqProofs only [↓W_seq, go_sem, ↓reduceIte, Nat.reduceBEq, Nat.reduceAdd, Nat.reduceLeDiff, Nat.reduceEqDiff, reduceCtorEq, Int.reduceToNat, Int.reduceLE, Int.reduceLT, Int.reduceEq, Int.reduceNeg, Nat.reduceLT, Nat.reduceSub, Nat.reduceMul, h4, h5, h2, h3, hs]
  exact hR H'
theorem f23 (ds : List Decl) (es : List (List Imm)) (z : Nat) (q : Bool) (s : ByteArray) (h : All2 Decl.Enc ds es) (hz : z = 23 ∨ es = []) (hl : es.length ≤ lim) :
    PF cx 23 [.sl z false q es, .s s] fun y => ∃ r, y = .tup [.agg r, .i .i64 (findE ds s).2] ∧ (findE ds s).1.Enc r := by
  classical
  refine PF.intro (fn := Try.f23) Try.func23 rfl rfl ?_
  simp -implicitDefEqProofs only [↓W_seq, go_sem, ↓reduceIte, Nat.reduceBEq, Nat.reduceAdd, Nat.reduceLeDiff, Nat.reduceEqDiff, reduceCtorEq, Int.reduceToNat, Int.reduceLE, Int.reduceLT, Int.reduceEq, Int.reduceNeg, Nat.reduceLT, Nat.reduceSub, Nat.reduceMul]
  refine WL.upto es.length (fun j st => (∀ i, i < j → ∀ d : Decl, ds[i]? = some d → ¬d.declares s) ∧ ∃ (dl : List Nat) (G : AHeap), DsOk dl G ∧
    st = ⟨[(3, .im (.ip 1 false [[.s s]] 0 0)), (4, .ptr 0 1 0 0), (5, .ptr 1 1 0 0), (10, .im (.sl z false q es)), (11, .im (.i .i64 es.length)), (12, .im (.i .i64 j))], dl.map .mark, .row [zeroRow] 9 44 :: .row [[.im (.i .i64 0)]] 1 38 :: G⟩) ?_ ⟨by omega, [], [], ⟨List.nodup_nil, by simp⟩, rfl⟩
  rintro j st hj ⟨hI, dl, G, hdl, rfl⟩
  simp -implicitDefEqProofs only [↓W_seq, go_sem, ↓reduceIte, Nat.reduceBEq, Nat.reduceAdd, Nat.reduceLeDiff, Nat.reduceEqDiff, reduceCtorEq, Int.reduceToNat, Int.reduceLE, Int.reduceLT, Int.reduceEq, Int.reduceNeg, Nat.reduceLT, Nat.reduceSub, Nat.reduceMul]
  refine kcd_dec (fun h1 => ?_) (fun h1 => ?_)
  · have hj1 : j < es.length := by omega
    obtain ⟨rfl, d, r, hd, hr, hE⟩ := h.at hz hj1
    have h0 := hE
    obtain ⟨t0, t1, t2, t3, t4, v0, v1, v2, v3, v4, cz, ct, ces, u0, u1, u2, u3, u4, rz, rt, res, fz, ft, fes, rfl, hdk, hdn, hdp, hT, hV, hdf, hcz, hcl, hC, hrp, hU, hrz, hrl, hR, hfz, hfl, hF, hTn⟩ := hE
    simp -implicitDefEqProofs only [↓W_seq, go_sem, ↓reduceIte, Nat.reduceBEq, Nat.reduceAdd, Nat.reduceLeDiff, Nat.reduceEqDiff, reduceCtorEq, Int.reduceToNat, Int.reduceLE, Int.reduceLT, Int.reduceEq, Int.reduceNeg, Nat.reduceLT, Nat.reduceSub, Nat.reduceMul, hj1, hr]
    refine WC.pf (f69 d _ j h0) rfl rfl ?_
    rintro _ rfl
    simp -implicitDefEqProofs only [↓W_seq, go_sem, ↓reduceIte, Nat.reduceBEq, Nat.reduceAdd, Nat.reduceLeDiff, Nat.reduceEqDiff, reduceCtorEq, Int.reduceToNat, Int.reduceLE, Int.reduceLT, Int.reduceEq, Int.reduceNeg, Nat.reduceLT, Nat.reduceSub, Nat.reduceMul]
    refine gen_heap hdl fun G2 hdl2 => ?_
    refine find_loop (d := d) (x := j) (s := s) h0 rfl ?_ ?_ ?_
    · intro nm e er X he
      obtain ⟨y0, y1, y2, y3, y4, rfl, hy⟩ := he
      simp -implicitDefEqProofs only [↓W_seq, go_sem, ↓reduceIte, Nat.reduceBEq, Nat.reduceAdd, Nat.reduceLeDiff, Nat.reduceEqDiff, reduceCtorEq, Int.reduceToNat, Int.reduceLE, Int.reduceLT, Int.reduceEq, Int.reduceNeg, Nat.reduceLT, Nat.reduceSub, Nat.reduceMul]
      refine ⟨_, _, rfl, ?_⟩
      simp -implicitDefEqProofs only [↓W_seq, go_sem, ↓reduceIte, Nat.reduceBEq, Nat.reduceAdd, Nat.reduceLeDiff, Nat.reduceEqDiff, reduceCtorEq, Int.reduceToNat, Int.reduceLE, Int.reduceLT, Int.reduceEq, Int.reduceNeg, Nat.reduceLT, Nat.reduceSub, Nat.reduceMul]
      refine kcd_b (fun h2 => ?_) (fun h2 => ?_) <;> simp -implicitDefEqProofs only [↓W_seq, go_sem, ↓reduceIte, Nat.reduceBEq, Nat.reduceAdd, Nat.reduceLeDiff, Nat.reduceEqDiff, reduceCtorEq, Int.reduceToNat, Int.reduceLE, Int.reduceLT, Int.reduceEq, Int.reduceNeg, Nat.reduceLT, Nat.reduceSub, Nat.reduceMul, h2]
      · exact .inr ⟨of_decide_eq_true h2, _, _, rfl⟩
      · exact .inl ⟨of_decide_eq_false h2, _, _, rfl⟩
    · intro hnd X
      simp -implicitDefEqProofs only [↓W_seq, go_sem, ↓reduceIte, Nat.reduceBEq, Nat.reduceAdd, Nat.reduceLeDiff, Nat.reduceEqDiff, reduceCtorEq, Int.reduceToNat, Int.reduceLE, Int.reduceLT, Int.reduceEq, Int.reduceNeg, Nat.reduceLT, Nat.reduceSub, Nat.reduceMul, wrap_succ hj1 hl]
      refine ⟨fun i hi c hc => ?_, _, _, hdl2.cons X, rfl⟩
      rcases Nat.lt_succ_iff_lt_or_eq.1 hi with hi | rfl
      · exact hI i hi c hc
      · rw [hd] at hc; cases hc; exact hnd
    · intro hdc er X her
      simp -implicitDefEqProofs only [↓W_seq, go_sem, ↓reduceIte, Nat.reduceBEq, Nat.reduceAdd, Nat.reduceLeDiff, Nat.reduceEqDiff, reduceCtorEq, Int.reduceToNat, Int.reduceLE, Int.reduceLT, Int.reduceEq, Int.reduceNeg, Nat.reduceLT, Nat.reduceSub, Nat.reduceMul]
      have hf : firstD ds s = some j := first_some hd hdc hI
      have hfe : findE ds s = (d.entry j s, 0) := by unfold findE; rw [hf]; simp only [hd, Option.map_some, Option.getD_some]
      refine fin23 (hdl2.cons X) rfl rfl ?_ fun H => ?_
      · obtain ⟨y0, y1, y2, y3, y4, rfl, hy⟩ := her; rfl
      · rw [hfe]; exact ⟨_, rfl, _, rfl, her⟩
  · simp -implicitDefEqProofs only [↓W_seq, go_sem, ↓reduceIte, Nat.reduceBEq, Nat.reduceAdd, Nat.reduceLeDiff, Nat.reduceEqDiff, reduceCtorEq, Int.reduceToNat, Int.reduceLE, Int.reduceLT, Int.reduceEq, Int.reduceNeg, Nat.reduceLT, Nat.reduceSub, Nat.reduceMul]
    have hf : firstD ds s = none := first_none fun i b hb => hI i (by have := (List.getElem?_eq_some_iff.1 hb).1; rw [h.length] at this; omega) b hb
    have hfe : findE ds s = (zeroE, 9) := by unfold findE; rw [hf]
    refine fin23 (er := [.i .i64 0, .i .i64 0, .i .i64 0, .i .i64 0, .i .i64 0, .i .i64 0, .s ByteArray.empty, .sl 1 false true [], .sl 1 false true []]) hdl rfl rfl rfl fun H => ?_
    rw [hfe]; exact ⟨_, rfl, _, rfl, _, _, _, _, _, rfl, zeroT_enc⟩
/-- The family of a name. -/
noncomputable def famE (ds : List Decl) (s : ByteArray) : Option (Decl × Int) :=
  if (findE ds s).2 = 0 then
    if (findE ds s).1.kind = 3 then (ds[(findE ds s).1.decl.toNat]?).map (·, -1)
    else if (findE ds s).1.kind = 4 then (ds[(findE ds s).1.decl.toNat]?).map (·, (findE ds s).1.item)
    else if (findE ds s).1.kind = 5 then (ds[(findE ds s).1.decl.toNat]?).map (·, -2)
    else none
  else none
theorem findE_in {ds : List Decl} {s : ByteArray} (h : (findE ds s).2 = 0) : ∃ (i : Nat) (d : Decl), ds[i]? = some d ∧ (findE ds s).1.decl = i := by
  classical
  unfold findE at h ⊢
  cases hf : firstD ds s with
  | none => rw [hf] at h; simp at h
  | some i =>
    obtain ⟨d, hd, hdc⟩ := first_lt hf
    refine ⟨i, d, hd, ?_⟩
    simp only [hd, Option.map_some, Option.getD_some]
    unfold Decl.entry
    split; · rfl
    split; · rfl
    split; · rfl
    split
    · split; · rfl
      split <;> rfl
    · split <;> rfl
def zeroD : Decl := ⟨0, ByteArray.empty, 0, zeroT, zeroT, 0, [], 0, zeroT, [], []⟩
theorem zeroD_enc : zeroD.Enc [.i .i64 0, .s ByteArray.empty, .i .i64 0, .i .i64 0, .i .i64 0, .s ByteArray.empty, .sl 1 false true [], .sl 1 false true [], .i .i64 0, .i .i64 0, .s ByteArray.empty, .sl 1 false true [], .sl 1 false true [], .i .i64 0, .sl 1 false true [],
    .i .i64 0, .i .i64 0, .i .i64 0, .s ByteArray.empty, .sl 1 false true [], .sl 1 false true [], .sl 1 false true [], .sl 1 false true []] := by
  have h0 : i64ok 0 := by unfold i64ok; omega
  have hl : lim = 1073741824 := rfl
  have hn : zeroT.nodes ≤ lim := by have : zeroT.nodes = 1 := by simp [zeroT, Term.nodes, Term.nodesL]
                                    omega
  exact ⟨_, _, _, _, _, _, _, _, _, _, _, _, _, _, _, _, _, _, _, _, _, _, _, _, rfl, h0, Nat.zero_le _, h0, zeroT_enc, zeroT_enc, h0, .inr rfl, Nat.zero_le _, trivial, h0, zeroT_enc, .inr rfl, Nat.zero_le _, trivial, .inr rfl, Nat.zero_le _, trivial, hn⟩
def FamR (o : Option (Decl × Int)) (y : Imm) : Prop := ∃ (r : List Imm) (j : Int) (b : Bool), y = .tup [.agg r, .i .i64 j, .b b] ∧ match o with | some (d, i) => d.Enc r ∧ j = i ∧ b = true | none => b = false ∧ j = 0 ∧ zeroD.Enc r
theorem f25 (ds : List Decl) (es : List (List Imm)) (z : Nat) (q : Bool) (s : ByteArray) (h : All2 Decl.Enc ds es) (hz : z = 23 ∨ es = []) (hl : es.length ≤ lim) : PF cx 25 [.sl z false q es, .s s] (FamR (famE ds s)) := by
  refine PF.intro (fn := Try.f25) Try.func25 rfl rfl ?_
  simp -implicitDefEqProofs only [↓W_seq, go_sem, ↓reduceIte, Nat.reduceBEq, Nat.reduceAdd, Nat.reduceLeDiff, Nat.reduceEqDiff, reduceCtorEq, Int.reduceToNat, Int.reduceLE, Int.reduceLT, Int.reduceEq, Int.reduceNeg, Nat.reduceLT, Nat.reduceSub, Nat.reduceMul]
  refine WC.pf (f23 ds es z q s h hz hl) rfl rfl ?_
  rintro _ ⟨er, rfl, x0, x1, x2, x3, x4, rfl, hx⟩
  simp -implicitDefEqProofs only [↓W_seq, go_sem, ↓reduceIte, Nat.reduceBEq, Nat.reduceAdd, Nat.reduceLeDiff, Nat.reduceEqDiff, reduceCtorEq, Int.reduceToNat, Int.reduceLE, Int.reduceLT, Int.reduceEq, Int.reduceNeg, Nat.reduceLT, Nat.reduceSub, Nat.reduceMul]
  refine kcd_not (fun h0 => ?_) (fun h0 => ?_) <;> simp -implicitDefEqProofs only [↓W_seq, go_sem, ↓reduceIte, Nat.reduceBEq, Nat.reduceAdd, Nat.reduceLeDiff, Nat.reduceEqDiff, reduceCtorEq, Int.reduceToNat, Int.reduceLE, Int.reduceLT, Int.reduceEq, Int.reduceNeg, Nat.reduceLT, Nat.reduceSub, Nat.reduceMul, h0]
  rotate_left
  · have hf : famE ds s = none := by unfold famE; rw [if_neg (of_decide_eq_false h0)]
    rw [hf]
    exact ⟨_, rfl, _, _, _, rfl, rfl, rfl, zeroD_enc⟩
  have h0 := of_decide_eq_true h0
  obtain ⟨i, d, hd, hdec⟩ := findE_in h0
  have hi1 : i < es.length := by rw [← h.length]; exact (List.getElem?_eq_some_iff.1 hd).1
  obtain ⟨rfl, d2, r, hd2, hr, hE⟩ := h.at hz hi1
  rw [hd] at hd2
  cases hd2
  have h23 := hE.length
  have hdn : ds[(findE ds s).1.decl.toNat]? = some d := by rw [hdec]; exact hd
  have hdr : List.drop 23 (List.map AV.im r) = [] := List.drop_eq_nil_of_le (by simp [h23])
  have hsr : sub (List.map AV.im r) 0 23 = some (r.map .im) := sub_all (by simp [h23])
  refine kcd_b (fun h3 => ?_) (fun h3 => ?_) <;> simp -implicitDefEqProofs only [↓W_seq, go_sem, ↓reduceIte, Nat.reduceBEq, Nat.reduceAdd, Nat.reduceLeDiff, Nat.reduceEqDiff, reduceCtorEq, Int.reduceToNat, Int.reduceLE, Int.reduceLT, Int.reduceEq, Int.reduceNeg, Nat.reduceLT, Nat.reduceSub, Nat.reduceMul, h3, hdec, hi1, hr, sub_all h23, hdr, hsr, h23]
  · have hf : famE ds s = some (d, -1) := by unfold famE; rw [if_pos h0, if_pos (of_decide_eq_true h3), hdn]; rfl
    rw [hf]
    exact ⟨_, rfl, _, _, _, rfl, hE, rfl, rfl⟩
  refine kcd_b (fun h4 => ?_) (fun h4 => ?_) <;> simp -implicitDefEqProofs only [↓W_seq, go_sem, ↓reduceIte, Nat.reduceBEq, Nat.reduceAdd, Nat.reduceLeDiff, Nat.reduceEqDiff, reduceCtorEq, Int.reduceToNat, Int.reduceLE, Int.reduceLT, Int.reduceEq, Int.reduceNeg, Nat.reduceLT, Nat.reduceSub, Nat.reduceMul, h4, hdec, hi1, hr, sub_all h23, hdr, hsr, h23]
  · have hf : famE ds s = some (d, (findE ds s).1.item) := by unfold famE; rw [if_pos h0, if_neg (of_decide_eq_false h3), if_pos (of_decide_eq_true h4), hdn]; rfl
    rw [hf]
    exact ⟨_, rfl, _, _, _, rfl, hE, rfl, rfl⟩
  refine kcd_b (fun h5 => ?_) (fun h5 => ?_) <;> simp -implicitDefEqProofs only [↓W_seq, go_sem, ↓reduceIte, Nat.reduceBEq, Nat.reduceAdd, Nat.reduceLeDiff, Nat.reduceEqDiff, reduceCtorEq, Int.reduceToNat, Int.reduceLE, Int.reduceLT, Int.reduceEq, Int.reduceNeg, Nat.reduceLT, Nat.reduceSub, Nat.reduceMul, h5, hdec, hi1, hr, sub_all h23, hdr, hsr, h23]
  · have hf : famE ds s = some (d, -2) := by unfold famE; rw [if_pos h0, if_neg (of_decide_eq_false h3), if_neg (of_decide_eq_false h4), if_pos (of_decide_eq_true h5), hdn]; rfl
    rw [hf]
    exact ⟨_, rfl, _, _, _, rfl, hE, rfl, rfl⟩
  · have hf : famE ds s = none := by unfold famE; rw [if_pos h0, if_neg (of_decide_eq_false h3), if_neg (of_decide_eq_false h4), if_neg (of_decide_eq_false h5)]
    rw [hf]
    exact ⟨_, rfl, _, _, _, rfl, rfl, rfl, zeroD_enc⟩
theorem f26 (ds : List Decl) (es : List (List Imm)) (z : Nat) (q : Bool) (s : ByteArray) (h : All2 Decl.Enc ds es) (hz : z = 23 ∨ es = []) (hl : es.length ≤ lim) (hs : s.size ≤ 4 * lim) : PF cx 26 [.sl z false q es, .s s] (FamR (famE ds s)) := by
  refine PF.intro (fn := Try.f26) Try.func26 rfl rfl ?_
  simp -implicitDefEqProofs only [↓W_seq, go_sem, ↓reduceIte, Nat.reduceBEq, Nat.reduceAdd, Nat.reduceLeDiff, Nat.reduceEqDiff, reduceCtorEq, Int.reduceToNat, Int.reduceLE, Int.reduceLT, Int.reduceEq, Int.reduceNeg, Nat.reduceLT, Nat.reduceSub, Nat.reduceMul]
  refine WC.pf (f24 ds es z q s h hz hl hs) rfl rfl ?_
  rintro _ ⟨er, rfl, x0, x1, x2, x3, x4, rfl, hx⟩
  simp -implicitDefEqProofs only [↓W_seq, go_sem, ↓reduceIte, Nat.reduceBEq, Nat.reduceAdd, Nat.reduceLeDiff, Nat.reduceEqDiff, reduceCtorEq, Int.reduceToNat, Int.reduceLE, Int.reduceLT, Int.reduceEq, Int.reduceNeg, Nat.reduceLT, Nat.reduceSub, Nat.reduceMul]
  refine kcd_not (fun h0 => ?_) (fun h0 => ?_) <;> simp -implicitDefEqProofs only [↓W_seq, go_sem, ↓reduceIte, Nat.reduceBEq, Nat.reduceAdd, Nat.reduceLeDiff, Nat.reduceEqDiff, reduceCtorEq, Int.reduceToNat, Int.reduceLE, Int.reduceLT, Int.reduceEq, Int.reduceNeg, Nat.reduceLT, Nat.reduceSub, Nat.reduceMul, h0]
  rotate_left
  · have hf : famE ds s = none := by unfold famE; rw [if_neg (of_decide_eq_false h0)]
    rw [hf]
    exact ⟨_, rfl, _, _, _, rfl, rfl, rfl, zeroD_enc⟩
  have h0 := of_decide_eq_true h0
  obtain ⟨i, d, hd, hdec⟩ := findE_in h0
  have hi1 : i < es.length := by rw [← h.length]; exact (List.getElem?_eq_some_iff.1 hd).1
  obtain ⟨rfl, d2, r, hd2, hr, hE⟩ := h.at hz hi1
  rw [hd] at hd2
  cases hd2
  have h23 := hE.length
  have hdn : ds[(findE ds s).1.decl.toNat]? = some d := by rw [hdec]; exact hd
  have hdr : List.drop 23 (List.map AV.im r) = [] := List.drop_eq_nil_of_le (by simp [h23])
  have hsr : sub (List.map AV.im r) 0 23 = some (r.map .im) := sub_all (by simp [h23])
  refine kcd_b (fun h3 => ?_) (fun h3 => ?_) <;> simp -implicitDefEqProofs only [↓W_seq, go_sem, ↓reduceIte, Nat.reduceBEq, Nat.reduceAdd, Nat.reduceLeDiff, Nat.reduceEqDiff, reduceCtorEq, Int.reduceToNat, Int.reduceLE, Int.reduceLT, Int.reduceEq, Int.reduceNeg, Nat.reduceLT, Nat.reduceSub, Nat.reduceMul, h3, hdec, hi1, hr, sub_all h23, hdr, hsr, h23]
  · have hf : famE ds s = some (d, -1) := by unfold famE; rw [if_pos h0, if_pos (of_decide_eq_true h3), hdn]; rfl
    rw [hf]
    exact ⟨_, rfl, _, _, _, rfl, hE, rfl, rfl⟩
  refine kcd_b (fun h4 => ?_) (fun h4 => ?_) <;> simp -implicitDefEqProofs only [↓W_seq, go_sem, ↓reduceIte, Nat.reduceBEq, Nat.reduceAdd, Nat.reduceLeDiff, Nat.reduceEqDiff, reduceCtorEq, Int.reduceToNat, Int.reduceLE, Int.reduceLT, Int.reduceEq, Int.reduceNeg, Nat.reduceLT, Nat.reduceSub, Nat.reduceMul, h4, hdec, hi1, hr, sub_all h23, hdr, hsr, h23]
  · have hf : famE ds s = some (d, (findE ds s).1.item) := by unfold famE; rw [if_pos h0, if_neg (of_decide_eq_false h3), if_pos (of_decide_eq_true h4), hdn]; rfl
    rw [hf]
    exact ⟨_, rfl, _, _, _, rfl, hE, rfl, rfl⟩
  refine kcd_b (fun h5 => ?_) (fun h5 => ?_) <;> simp -implicitDefEqProofs only [↓W_seq, go_sem, ↓reduceIte, Nat.reduceBEq, Nat.reduceAdd, Nat.reduceLeDiff, Nat.reduceEqDiff, reduceCtorEq, Int.reduceToNat, Int.reduceLE, Int.reduceLT, Int.reduceEq, Int.reduceNeg, Nat.reduceLT, Nat.reduceSub, Nat.reduceMul, h5, hdec, hi1, hr, sub_all h23, hdr, hsr, h23]
  · have hf : famE ds s = some (d, -2) := by unfold famE; rw [if_pos h0, if_neg (of_decide_eq_false h3), if_neg (of_decide_eq_false h4), if_pos (of_decide_eq_true h5), hdn]; rfl
    rw [hf]
    exact ⟨_, rfl, _, _, _, rfl, hE, rfl, rfl⟩
  · have hf : famE ds s = none := by unfold famE; rw [if_pos h0, if_neg (of_decide_eq_false h3), if_neg (of_decide_eq_false h4), if_neg (of_decide_eq_false h5)]
    rw [hf]
    exact ⟨_, rfl, _, _, _, rfl, rfl, rfl, zeroD_enc⟩
end Go.Proofs.Ytnbbhbbhgcipjaa.Am

namespace Go.Proofs.Ytnbbhbbhgcipjaa.Am
/-- A function that returns a value and a row of its own. -/
def PO (cx : Cx) (f : FuncId) (ds : List Imm) (R : Imm → List (List Imm) → Nat → TypeId → Prop) : Prop :=
  FN cx f (ds.map .im) [] fun v G => ∃ a l es z t, v = .tup [.im a, .sl l es.length 0 es.length] ∧ G[l]? = some (.row (es.map (·.map .im)) z t) ∧ R a es z t
theorem WC.po {cx : Cx} {f : FuncId} {ds : List Imm} {args : List AV} {H : AHeap} {R : Imm → List (List Imm) → Nat → TypeId → Prop} {Q : AV → AHeap → Prop} (h : PO cx f ds R) (ha : args = ds.map .im) (hs : cx.shared f = false) (ho : cx.own f = true)
    (hR : ∀ a es z t, R a es z t → Q (.tup [.im a, .sl H.length es.length 0 es.length]) (H ++ [.row (es.map (·.map .im)) z t])) : WC cx (.fn f args) H Q := by
  subst ha
  obtain ⟨v, G, ⟨k0, h0⟩, a, l, es, z, t, rfl, hl, hd⟩ := h
  refine ⟨_, _, ⟨k0, fun k hk => ?_⟩, hR a es z t hd⟩
  have hall : (ds.map AV.im).all AV.isIm = true := by simp [List.all_eq_true, AV.isIm]
  refine acallX_of ?_
  unfold acall
  simp only [viaView, hs, Bool.false_eq_true, if_false, views_im]
  rw [h0 k hk]
  simp only [ho]
  have hr : rowOf true (.tup [.im a, .sl l es.length 0 es.length]) = some l := by simp [rowOf]
  have hp : pack true H.length G (.tup [.im a, .sl l es.length 0 es.length]) = some (.tup [.im a, .sl H.length es.length 0 es.length], [.row (es.map (·.map .im)) z t]) := by
    unfold pack
    rw [hr]
    simp only [hl, mapM_rows]
    simp [packVal, view_im]
  rw [hp]
  simp [hall]
section
variable {cx : Cx} {fn : FuncId} {ty : TypeId} {p : String} {af : Array Edge} {g : Option (Nat × Bool)} {d : Option Nat} {st : St}
theorem wrA_bs (t : TypeId) (n : Nat) (a : Array (Nat × Operand)) : wrA cx fn ⟨d, .buildSlice t n a, ty, p, af, g⟩ st = some [] := rfl
theorem wrA_box (t : TypeId) (x : Operand) : wrA cx fn ⟨d, .box t x, ty, p, af, g⟩ st = some [] := rfl
theorem wrA_asg (x : Operand) : wrA cx fn ⟨d, .assign x, ty, p, af, g⟩ st = some [] := rfl
theorem wrA_alloc (t : TypeId) : wrA cx fn ⟨d, .alloc t, ty, p, af, g⟩ st = some [] := rfl
theorem wrA_ms (t : TypeId) (x y : Operand) : wrA cx fn ⟨d, .makeSlice t x y, ty, p, af, g⟩ st = some [] := rfl
theorem m0_ms (t : TypeId) (x y : Operand) : mob0 cx fn ⟨d, .makeSlice t x y, ty, p, af, g⟩ = false := rfl
end
attribute [go_sem] wrA_bs wrA_box wrA_asg wrA_alloc wrA_ms m0_ms
end Go.Proofs.Ytnbbhbbhgcipjaa.Am

namespace Go.Proofs.Ytnbbhbbhgcipjaa.Am
attribute [local irreducible] W WO WD WL WR WC WOp W1 WDf kcall kdfr kpn ob eb kval kvh kH kn0 kmp kvc kvc0 kca kpk kgb kgd kcd kcl kbl kres kmt wseq kseq kblock kreg kdn kdE kbd kcr kdm kdb kdg kdo kfin klp kround ksend kcol RN
theorem f15 : ∀ (N : Nat) (t : Term) (r : List Imm), t.nodes ≤ N → N ≤ lim → t.Enc r → PO cx 15 [.agg r] fun a es z ty => ∃ s, a = .agg s ∧ t.spine.1.Enc s ∧ All2 Term.Enc t.spine.2 es ∧ z = 5 ∧ ty = 26 := by
  intro N
  induction N with
  | zero => intro t r hN; have := t.nodes_pos; omega
  | succ N ih =>
    intro t r hN hlm h
    have hlim : lim = 1073741824 := rfl
    refine FN.intro (fn := Try.f15) Try.func15 rfl rfl ?_
    have h0 := h
    obtain ⟨k, i, n, ls, ks, lz, lt, les, kz, kt, kes, rfl, rfl, hk, hi, hn, hlz, hll, hl, hkz, hkl, hks⟩ := h.inv
    simp -implicitDefEqProofs only [↓W_seq, go_sem, ↓reduceIte, Nat.reduceBEq, Nat.reduceAdd, Nat.reduceLeDiff, Nat.reduceEqDiff, reduceCtorEq, Int.reduceToNat, Int.reduceLE, Int.reduceLT, Int.reduceEq, Int.reduceNeg, Nat.reduceLT, Nat.reduceSub, Nat.reduceMul]
    refine kgb_not (fun e1 => ?_) (fun e1 => ?_) <;> simp -implicitDefEqProofs only [↓W_seq, go_sem, ↓reduceIte, Nat.reduceBEq, Nat.reduceAdd, Nat.reduceLeDiff, Nat.reduceEqDiff, reduceCtorEq, Int.reduceToNat, Int.reduceLE, Int.reduceLT, Int.reduceEq, Int.reduceNeg, Nat.reduceLT, Nat.reduceSub, Nat.reduceMul, e1]
    rotate_left
    · rw [Term.spine_k (of_decide_eq_false e1)]
      exact ⟨_, _, [], _, _, rfl, rfl, _, rfl, h0, trivial, rfl, rfl⟩
    refine kcd_not (fun e2 => ?_) (fun e2 => ?_) <;> simp -implicitDefEqProofs only [↓W_seq, go_sem, ↓reduceIte, Nat.reduceBEq, Nat.reduceAdd, Nat.reduceLeDiff, Nat.reduceEqDiff, reduceCtorEq, Int.reduceToNat, Int.reduceLE, Int.reduceLT, Int.reduceEq, Int.reduceNeg, Nat.reduceLT, Nat.reduceSub, Nat.reduceMul, e2]
    rotate_left
    · have h2 : ¬ks.length = 2 := by have := of_decide_eq_false e2; rw [hks.length]; omega
      rw [Term.spine_n h2]
      exact ⟨_, _, [], _, _, rfl, rfl, _, rfl, h0, trivial, rfl, rfl⟩
    have h4 : k = 4 := of_decide_eq_true e1
    have h2 : kes.length = 2 := by have := of_decide_eq_true e2; omega
    obtain ⟨a, b, r, s, rfl, rfl, ha, hb⟩ := hks.two h2
    have hz : kz = 5 := by rcases hkz with h | h <;> simp_all
    subst hz h4
    have hb5 := hb.length
    have ha5 := ha.length
    have hN' : a.nodes ≤ N := by rw [Term.nodes_mk] at hN; simp only [Term.nodesL] at hN; omega
    have hsl := Term.spine_len a
    simp -implicitDefEqProofs only [↓W_seq, go_sem, ↓reduceIte, Nat.reduceBEq, Nat.reduceAdd, Nat.reduceLeDiff, Nat.reduceEqDiff, reduceCtorEq, Int.reduceToNat, Int.reduceLE, Int.reduceLT, Int.reduceEq, Int.reduceNeg, Nat.reduceLT, Nat.reduceSub, Nat.reduceMul, sub_all hb5, hb5, sub_all ha5, ha5]
    refine WC.po (ih a r hN' (by omega) ha) rfl rfl rfl ?_
    rintro _ es _ _ ⟨s', rfl, hs', hes, rfl, rfl⟩
    have hs5 := hs'.length
    have hcap : es.length + 1 ≤ 4294967296 := by rw [← hes.length]; omega
    have hsm : sub (List.map AV.im s') 0 5 = some (s'.map .im) := sub_all (by simp [hs5])
    have hdm : List.drop 5 (List.map AV.im s') = [] := List.drop_eq_nil_of_le (by simp [hs5])
    simp -implicitDefEqProofs only [↓W_seq, go_sem, ↓reduceIte, Nat.reduceBEq, Nat.reduceAdd, Nat.reduceLeDiff, Nat.reduceEqDiff, reduceCtorEq, Int.reduceToNat, Int.reduceLE, Int.reduceLT, Int.reduceEq, Int.reduceNeg, Nat.reduceLT, Nat.reduceSub, Nat.reduceMul, sub_all hb5, hb5, sub_all hs5, hs5, hcap, hsm, hdm]
    rw [Term.spine_app]
    exact ⟨_, 2, es ++ [s], 5, 26, by simp, by simp, s', rfl, hs', hes.snoc hb, rfl, rfl⟩
/-- Variables in descending order. -/
def varsT (n from_ : Int) : List Term := if n < 1 ∨ 4096 < n ∨ from_ < 0 then [] else (List.range n.toNat).map fun (i : Nat) => .mk 0 (from_ + n - 1 - (i : Int)) ByteArray.empty [] []
def varRow (x : Int) : List Imm := [.i .i64 0, .i .i64 x, .s ByteArray.empty, .sl 1 false true [], .sl 1 false true []]
theorem varRow_enc {x : Int} (h : i64ok x) : (Term.mk 0 x ByteArray.empty [] []).Enc (varRow x) := by
  unfold Term.Enc
  exact ⟨1, true, [], 1, true, [], rfl, ⟨by omega, by omega⟩, h, Nat.zero_le _, .inr rfl, Nat.zero_le _, trivial, .inr rfl, Nat.zero_le _, trivial⟩
theorem All2.of_get {α β : Type} {R : α → β → Prop} : ∀ {l : List α} {m : List β}, l.length = m.length → (∀ (i : Nat) a b, l[i]? = some a → m[i]? = some b → R a b) → All2 R l m
  | [], [], _, _ => trivial
  | a :: l, b :: m, h, h' => ⟨h' 0 a b rfl rfl, All2.of_get (by simpa using h) fun i x y hx hy => h' (i + 1) x y (by simpa using hx) (by simpa using hy)⟩
  | [], _ :: _, h, _ => by simp at h
  | _ :: _, [], h, _ => by simp at h
theorem ms24 (m : Nat) (H : AHeap) (h : m ≤ 4096) : amakeSlice cx.P 24 (.im (.i .i64 m)) (.im (.i .i64 m)) H = some (.sl H.length m 0 m, H ++ [.row ((List.replicate m [Imm.i .i64 0, .i .i64 0, .s ByteArray.empty, .sl 1 false true [], .sl 1 false true []]).map (·.map .im)) 5 26]) := by
  unfold amakeSlice
  have h1 : (m : Int) ≤ 4294967296 := by omega
  have hb : (cx.P.info? 26).map (·.bytes) = some 80 := ty26.2.2.2.2.2.2.2.2
  simp [ty24.2.2.2.1, ty26.1, ty26.2.2.2.2.2.2.2.1, hb, aint, Imm.cells, h1]
theorem f192 (n x : Int) (hx : x ≤ 4 * lim) : PV cx 192 [.i .i64 n, .i .i64 x] fun y => TermL y (varsT n x) := by
  refine PV.intro (fn := Try.f192) Try.func192 rfl rfl ?_
  have hlim : lim = 1073741824 := rfl
  have hnil : n < 1 ∨ 4096 < n ∨ x < 0 → ∃ d, view false viewDepth [] (.im (.sl 1 false true [])) = some d ∧ TermL d (varsT n x) := fun h => by
    refine ⟨_, view_im _ _ _ _, [], _, _, rfl, ?_, .inr rfl, by simp⟩
    unfold varsT; rw [if_pos h]; trivial
  simp -implicitDefEqProofs only [↓W_seq, go_sem, ↓reduceIte, Nat.reduceBEq, Nat.reduceAdd, Nat.reduceLeDiff, Nat.reduceEqDiff, reduceCtorEq, Int.reduceToNat, Int.reduceLE, Int.reduceLT, Int.reduceEq, Int.reduceNeg, Nat.reduceLT, Nat.reduceSub, Nat.reduceMul]
  refine kgb_b (fun e1 => ?_) (fun e1 => ?_) <;> simp -implicitDefEqProofs only [↓W_seq, go_sem, ↓reduceIte, Nat.reduceBEq, Nat.reduceAdd, Nat.reduceLeDiff, Nat.reduceEqDiff, reduceCtorEq, Int.reduceToNat, Int.reduceLE, Int.reduceLT, Int.reduceEq, Int.reduceNeg, Nat.reduceLT, Nat.reduceSub, Nat.reduceMul, e1]
  · exact hnil (.inl (of_decide_eq_true e1))
  refine kgb_b (fun e2 => ?_) (fun e2 => ?_) <;> simp -implicitDefEqProofs only [↓W_seq, go_sem, ↓reduceIte, Nat.reduceBEq, Nat.reduceAdd, Nat.reduceLeDiff, Nat.reduceEqDiff, reduceCtorEq, Int.reduceToNat, Int.reduceLE, Int.reduceLT, Int.reduceEq, Int.reduceNeg, Nat.reduceLT, Nat.reduceSub, Nat.reduceMul, e2]
  · exact hnil (.inr (.inl (of_decide_eq_true e2)))
  refine kcd_b (fun e3 => ?_) (fun e3 => ?_) <;> simp -implicitDefEqProofs only [↓W_seq, go_sem, ↓reduceIte, Nat.reduceBEq, Nat.reduceAdd, Nat.reduceLeDiff, Nat.reduceEqDiff, reduceCtorEq, Int.reduceToNat, Int.reduceLE, Int.reduceLT, Int.reduceEq, Int.reduceNeg, Nat.reduceLT, Nat.reduceSub, Nat.reduceMul, e3]
  · exact hnil (.inr (.inr (of_decide_eq_true e3)))
  have e1 := of_decide_eq_false e1
  have e2 := of_decide_eq_false e2
  have e3 := of_decide_eq_false e3
  obtain ⟨m, rfl⟩ : ∃ m : Nat, n = m := ⟨n.toNat, by omega⟩
  simp -implicitDefEqProofs only [↓W_seq, go_sem, ↓reduceIte, Nat.reduceBEq, Nat.reduceAdd, Nat.reduceLeDiff, Nat.reduceEqDiff, reduceCtorEq, Int.reduceToNat, Int.reduceLE, Int.reduceLT, Int.reduceEq, Int.reduceNeg, Nat.reduceLT, Nat.reduceSub, Nat.reduceMul, ms24 m _ (show m ≤ 4096 by omega), List.length_replicate, List.length_map]
  refine WL.upto m (fun j st => ∃ R : List (List Imm), R.length = m ∧ (∀ r ∈ R, r.length = 5) ∧ (∀ k : Nat, k < j → R[k]? = some (varRow (x + m - 1 - k))) ∧ st = ⟨[(0, .im (.i .i64 m)), (1, .im (.i .i64 x)), (5, .sl 0 m 0 m), (20, .im (.i .i64 m)), (21, .im (.i .i64 j))], [], [.row (R.map (·.map .im)) 5 26]⟩) ?_ ⟨List.replicate m [Imm.i .i64 0, .i .i64 0, .s ByteArray.empty, .sl 1 false true [], .sl 1 false true []], by simp, by intro r hr; rw [List.eq_of_mem_replicate hr]; rfl, by omega, rfl⟩
  rintro j st hj ⟨R, hR, h5, hI, rfl⟩
  simp -implicitDefEqProofs only [↓W_seq, go_sem, ↓reduceIte, Nat.reduceBEq, Nat.reduceAdd, Nat.reduceLeDiff, Nat.reduceEqDiff, reduceCtorEq, Int.reduceToNat, Int.reduceLE, Int.reduceLT, Int.reduceEq, Int.reduceNeg, Nat.reduceLT, Nat.reduceSub, Nat.reduceMul]
  refine kcd_dec (fun h1 => ?_) (fun h1 => ?_)
  · have hj1 : j < m := by omega
    obtain ⟨r, hr⟩ : ∃ r, R[j]? = some r := ⟨_, List.getElem?_eq_getElem (by omega)⟩
    have hr5 := h5 r (List.mem_of_getElem? hr)
    have hmj : (List.map (fun x : List Imm => List.map AV.im x) R)[j]? = some (r.map .im) := by rw [List.getElem?_map, hr]; rfl
    have hdr : List.drop 5 (List.map AV.im r) = [] := List.drop_eq_nil_of_le (by simp [hr5])
    have hw1 : IntKind.i64.wrap (x + (m : Int)) = x + m := by rw [wrap_id] <;> omega
    have hw2 : IntKind.i64.wrap (x + (m : Int) - 1) = x + m - 1 := by rw [wrap_id] <;> omega
    have hw3 : IntKind.i64.wrap (x + (m : Int) - 1 - j) = x + m - 1 - j := by rw [wrap_id] <;> omega
    have hw4 : IntKind.i64.wrap ((j : Int) + 1) = ((j + 1 : Nat) : Int) := by rw [wrap_id] <;> omega
    simp -implicitDefEqProofs only [↓W_seq, go_sem, ↓reduceIte, Nat.reduceBEq, Nat.reduceAdd, Nat.reduceLeDiff, Nat.reduceEqDiff, reduceCtorEq, Int.reduceToNat, Int.reduceLE, Int.reduceLT, Int.reduceEq, Int.reduceNeg, Nat.reduceLT, Nat.reduceSub, Nat.reduceMul, List.length_map, hR, hmj, hdr, hr5, hj1, hw1, hw2, hw3, hw4]
    refine ⟨R.set j (varRow (x + m - 1 - j)), by simp [hR], ?_, fun k hk => ?_, by simp [List.map_set, varRow]⟩
    · intro r' hr'
      rcases List.mem_or_eq_of_mem_set hr' with h | h
      · exact h5 r' h
      · rw [h]; rfl
    · rw [List.getElem?_set, hR]
      by_cases hkj : j = k
      · subst hkj; rw [if_pos rfl, if_pos hj1]
      · rw [if_neg hkj]; exact hI k (by omega)
  · simp -implicitDefEqProofs only [↓W_seq, go_sem, ↓reduceIte, Nat.reduceBEq, Nat.reduceAdd, Nat.reduceLeDiff, Nat.reduceEqDiff, reduceCtorEq, Int.reduceToNat, Int.reduceLE, Int.reduceLT, Int.reduceEq, Int.reduceNeg, Nat.reduceLT, Nat.reduceSub, Nat.reduceMul]
    have hjm : j = m := by omega
    subst hjm
    refine ⟨_, view_row (es := R) rfl hR.symm, R, _, _, rfl, ?_, .inl rfl, by omega⟩
    unfold varsT
    rw [if_neg (by omega)]
    refine All2.of_get (by simp [hR]) fun k a b ha hb => ?_
    have hk : k < j := by have := (List.getElem?_eq_some_iff.1 hb).1; omega
    rw [hI k hk] at hb
    cases hb
    rw [List.getElem?_map, List.getElem?_range (by simpa using hk)] at ha
    cases ha
    exact varRow_enc ⟨by omega, by omega⟩
/-- The constant of a family with its own level parameters. -/
def ownT (s : ByteArray) (n : Int) : Term := .mk 3 0 s ((List.range n.toNat).map fun (i : Nat) => ⟨0, [((i : Int), 0)]⟩) []
def lvlRow (i : Nat) : List Imm := [.i .i64 0, .sl 2 false true [[.i .i64 i, .i .i64 0]]]
theorem lvlRow_enc {i : Nat} (h : i ≤ lim) : Level.Enc ⟨0, [((i : Int), 0)]⟩ (lvlRow i) := by
  have hlim : lim = 1073741824 := rfl
  exact ⟨2, true, _, rfl, ⟨by simp, by simp⟩, .inl rfl, by show 1 ≤ lim; omega, ⟨rfl, ⟨by show (-9223372036854775808 : Int) ≤ i; omega, by show (i : Int) ≤ 9223372036854775807; omega⟩, ⟨by simp, by simp⟩⟩, trivial⟩
theorem lvls_enc {n : Nat} (h : n ≤ lim) : All2 Level.Enc ((List.range n).map fun (i : Nat) => (⟨0, [((i : Int), 0)]⟩ : Level)) ((List.range n).map lvlRow) := by
  refine All2.of_get (by simp) fun k a b ha hb => ?_
  have hk : k < n := by have := (List.getElem?_eq_some_iff.1 hb).1; simpa using this
  rw [List.getElem?_map, List.getElem?_range hk] at ha hb
  cases ha; cases hb
  exact lvlRow_enc (by omega)
theorem ownT_enc {s : ByteArray} {n : Nat} {z : Nat} {t : Bool} {kz : Nat} {kt : Bool} (hn : n ≤ lim) (hs : s.size ≤ lim) (hz : z = 2 ∨ n = 0) : (ownT s n).Enc [.i .i64 3, .i .i64 0, .s s, .sl z false t ((List.range n).map lvlRow), .sl kz false kt []] := by
  unfold ownT Term.Enc
  refine ⟨z, t, _, kz, kt, [], rfl, ⟨by omega, by omega⟩, ⟨by omega, by omega⟩, hs, ?_, by simpa using hn, ?_, .inr rfl, Nat.zero_le _, trivial⟩
  · rcases hz with h | h
    · exact .inl h
    · subst h; exact .inr rfl
  · exact lvls_enc hn
theorem view_agg5 {k : Nat} {q : Bool} {G : AHeap} {a b c d e : AV} {x y z u w : Imm} (ha : view q k G a = some x) (hb : view q k G b = some y) (hc : view q k G c = some z) (hd : view q k G d = some u) (he : view q k G e = some w) : view q (k + 1) G (.agg [a, b, c, d, e]) = some (.agg [x, y, z, u, w]) := by
  unfold view
  simp only [List.mapM_cons, List.mapM_nil, ha, hb, hc, hd, he]
  rfl
theorem f134 (s : ByteArray) (n : Int) (hs : s.size ≤ lim) (hn : n ≤ lim) : PV cx 134 [.s s, .i .i64 n] fun y => ∃ r, y = .agg r ∧ (ownT s n).Enc r := by
  refine PV.intro (fn := Try.f134) Try.func134 rfl rfl ?_
  have hlim : lim = 1073741824 := rfl
  simp -implicitDefEqProofs only [↓W_seq, go_sem, ↓reduceIte, Nat.reduceBEq, Nat.reduceAdd, Nat.reduceLeDiff, Nat.reduceEqDiff, reduceCtorEq, Int.reduceToNat, Int.reduceLE, Int.reduceLT, Int.reduceEq, Int.reduceNeg, Nat.reduceLT, Nat.reduceSub, Nat.reduceMul]
  refine WL.upto n.toNat (fun j st => (j = 0 ∧ st = ⟨[(4, .ptr 0 1 0 0), (5, .ptr 1 1 0 0), (9, .im (.i .i64 n)), (10, .im (.i .i64 j))], [], [.row [[.im (.i .i64 0), .im (.i .i64 0), .im (.s ByteArray.empty), .im (.sl 1 false true []), .im (.sl 1 false true [])]] 5 26, .row [[.im (.i .i64 3), .im (.i .i64 0), .im (.s s), .im (.sl 1 false true []), .im (.sl 1 false true [])]] 5 26]⟩) ∨
    (0 < j ∧ st = ⟨[(4, .ptr 0 1 0 0), (5, .ptr 1 1 0 0), (9, .im (.i .i64 n)), (10, .im (.i .i64 j))], [], [.row [[.im (.i .i64 0), .im (.i .i64 0), .im (.s ByteArray.empty), .im (.sl 1 false true []), .im (.sl 1 false true [])]] 5 26, .row [[.im (.i .i64 3), .im (.i .i64 0), .im (.s s), .sl 2 j 0 j, .im (.sl 1 false true [])]] 5 26, .row (((List.range j).map lvlRow).map (·.map .im)) 2 151]⟩)) ?_ (.inl ⟨rfl, rfl⟩)
  rintro j st hj (⟨rfl, rfl⟩ | ⟨h0, rfl⟩)
  · simp -implicitDefEqProofs only [↓W_seq, go_sem, ↓reduceIte, Nat.reduceBEq, Nat.reduceAdd, Nat.reduceLeDiff, Nat.reduceEqDiff, reduceCtorEq, Int.reduceToNat, Int.reduceLE, Int.reduceLT, Int.reduceEq, Int.reduceNeg, Nat.reduceLT, Nat.reduceSub, Nat.reduceMul]
    refine kcd_dec (fun h1 => ?_) (fun h1 => ?_)
    · have hj1 : 0 < n.toNat := by omega
      simp -implicitDefEqProofs only [↓W_seq, go_sem, ↓reduceIte, Nat.reduceBEq, Nat.reduceAdd, Nat.reduceLeDiff, Nat.reduceEqDiff, reduceCtorEq, Int.reduceToNat, Int.reduceLE, Int.reduceLT, Int.reduceEq, Int.reduceNeg, Nat.reduceLT, Nat.reduceSub, Nat.reduceMul, wrap_succ hj1 (by omega)]
      exact ⟨hj1, .inr rfl⟩
    · simp -implicitDefEqProofs only [↓W_seq, go_sem, ↓reduceIte, Nat.reduceBEq, Nat.reduceAdd, Nat.reduceLeDiff, Nat.reduceEqDiff, reduceCtorEq, Int.reduceToNat, Int.reduceLE, Int.reduceLT, Int.reduceEq, Int.reduceNeg, Nat.reduceLT, Nat.reduceSub, Nat.reduceMul]
      refine ⟨_, view_im _ _ _ _, _, rfl, ?_⟩
      have : ownT s n = ownT s (0 : Nat) := by unfold ownT; rw [show n.toNat = 0 by omega]; rfl
      rw [this]
      exact ownT_enc (by omega) hs (.inr rfl)
  · simp -implicitDefEqProofs only [↓W_seq, go_sem, ↓reduceIte, Nat.reduceBEq, Nat.reduceAdd, Nat.reduceLeDiff, Nat.reduceEqDiff, reduceCtorEq, Int.reduceToNat, Int.reduceLE, Int.reduceLT, Int.reduceEq, Int.reduceNeg, Nat.reduceLT, Nat.reduceSub, Nat.reduceMul]
    refine kcd_dec (fun h1 => ?_) (fun h1 => ?_)
    · have hj1 : j < n.toNat := by omega
      have hcap : j + 1 ≤ 4294967296 := by omega
      simp -implicitDefEqProofs only [↓W_seq, go_sem, ↓reduceIte, Nat.reduceBEq, Nat.reduceAdd, Nat.reduceLeDiff, Nat.reduceEqDiff, reduceCtorEq, Int.reduceToNat, Int.reduceLE, Int.reduceLT, Int.reduceEq, Int.reduceNeg, Nat.reduceLT, Nat.reduceSub, Nat.reduceMul, wrap_succ hj1 (by omega), List.length_map, List.length_range, hcap]
      exact ⟨hj1, .inr ⟨by omega, by simp [List.range_succ, lvlRow]⟩⟩
    · have hjn : j = n.toNat := by omega
      subst hjn
      simp -implicitDefEqProofs only [↓W_seq, go_sem, ↓reduceIte, Nat.reduceBEq, Nat.reduceAdd, Nat.reduceLeDiff, Nat.reduceEqDiff, reduceCtorEq, Int.reduceToNat, Int.reduceLE, Int.reduceLT, Int.reduceEq, Int.reduceNeg, Nat.reduceLT, Nat.reduceSub, Nat.reduceMul]
      refine ⟨_, view_agg5 (view_im _ _ _ _) (view_im _ _ _ _) (view_im _ _ _ _) (view_row (es := (List.range n.toNat).map lvlRow) rfl (by simp)) (view_im _ _ _ _), _, rfl, ?_⟩
      have : ownT s n = ownT s (n.toNat : Nat) := by unfold ownT; rw [show ((n.toNat : Nat) : Int).toNat = n.toNat by omega]
      rw [this]
      exact ownT_enc (by omega) hs (.inl rfl)
theorem f160 (ls ms : List Term) (es fs : List (List Imm)) (z w : Nat) (q p : Bool) (h : All2 Term.Enc ls es) (hz : z = 5 ∨ es = []) (hl : es.length ≤ lim) (h' : All2 Term.Enc ms fs) (hz' : w = 5 ∨ fs = []) (hl' : fs.length ≤ lim) : PF cx 160 [.sl z false q es, .sl w false p fs, .fn 54 []] (EqB (ls = ms)) := by
  refine PF.intro (fn := Try.f160) Try.func160 rfl rfl ?_
  simp -implicitDefEqProofs only [↓W_seq, go_sem, ↓reduceIte, Nat.reduceBEq, Nat.reduceAdd, Nat.reduceLeDiff, Nat.reduceEqDiff, reduceCtorEq, Int.reduceToNat, Int.reduceLE, Int.reduceLT, Int.reduceEq, Int.reduceNeg, Nat.reduceLT, Nat.reduceSub, Nat.reduceMul]
  refine kgb_b (fun e1 => ?_) (fun e1 => ?_) <;> simp -implicitDefEqProofs only [↓W_seq, go_sem, ↓reduceIte, Nat.reduceBEq, Nat.reduceAdd, Nat.reduceLeDiff, Nat.reduceEqDiff, reduceCtorEq, Int.reduceToNat, Int.reduceLE, Int.reduceLT, Int.reduceEq, Int.reduceNeg, Nat.reduceLT, Nat.reduceSub, Nat.reduceMul, e1]
  · refine WC.pf (f97 ls ms (fun a _ m r s hr hs => f54 _ a m r s (Nat.le_refl _) hr hs) rfl es fs z w q p h hz hl h' hz' hl') rfl rfl ?_
    rintro _ ⟨b, rfl, hb⟩
    simp -implicitDefEqProofs only [↓W_seq, go_sem, ↓reduceIte, Nat.reduceBEq, Nat.reduceAdd, Nat.reduceLeDiff, Nat.reduceEqDiff, reduceCtorEq, Int.reduceToNat, Int.reduceLE, Int.reduceLT, Int.reduceEq, Int.reduceNeg, Nat.reduceLT, Nat.reduceSub, Nat.reduceMul]
    exact ⟨_, rfl, b, rfl, hb⟩
  · refine ⟨_, rfl, .f fun e => ?_⟩
    subst e
    exact of_decide_eq_false e1 (by rw [← h.length, ← h'.length])
def ShapeEnc (own : Term) (ps : List Term) (n : Nat) (r : List Imm) : Prop := ∃ o0 o1 o2 o3 o4 z t es, r = [o0, o1, o2, o3, o4, .sl z false t es, .i .i64 n] ∧ own.Enc [o0, o1, o2, o3, o4] ∧ All2 Term.Enc ps es ∧ (z = 5 ∨ es = []) ∧ es.length ≤ lim ∧ n ≤ lim
open Classical in
/-- The index terms of the family itself, applied to its parameters. -/
noncomputable def resultT (own : Term) (p n : Nat) (t : Term) (last : Int) : Option (List Term) := if t.spine.2.length = p + n ∧ t.spine.1 = own ∧ t.spine.2.take p = varsT p last then some (t.spine.2.drop p) else none
def ResR (o : Option (List Term)) (y : Imm) : Prop := ∃ a b, y = .tup [a, .b b] ∧ match o with | some l => b = true ∧ TermL a l | none => b = false
theorem All2.drop {α β : Type} {R : α → β → Prop} : ∀ {l : List α} {m : List β} (j : Nat), All2 R l m → All2 R (l.drop j) (m.drop j)
  | _, _, 0, h => by simpa using h
  | [], [], _ + 1, _ => trivial
  | _ :: _, _ :: _, j + 1, h => All2.drop j h.2
  | [], _ :: _, _ + 1, h => h.elim
  | _ :: _, [], _ + 1, h => h.elim
theorem f161 (own : Term) (ps : List Term) (n : Nat) (r : List Imm) (t : Term) (s : List Imm) (last : Int) (h : ShapeEnc own ps n r) (ht : t.Enc s) (hn : t.nodes ≤ lim) (hlast : last ≤ 4 * lim) : PF cx 161 [.agg r, .agg s, .i .i64 last] (ResR (resultT own ps.length n t last)) := by
  refine PF.intro (fn := Try.f161) Try.func161 rfl rfl ?_
  have hlim : lim = 1073741824 := rfl
  obtain ⟨o0, o1, o2, o3, o4, z, ti, es, rfl, ho, hps, hz, hl, hnl⟩ := h
  have hpe := hps.length
  have h56 := f56 t s ht hn
  have ht5 := ht.length
  have hsl := Term.spine_len t
  obtain ⟨s0, s1, s2, s3, s4, rfl⟩ : ∃ a b c d e, s = [a, b, c, d, e] := by
    rcases s with _ | ⟨a, _ | ⟨b, _ | ⟨c, _ | ⟨d, _ | ⟨e, _ | ⟨_, _⟩⟩⟩⟩⟩⟩ <;> simp at ht5
    exact ⟨a, b, c, d, e, rfl⟩
  simp -implicitDefEqProofs only [↓W_seq, go_sem, ↓reduceIte, Nat.reduceBEq, Nat.reduceAdd, Nat.reduceLeDiff, Nat.reduceEqDiff, reduceCtorEq, Int.reduceToNat, Int.reduceLE, Int.reduceLT, Int.reduceEq, Int.reduceNeg, Nat.reduceLT, Nat.reduceSub, Nat.reduceMul]
  refine WC.pv h56 rfl rfl rfl ?_
  rintro _ ⟨_, hd, rfl, ⟨aes, az, at_, rfl, hae, haz, hal⟩, hhd⟩
  have hh5 := hhd.length
  obtain ⟨d0, d1, d2, d3, d4, rfl⟩ : ∃ a b c d e, hd = [a, b, c, d, e] := by
    rcases hd with _ | ⟨a, _ | ⟨b, _ | ⟨c, _ | ⟨d, _ | ⟨e, _ | ⟨_, _⟩⟩⟩⟩⟩⟩ <;> simp at hh5
    exact ⟨a, b, c, d, e, rfl⟩
  have hw : IntKind.i64.wrap ((es.length : Int) + n) = (es.length : Int) + n := by rw [wrap_id] <;> omega
  simp -implicitDefEqProofs only [↓W_seq, go_sem, ↓reduceIte, Nat.reduceBEq, Nat.reduceAdd, Nat.reduceLeDiff, Nat.reduceEqDiff, reduceCtorEq, Int.reduceToNat, Int.reduceLE, Int.reduceLT, Int.reduceEq, Int.reduceNeg, Nat.reduceLT, Nat.reduceSub, Nat.reduceMul, hw]
  refine kdb_not (fun e1 => ?_) (fun e1 => ?_) <;> simp -implicitDefEqProofs only [↓W_seq, go_sem, ↓reduceIte, Nat.reduceBEq, Nat.reduceAdd, Nat.reduceLeDiff, Nat.reduceEqDiff, reduceCtorEq, Int.reduceToNat, Int.reduceLE, Int.reduceLT, Int.reduceEq, Int.reduceNeg, Nat.reduceLT, Nat.reduceSub, Nat.reduceMul, e1]
  rotate_left
  · have : resultT own ps.length n t last = none := by
      unfold resultT; rw [if_neg]; rintro ⟨h, _⟩; exact of_decide_eq_false e1 (by rw [hae.length, hpe] at h; omega)
    rw [this]; exact ⟨_, rfl, _, _, rfl, rfl⟩
  have e1 : aes.length = es.length + n := by have := of_decide_eq_true e1; omega
  refine WC.pf (f54 _ _ _ _ _ (Nat.le_refl _) hhd ho) rfl rfl ?_
  rintro _ ⟨b, rfl, hb⟩
  simp -implicitDefEqProofs only [↓W_seq, go_sem, ↓reduceIte, Nat.reduceBEq, Nat.reduceAdd, Nat.reduceLeDiff, Nat.reduceEqDiff, reduceCtorEq, Int.reduceToNat, Int.reduceLE, Int.reduceLT, Int.reduceEq, Int.reduceNeg, Nat.reduceLT, Nat.reduceSub, Nat.reduceMul]
  refine kdb_not (fun e2 => ?_) (fun e2 => ?_) <;> simp -implicitDefEqProofs only [↓W_seq, go_sem, ↓reduceIte, Nat.reduceBEq, Nat.reduceAdd, Nat.reduceLeDiff, Nat.reduceEqDiff, reduceCtorEq, Int.reduceToNat, Int.reduceLE, Int.reduceLT, Int.reduceEq, Int.reduceNeg, Nat.reduceLT, Nat.reduceSub, Nat.reduceMul, e2]
  rotate_left
  · have : resultT own ps.length n t last = none := by
      unfold resultT; rw [if_neg]; rintro ⟨_, h, _⟩; rw [e2] at hb; exact absurd (hb.2 h) (by simp)
    rw [this]; exact ⟨_, rfl, _, _, rfl, rfl⟩
  have hle : es.length ≤ aes.length := by omega
  have hz5 : (5 = az ∨ aes.isEmpty = true) = True := eq_true (haz.elim (fun h => .inl h.symm) fun h => .inr (by rw [h]; rfl))
  simp -implicitDefEqProofs only [↓W_seq, go_sem, ↓reduceIte, Nat.reduceBEq, Nat.reduceAdd, Nat.reduceLeDiff, Nat.reduceEqDiff, reduceCtorEq, Int.reduceToNat, Int.reduceLE, Int.reduceLT, Int.reduceEq, Int.reduceNeg, Nat.reduceLT, Nat.reduceSub, Nat.reduceMul, hle, hz5]
  refine WC.pv (f192 es.length last hlast) rfl rfl rfl ?_
  rintro _ ⟨ves, vz, vt, rfl, hve, hvz, hvl⟩
  simp -implicitDefEqProofs only [↓W_seq, go_sem, ↓reduceIte, Nat.reduceBEq, Nat.reduceAdd, Nat.reduceLeDiff, Nat.reduceEqDiff, reduceCtorEq, Int.reduceToNat, Int.reduceLE, Int.reduceLT, Int.reduceEq, Int.reduceNeg, Nat.reduceLT, Nat.reduceSub, Nat.reduceMul]
  refine WC.pf (f160 _ _ _ _ 5 vz _ vt (hae.take es.length) (.inl rfl) (by simp only [List.length_take]; omega) hve hvz hvl) rfl rfl ?_
  rintro _ ⟨c, rfl, hc⟩
  simp -implicitDefEqProofs only [↓W_seq, go_sem, ↓reduceIte, Nat.reduceBEq, Nat.reduceAdd, Nat.reduceLeDiff, Nat.reduceEqDiff, reduceCtorEq, Int.reduceToNat, Int.reduceLE, Int.reduceLT, Int.reduceEq, Int.reduceNeg, Nat.reduceLT, Nat.reduceSub, Nat.reduceMul]
  refine kcd_not (fun e3 => ?_) (fun e3 => ?_) <;> simp -implicitDefEqProofs only [↓W_seq, go_sem, ↓reduceIte, Nat.reduceBEq, Nat.reduceAdd, Nat.reduceLeDiff, Nat.reduceEqDiff, reduceCtorEq, Int.reduceToNat, Int.reduceLE, Int.reduceLT, Int.reduceEq, Int.reduceNeg, Nat.reduceLT, Nat.reduceSub, Nat.reduceMul, e3, hle, hz5, Nat.le_refl]
  rotate_left
  · have : resultT own ps.length n t last = none := by
      unfold resultT; rw [if_neg]; rintro ⟨_, _, h⟩; rw [e3] at hc; rw [hpe] at h; exact absurd (hc.2 h) (by simp)
    rw [this]; exact ⟨_, rfl, _, _, rfl, rfl⟩
  · have : resultT own ps.length n t last = some (t.spine.2.drop es.length) := by
      unfold resultT; rw [if_pos ⟨by rw [hae.length, hpe, e1], hb.1 e2, by rw [hpe]; exact hc.1 e3⟩, hpe]
    rw [this]
    refine ⟨_, rfl, _, _, rfl, rfl, _, _, _, rfl, ?_, .inl rfl, by simp only [List.length_take, List.length_drop]; omega⟩
    rw [List.take_of_length_le (by simp)]
    exact hae.drop _
theorem Term.all_end (t : Term) : t.all.2.nodes ≤ t.nodes := by
  match t with
  | .mk k i n ls [a, b] =>
    by_cases hk : k = 6
    · subst hk
      rw [Term.all_pi, Term.nodes_mk]
      have := Term.all_end b
      simp only [Term.nodesL]; omega
    · rw [Term.all_k hk]; exact Nat.le_refl _
  | .mk k i n ls [] => rw [Term.all_n (by simp)]; exact Nat.le_refl _
  | .mk k i n ls [a] => rw [Term.all_n (by simp)]; exact Nat.le_refl _
  | .mk k i n ls (a :: b :: c :: l) => rw [Term.all_n (by simp)]; exact Nat.le_refl _
abbrev RecF := Nat × List Term × List Term
/-- The recursive fields. -/
noncomputable def recT (own : Term) (p n : Nat) : Nat → List Term → List RecF
  | _, [] => []
  | i, t :: l => match resultT own p n t.all.2 ((i : Int) + t.all.1.length) with
    | some res => (i, t.all.1, res) :: recT own p n (i + 1) l
    | none => recT own p n (i + 1) l
def RecEnc (f : RecF) (r : List Imm) : Prop := ∃ a b, r = [.i .i64 f.1, a, b] ∧ TermL a f.2.1 ∧ TermL b f.2.2
def RecL (y : Imm) (fs : List RecF) : Prop := ∃ es z t, y = .sl z false t es ∧ All2 RecEnc fs es ∧ (z = 3 ∨ es = []) ∧ es.length ≤ lim
theorem drop_cons {α : Type} {l : List α} {j : Nat} {a : α} (h : l[j]? = some a) : l.drop j = a :: l.drop (j + 1) := by
  obtain ⟨hj, rfl⟩ := List.getElem?_eq_some_iff.1 h
  exact List.drop_eq_getElem_cons hj
theorem f162 (own : Term) (ps : List Term) (n : Nat) (r : List Imm) (fs : List Term) (es : List (List Imm)) (z : Nat) (q : Bool) (h : ShapeEnc own ps n r) (hf : All2 Term.Enc fs es) (hz : z = 5 ∨ es = []) (hl : es.length ≤ lim) (hn : ∀ f ∈ fs, f.nodes ≤ lim) : PV cx 162 [.agg r, .sl z false q es] fun y => RecL y (recT own ps.length n 0 fs) := by
  refine PV.intro (fn := Try.f162) Try.func162 rfl rfl ?_
  have hlim : lim = 1073741824 := rfl
  have hS := h
  obtain ⟨o0, o1, o2, o3, o4, pz, pt, pes, rfl, ho, hps, hpz, hpl, hnl⟩ := h
  simp -implicitDefEqProofs only [↓W_seq, go_sem, ↓reduceIte, Nat.reduceBEq, Nat.reduceAdd, Nat.reduceLeDiff, Nat.reduceEqDiff, reduceCtorEq, Int.reduceToNat, Int.reduceLE, Int.reduceLT, Int.reduceEq, Int.reduceNeg, Nat.reduceLT, Nat.reduceSub, Nat.reduceMul]
  refine WL.upto es.length (fun j st => ∃ (done : List RecF) (res : List (List Imm)) (G : AHeap), recT own ps.length n 0 fs = done ++ recT own ps.length n j (fs.drop j) ∧ All2 RecEnc done res ∧ res.length ≤ j ∧
    st = ⟨[(2, .im (.ip 7 false [[o0, o1, o2, o3, o4, .sl pz false pt pes, .i .i64 n]] 0 0)), (5, .sl 0 res.length 0 res.length), (12, .im (.sl z false q es)), (13, .im (.i .i64 es.length)), (14, .im (.i .i64 j))], [], .row (res.map (·.map .im)) 3 168 :: G⟩) ?_ ⟨[], [], [], rfl, trivial, Nat.le_refl _, rfl⟩
  rintro j st hj ⟨done, res, G, hdone, hres, hrl, rfl⟩
  simp -implicitDefEqProofs only [↓W_seq, go_sem, ↓reduceIte, Nat.reduceBEq, Nat.reduceAdd, Nat.reduceLeDiff, Nat.reduceEqDiff, reduceCtorEq, Int.reduceToNat, Int.reduceLE, Int.reduceLT, Int.reduceEq, Int.reduceNeg, Nat.reduceLT, Nat.reduceSub, Nat.reduceMul]
  refine kcd_dec (fun h1 => ?_) (fun h1 => ?_)
  · have hj1 : j < es.length := by omega
    obtain ⟨rfl, a, r, ha, hr, hE⟩ := hf.at hz hj1
    have han := hn a (List.mem_of_getElem? ha)
    have hE0 := hE
    obtain ⟨k2, i2, n2, ls2, ks2, lz2, lt2, les2, kz2, kt2, kes2, rfl, rfl, hk2, hi2, hn2, hlz2, hll2, hl2, hkz2, hkl2, hks2⟩ := hE.inv
    rw [drop_cons ha, recT] at hdone
    simp -implicitDefEqProofs only [↓W_seq, go_sem, ↓reduceIte, Nat.reduceBEq, Nat.reduceAdd, Nat.reduceLeDiff, Nat.reduceEqDiff, reduceCtorEq, Int.reduceToNat, Int.reduceLE, Int.reduceLT, Int.reduceEq, Int.reduceNeg, Nat.reduceLT, Nat.reduceSub, Nat.reduceMul, hj1, hr]
    refine WC.pv (f98 _ _ hE0 han) rfl rfl rfl ?_
    rintro _ ⟨_, hd, rfl, ⟨aes, az, at_, rfl, hae, haz, hal⟩, hhd⟩
    have hh5 := hhd.length
    obtain ⟨d0, d1, d2, d3, d4, rfl⟩ : ∃ a b c d e, hd = [a, b, c, d, e] := by
      rcases hd with _ | ⟨a, _ | ⟨b, _ | ⟨c, _ | ⟨d, _ | ⟨e, _ | ⟨_, _⟩⟩⟩⟩⟩⟩ <;> simp at hh5
      exact ⟨a, b, c, d, e, rfl⟩
    have hw : IntKind.i64.wrap ((j : Int) + aes.length) = (j : Int) + aes.length := by rw [wrap_id] <;> omega
    simp -implicitDefEqProofs only [↓W_seq, go_sem, ↓reduceIte, Nat.reduceBEq, Nat.reduceAdd, Nat.reduceLeDiff, Nat.reduceEqDiff, reduceCtorEq, Int.reduceToNat, Int.reduceLE, Int.reduceLT, Int.reduceEq, Int.reduceNeg, Nat.reduceLT, Nat.reduceSub, Nat.reduceMul, hw]
    refine WC.pf (f161 own ps n _ _ _ ((j : Int) + aes.length) hS hhd (Nat.le_trans (Term.all_end _) han) (by omega)) rfl rfl ?_
    rintro _ ⟨x, b, rfl, hrs⟩
    rw [hae.length] at hdone
    cases hrt : resultT own ps.length n (Term.mk k2 i2 n2 ls2 ks2).all.2 ((j : Int) + aes.length) with
    | none =>
      rw [hrt] at hrs hdone
      have hb : b = false := hrs
      subst hb
      simp -implicitDefEqProofs only [↓W_seq, go_sem, ↓reduceIte, Nat.reduceBEq, Nat.reduceAdd, Nat.reduceLeDiff, Nat.reduceEqDiff, reduceCtorEq, Int.reduceToNat, Int.reduceLE, Int.reduceLT, Int.reduceEq, Int.reduceNeg, Nat.reduceLT, Nat.reduceSub, Nat.reduceMul, wrap_succ hj1 hl]
      exact ⟨done, res, _, hdone, hres, by omega, rfl⟩
    | some l =>
      rw [hrt] at hrs hdone
      obtain ⟨hb, xes, xz, xt, rfl, hxe, hxz, hxl⟩ := hrs
      subst hb
      have hcap : res.length + 1 ≤ 4294967296 := by omega
      simp -implicitDefEqProofs only [↓W_seq, go_sem, ↓reduceIte, Nat.reduceBEq, Nat.reduceAdd, Nat.reduceLeDiff, Nat.reduceEqDiff, reduceCtorEq, Int.reduceToNat, Int.reduceLE, Int.reduceLT, Int.reduceEq, Int.reduceNeg, Nat.reduceLT, Nat.reduceSub, Nat.reduceMul, wrap_succ hj1 hl, List.length_map, hcap]
      refine ⟨done ++ [(j, (Term.mk k2 i2 n2 ls2 ks2).all.1, l)], res ++ [[.i .i64 j, .sl az false at_ aes, .sl xz false xt xes]], G ++ [.row [[.im (.i .i64 k2), .im (.i .i64 i2), .im (.s n2), .im (.sl lz2 false lt2 les2), .im (.sl kz2 false kt2 kes2)]] 5 26, .row [[.im d0, .im d1, .im d2, .im d3, .im d4]] 5 26], ?_, hres.snoc ?_, ?_, ?_⟩
      rotate_left 3
      · rw [List.length_append, List.map_append]; rfl
      · rw [hdone, List.append_assoc]; rfl
      · exact ⟨_, _, rfl, ⟨_, _, _, rfl, hae, haz, hal⟩, ⟨_, _, _, rfl, hxe, hxz, hxl⟩⟩
      · rw [List.length_append]; simp only [List.length_cons, List.length_nil]; omega
  · simp -implicitDefEqProofs only [↓W_seq, go_sem, ↓reduceIte, Nat.reduceBEq, Nat.reduceAdd, Nat.reduceLeDiff, Nat.reduceEqDiff, reduceCtorEq, Int.reduceToNat, Int.reduceLE, Int.reduceLT, Int.reduceEq, Int.reduceNeg, Nat.reduceLT, Nat.reduceSub, Nat.reduceMul]
    have hje : j = es.length := by omega
    rw [List.drop_eq_nil_of_le (by rw [hf.length]; omega), recT, List.append_nil] at hdone
    rw [hdone]
    exact ⟨_, view_row (es := res) rfl rfl, _, _, _, rfl, hres, .inl rfl, by omega⟩
theorem Term.all_fields (t : Term) : ∀ f ∈ t.all.1, f.nodes < t.nodes := by
  match t with
  | .mk k i n ls [a, b] =>
    by_cases hk : k = 6
    · subst hk
      rw [Term.all_pi, Term.nodes_mk]
      intro f hf
      simp only [Term.nodesL]
      rcases List.mem_cons.1 hf with rfl | hf
      · omega
      · have := Term.all_fields b f hf; omega
    · rw [Term.all_k hk]; simp
  | .mk k i n ls [] => rw [Term.all_n (by simp)]; simp
  | .mk k i n ls [a] => rw [Term.all_n (by simp)]; simp
  | .mk k i n ls (a :: b :: c :: l) => rw [Term.all_n (by simp)]; simp
abbrev CtorF := List Term × List RecF × List Term
open Classical in
noncomputable def ctorT (own : Term) (ps : List Term) (n : Nat) (c : Ctor) : Option CtorF :=
  if ps.length ≤ c.type.all.1.length ∧ c.type.all.1.take ps.length = ps then
    (resultT own ps.length n c.type.all.2 ((c.type.all.1.length : Int) - ps.length)).map fun res => (c.type.all.1.drop ps.length, recT own ps.length n 0 (c.type.all.1.drop ps.length), res)
  else none
def CtorEnc (s : ByteArray) (x : CtorF) (r : List Imm) : Prop := ∃ a b c, r = [.s s, a, b, c] ∧ TermL a x.1 ∧ RecL b x.2.1 ∧ TermL c x.2.2
def CtorR (s : ByteArray) (o : Option CtorF) (y : Imm) : Prop := ∃ r b, y = .tup [.agg r, .b b] ∧ r.length = 4 ∧ match o with | some x => b = true ∧ CtorEnc s x r | none => b = false
theorem f135 (own : Term) (ps : List Term) (n : Nat) (r : List Imm) (c : Ctor) (s : List Imm) (h : ShapeEnc own ps n r) (hc : c.Enc s) : PF cx 135 [.agg r, .agg s] (CtorR c.name (ctorT own ps n c)) := by
  refine PF.intro (fn := Try.f135) Try.func135 rfl rfl ?_
  have hlim : lim = 1073741824 := rfl
  have hS := h
  obtain ⟨o0, o1, o2, o3, o4, pz, pt, pes, rfl, ho, hps, hpz, hpl, hnl⟩ := h
  obtain ⟨x0, x1, x2, x3, x4, rfl, hx, hX, hXn⟩ := hc
  simp -implicitDefEqProofs only [↓W_seq, go_sem, ↓reduceIte, Nat.reduceBEq, Nat.reduceAdd, Nat.reduceLeDiff, Nat.reduceEqDiff, reduceCtorEq, Int.reduceToNat, Int.reduceLE, Int.reduceLT, Int.reduceEq, Int.reduceNeg, Nat.reduceLT, Nat.reduceSub, Nat.reduceMul]
  refine WC.pv (f98 _ _ hX hXn) rfl rfl rfl ?_
  rintro _ ⟨_, hd, rfl, ⟨aes, az, at_, rfl, hae, haz, hal⟩, hhd⟩
  have hh5 := hhd.length
  obtain ⟨d0, d1, d2, d3, d4, rfl⟩ : ∃ a b c d e, hd = [a, b, c, d, e] := by
    rcases hd with _ | ⟨a, _ | ⟨b, _ | ⟨c, _ | ⟨d, _ | ⟨e, _ | ⟨_, _⟩⟩⟩⟩⟩⟩ <;> simp at hh5
    exact ⟨a, b, c, d, e, rfl⟩
  have hpe := hps.length
  have hz5 : (5 = az ∨ aes.isEmpty = true) = True := eq_true (haz.elim (fun h => .inl h.symm) fun h => .inr (by rw [h]; rfl))
  simp -implicitDefEqProofs only [↓W_seq, go_sem, ↓reduceIte, Nat.reduceBEq, Nat.reduceAdd, Nat.reduceLeDiff, Nat.reduceEqDiff, reduceCtorEq, Int.reduceToNat, Int.reduceLE, Int.reduceLT, Int.reduceEq, Int.reduceNeg, Nat.reduceLT, Nat.reduceSub, Nat.reduceMul]
  refine kdb_b (fun e1 => ?_) (fun e1 => ?_) <;> simp -implicitDefEqProofs only [↓W_seq, go_sem, ↓reduceIte, Nat.reduceBEq, Nat.reduceAdd, Nat.reduceLeDiff, Nat.reduceEqDiff, reduceCtorEq, Int.reduceToNat, Int.reduceLE, Int.reduceLT, Int.reduceEq, Int.reduceNeg, Nat.reduceLT, Nat.reduceSub, Nat.reduceMul, e1]
  · have : ctorT own ps n c = none := by
      unfold ctorT; rw [if_neg]; rintro ⟨h, _⟩; have := of_decide_eq_true e1; rw [hae.length, hpe] at h; omega
    rw [this]; exact ⟨_, rfl, _, _, rfl, rfl, rfl⟩
  have hle : pes.length ≤ aes.length := by have := of_decide_eq_false e1; omega
  simp -implicitDefEqProofs only [↓W_seq, go_sem, ↓reduceIte, Nat.reduceBEq, Nat.reduceAdd, Nat.reduceLeDiff, Nat.reduceEqDiff, reduceCtorEq, Int.reduceToNat, Int.reduceLE, Int.reduceLT, Int.reduceEq, Int.reduceNeg, Nat.reduceLT, Nat.reduceSub, Nat.reduceMul, hle, hz5]
  refine WC.pf (f160 _ _ _ _ 5 pz _ pt (hae.take pes.length) (.inl rfl) (by simp only [List.length_take]; omega) hps hpz hpl) rfl rfl ?_
  rintro _ ⟨b, rfl, hb⟩
  simp -implicitDefEqProofs only [↓W_seq, go_sem, ↓reduceIte, Nat.reduceBEq, Nat.reduceAdd, Nat.reduceLeDiff, Nat.reduceEqDiff, reduceCtorEq, Int.reduceToNat, Int.reduceLE, Int.reduceLT, Int.reduceEq, Int.reduceNeg, Nat.reduceLT, Nat.reduceSub, Nat.reduceMul]
  refine kcd_not (fun e2 => ?_) (fun e2 => ?_) <;> simp -implicitDefEqProofs only [↓W_seq, go_sem, ↓reduceIte, Nat.reduceBEq, Nat.reduceAdd, Nat.reduceLeDiff, Nat.reduceEqDiff, reduceCtorEq, Int.reduceToNat, Int.reduceLE, Int.reduceLT, Int.reduceEq, Int.reduceNeg, Nat.reduceLT, Nat.reduceSub, Nat.reduceMul, e2, hle, hz5, Nat.le_refl]
  rotate_left
  · have : ctorT own ps n c = none := by
      unfold ctorT; rw [if_neg]; rintro ⟨_, h⟩; rw [e2] at hb; rw [hpe] at h; exact absurd (hb.2 h) (by simp)
    rw [this]; exact ⟨_, rfl, _, _, rfl, rfl, rfl⟩
  have htk : List.take (aes.length - pes.length) (List.drop pes.length aes) = List.drop pes.length aes := List.take_of_length_le (by simp)
  have hlen : ((List.drop pes.length aes).length : Int) = (c.type.all.1.length : Int) - ps.length := by rw [List.length_drop, hae.length, hpe]; omega
  simp -implicitDefEqProofs only [↓W_seq, go_sem, ↓reduceIte, Nat.reduceBEq, Nat.reduceAdd, Nat.reduceLeDiff, Nat.reduceEqDiff, reduceCtorEq, Int.reduceToNat, Int.reduceLE, Int.reduceLT, Int.reduceEq, Int.reduceNeg, Nat.reduceLT, Nat.reduceSub, Nat.reduceMul, htk]
  have hdl : (List.drop pes.length aes).length ≤ lim := by rw [List.length_drop]; omega
  refine WC.pf (f161 own ps n _ _ _ ((List.drop pes.length aes).length : Nat) hS hhd (Nat.le_trans (Term.all_end _) hXn) (by omega)) rfl rfl ?_
  rintro _ ⟨x, b2, rfl, hrs⟩
  have hct : ctorT own ps n c = (resultT own ps.length n c.type.all.2 ((List.drop pes.length aes).length : Nat)).map fun res => (c.type.all.1.drop ps.length, recT own ps.length n 0 (c.type.all.1.drop ps.length), res) := by
    unfold ctorT; rw [if_pos ⟨by rw [hae.length, hpe]; exact hle, by rw [hpe]; exact hb.1 e2⟩, hlen]
  rw [hct]
  cases hrt : resultT own ps.length n c.type.all.2 ((List.drop pes.length aes).length : Nat) with
  | none =>
    rw [hrt] at hrs
    have hb : b2 = false := hrs
    subst hb
    simp -implicitDefEqProofs only [↓W_seq, go_sem, ↓reduceIte, Nat.reduceBEq, Nat.reduceAdd, Nat.reduceLeDiff, Nat.reduceEqDiff, reduceCtorEq, Int.reduceToNat, Int.reduceLE, Int.reduceLT, Int.reduceEq, Int.reduceNeg, Nat.reduceLT, Nat.reduceSub, Nat.reduceMul]
    exact ⟨_, rfl, _, _, rfl, rfl, rfl⟩
  | some l =>
    rw [hrt] at hrs
    obtain ⟨hb, xes, xz, xt, rfl, hxe, hxz, hxl⟩ := hrs
    subst hb
    simp -implicitDefEqProofs only [↓W_seq, go_sem, ↓reduceIte, Nat.reduceBEq, Nat.reduceAdd, Nat.reduceLeDiff, Nat.reduceEqDiff, reduceCtorEq, Int.reduceToNat, Int.reduceLE, Int.reduceLT, Int.reduceEq, Int.reduceNeg, Nat.reduceLT, Nat.reduceSub, Nat.reduceMul]
    refine WC.pv (f162 own ps n _ _ _ 5 _ hS (hae.drop pes.length) (.inl rfl) hdl (fun f hf => by have := Term.all_fields c.type f (List.mem_of_mem_drop hf); omega)) rfl rfl rfl ?_
    rintro _ ⟨res, rz, rt, rfl, hre, hrz, hrl⟩
    simp -implicitDefEqProofs only [↓W_seq, go_sem, ↓reduceIte, Nat.reduceBEq, Nat.reduceAdd, Nat.reduceLeDiff, Nat.reduceEqDiff, reduceCtorEq, Int.reduceToNat, Int.reduceLE, Int.reduceLT, Int.reduceEq, Int.reduceNeg, Nat.reduceLT, Nat.reduceSub, Nat.reduceMul]
    refine ⟨_, rfl, _, _, rfl, rfl, rfl, _, _, _, rfl, ⟨_, _, _, rfl, by show All2 Term.Enc (List.drop ps.length c.type.all.1) _; rw [hpe]; exact hae.drop _, .inl rfl, hdl⟩, ⟨_, _, _, rfl, ?_, hrz, hrl⟩, ⟨_, _, _, rfl, hxe, hxz, hxl⟩⟩
    show All2 RecEnc (recT own ps.length n 0 (List.drop ps.length c.type.all.1)) res
    have e : List.drop ps.length c.type.all.1 = List.drop pes.length c.type.all.1 := by rw [hpe]
    rw [e]; exact hre
end Go.Proofs.Ytnbbhbbhgcipjaa.Am

namespace Go.Proofs.Ytnbbhbbhgcipjaa.Am
theorem WC.vpf {cx : Cx} {f : FuncId} {ds : List Imm} {args : List AV} {H : AHeap} {R : Imm → Prop} {Q : AV → AHeap → Prop} (h : PF cx f ds R) (ha : views H args = some ds) (hs : cx.shared f = false) (hf : ∀ d, R d → d.flatR = true) (hR : ∀ d, R d → Q (.im d) H) : WC cx (.fn f args) H Q := by
  obtain ⟨v, G, ⟨k0, h0⟩, d, rfl, hd⟩ := h
  refine ⟨.im d, H, ⟨k0, fun k hk => ?_⟩, hR d hd⟩
  refine acallX_of ?_
  unfold acall
  simp only [viaView, hs, Bool.false_eq_true, if_false, ha]
  rw [h0 k hk]
  simp [pack, rowOf, view, viewDepth, hf d hd]
theorem view_part {k : Nat} {q : Bool} {G : AHeap} {l m j n z : Nat} {es : List (List Imm)} {t : TypeId} (h : G[l]? = some (.row (es.map (·.map .im)) z t)) (hm : m = es.length) (hj : j + n ≤ m) : view q (k + 1) G (.sl l m j n) = some (.sl z q false ((es.drop j).take n)) := by
  subst hm
  unfold view
  rw [rdr_eq, h]
  simp only [rdO_row, List.length_map, if_true, bind, Option.bind_some]
  rw [show sub (es.map (·.map AV.im)) j n = some (((es.drop j).take n).map (·.map AV.im)) by unfold sub; rw [if_pos (by simpa using hj), List.map_take, List.map_drop]]
  simp only [Option.bind_some, mapM_rows, Option.map_some]
theorem vwO_cons (H : AHeap) (v : AV) (vs : List AV) : vwO H (v :: vs) = (view true viewDepth H v).bind fun d => (vwO H vs).map (d :: ·) := by
  rw [← vwO_eq, ← vwO_eq]
  unfold views
  simp only [List.mapM_cons]
  cases view true viewDepth H v <;> simp <;> cases List.mapM (view true viewDepth H) vs <;> rfl
/-- A slice of a row. -/
def slL (P : Program) (u : Option TypeDesc) (H : AHeap) (l0 st j n : Nat) (lo hi : Option AV) : Option AV :=
  match u with
  | some (.slice e) => (bnd hi n).bind fun h => (bnd lo 0).bind fun l => if h ≤ n ∧ l ≤ h ∧ live H l0 st = true ∧ (rdr H l0 st).map (·.2) = szOf P e then some (.sl l0 st (j + l) (h - l)) else none
  | _ => none
theorem slL_eq (P : Program) (e : TypeId) (H : AHeap) (l0 st j n : Nat) (lo hi : Option AV) : slL P (some (.slice e)) H l0 st j n lo hi = (bnd hi n).bind fun h => (bnd lo 0).bind fun l => if h ≤ n ∧ l ≤ h ∧ live H l0 st = true ∧ (rdr H l0 st).map (·.2) = szOf P e then some (.sl l0 st (j + l) (h - l)) else none := rfl
theorem aslice_sl (P : Program) (H : AHeap) (t : TypeId) (l0 st j n : Nat) (lo hi : Option AV) : aslice P H t (.sl l0 st j n) lo hi none = slL P (P.underlying t) H l0 st j n lo hi := by
  unfold aslice slL
  cases P.underlying t with
  | none => rfl
  | some u => cases u <;> rfl
attribute [go_sem] aslice_sl slL_eq
end Go.Proofs.Ytnbbhbbhgcipjaa.Am

namespace Go.Proofs.Ytnbbhbbhgcipjaa.Am
theorem WC.vpv {cx : Cx} {f : FuncId} {ds : List Imm} {args : List AV} {H : AHeap} {R : Imm → Prop} {Q : AV → AHeap → Prop} (h : PV cx f ds R) (ha : views H args = some ds) (hs : cx.shared f = false) (ho : cx.own f = false) (hc : ∀ d, R d → d.clean = true) (hR : ∀ d, R d → Q (.im d) H) : WC cx (.fn f args) H Q := by
  obtain ⟨v, G, ⟨k0, h0⟩, d, hv, hd⟩ := h
  refine ⟨.im d, H, ⟨k0, fun k hk => ?_⟩, hR d hd⟩
  refine acallX_of ?_
  unfold acall
  simp only [viaView, hs, Bool.false_eq_true, if_false, ha]
  rw [h0 k hk]
  simp only [ho]
  unfold pack
  rw [rowOf_f]
  simp [hv, hc d hd]
theorem cleanLL_of {α : Type} {R : α → List Imm → Prop} : ∀ {l : List α} {es : List (List Imm)}, All2 R l es → (∀ a r, a ∈ l → R a r → Imm.cleanL r = true) → Imm.cleanLL es = true
  | [], [], _, _ => rfl
  | a :: l, r :: es, h, hc => by
    unfold Imm.cleanLL
    rw [hc a r (by simp) h.1, cleanLL_of h.2 fun a r ha => hc a r (by simp [ha])]; rfl
  | [], _ :: _, h, _ => h.elim
  | _ :: _, [], h, _ => h.elim
theorem EncV.clean {v : Int × Int} {r : List Imm} (h : EncV v r) : Imm.cleanL r = true := by
  obtain ⟨rfl, _⟩ := h; rfl
theorem Level.Enc.clean {l : Level} {r : List Imm} (h : l.Enc r) : Imm.cleanL r = true := by
  obtain ⟨z, t, es, rfl, _, _, _, hv⟩ := h
  have := cleanLL_of hv fun _ _ _ h => EncV.clean h
  simp [Imm.cleanL, Imm.clean, this]
mutual
theorem Term.Enc.clean : ∀ (t : Term) (r : List Imm), t.Enc r → Imm.cleanL r = true
  | .mk k i n ls ks, r, h => by
    unfold Term.Enc at h
    obtain ⟨lz, lt, les, kz, kt, kes, rfl, _, _, _, _, _, hl, _, _, hk⟩ := h
    have h1 := cleanLL_of hl fun _ _ _ h => Level.Enc.clean h
    have h2 := Term.Encs.clean ks kes hk
    simp [Imm.cleanL, Imm.clean, h1, h2]
theorem Term.Encs.clean : ∀ (ts : List Term) (rs : List (List Imm)), Term.Encs ts rs → Imm.cleanLL rs = true
  | [], [], _ => rfl
  | t :: ts, r :: rs, h => by
    unfold Term.Encs at h
    unfold Imm.cleanLL
    rw [Term.Enc.clean t r h.1, Term.Encs.clean ts rs h.2]; rfl
  | [], _ :: _, h => by simp [Term.Encs] at h
  | _ :: _, [], h => by simp [Term.Encs] at h
end
theorem terms_clean {ts : List Term} {es : List (List Imm)} (h : All2 Term.Enc ts es) : Imm.cleanLL es = true := cleanLL_of h fun a r _ h => Term.Enc.clean a r h
/-! Maps from numbers to numbers -/
def keysOf (ps : List (Nat × Nat)) : List Imm := ps.map fun p => .i .i64 p.1
def valsOf (ps : List (Nat × Nat)) : List Imm := ps.map fun p => .i .i64 p.2
def posOf (x : Nat) : List (Nat × Nat) → Nat → Option Nat
  | [], _ => none
  | p :: ps, i => if x = p.1 then some i else posOf x ps (i + 1)
theorem findK_num (x : Nat) : ∀ (ps : List (Nat × Nat)) (i : Nat), findK (.i .i64 x) (keysOf ps) i = some (posOf x ps i)
  | [], _ => rfl
  | p :: ps, i => by
    have ih := findK_num x ps (i + 1)
    unfold keysOf at ih ⊢
    rw [List.map_cons]
    unfold findK posOf
    have : keyEq (.i .i64 x) (.i .i64 p.1) = some (decide (x = p.1)) := by
      show some ((x : Int) == p.1) = _
      congr 1
      by_cases h : x = p.1
      · simp [h]
      · have h2 : ¬((x : Int) = p.1) := by omega
        rw [decide_eq_false h]; simp [h2]
    rw [this]
    by_cases h : x = p.1
    · rw [decide_eq_true h, if_pos h]
    · rw [decide_eq_false h, if_neg h]; exact ih
theorem posOf_none {x : Nat} : ∀ {ps : List (Nat × Nat)} {i : Nat}, (∀ p ∈ ps, p.1 ≠ x) → posOf x ps i = none
  | [], _, _ => rfl
  | p :: ps, i, h => by
    unfold posOf
    rw [if_neg (fun e => h p (by simp) e.symm)]
    exact posOf_none fun q hq => h q (by simp [hq])
theorem hit_num (x : Nat) : ∀ (ps pre : List (Nat × Nat)), hitOf (.i .i64 0) ((valsOf (pre ++ ps)).map .im) (posOf x ps pre.length) = some (.im (.i .i64 ((ps.lookup x).getD 0 : Nat)), (ps.lookup x).isSome)
  | [], pre => rfl
  | p :: ps, pre => by
    unfold posOf
    by_cases h : x = p.1
    · rw [if_pos h, List.lookup_cons, show (x == p.1) = true by simp [h]]
      unfold hitOf valsOf
      simp
    · rw [if_neg h, List.lookup_cons, show (x == p.1) = false by simp [h]]
      have := hit_num x ps (pre ++ [p])
      rw [List.append_assoc, List.length_append] at this
      exact this
theorem lk99 (q : Bool) (ps : List (Nat × Nat)) (x : Nat) (H : AHeap) : alookup cx.P 99 (.im (.mp q (keysOf ps) (valsOf ps))) (.im (.i .i64 x)) true H = some (.im (.tup [.i .i64 ((ps.lookup x).getD 0 : Nat), .b (ps.lookup x).isSome])) := by
  unfold alookup
  rw [ty99.2.2.1]
  have hk : keyOk cx.P 3 (.i .i64 x) = true := by unfold keyOk; rw [ty3.2.2.1]; rfl
  have hz : zeroImm cx.P 3 = some (.i .i64 0) := ty3.2.2.2.1
  have := hit_num x ps []
  simp only [List.nil_append, List.length_nil] at this
  simp only [hk, if_true, hz, Option.bind_some, mapOf, findK_num, this, Option.map_some]
  rfl
theorem lk99n (x : Nat) (H : AHeap) : alookup cx.P 99 (.im .nilm) (.im (.i .i64 x)) true H = some (.im (.tup [.i .i64 0, .b false])) := by
  unfold alookup
  rw [ty99.2.2.1]
  have hk : keyOk cx.P 3 (.i .i64 x) = true := by unfold keyOk; rw [ty3.2.2.1]; rfl
  have hz : zeroImm cx.P 3 = some (.i .i64 0) := ty3.2.2.2.1
  simp only [hk, if_true, hz, Option.bind_some, mapOf, findK, hitOf, Option.map_some]
  rfl
theorem mu99 {H : AHeap} {l : Nat} {ps : List (Nat × Nat)} {x n : Nat} (h : H[l]? = some (.map (keysOf ps) ((valsOf ps).map .im))) (hx : ∀ p ∈ ps, p.1 ≠ x) :
    amapUpdate cx.P 99 (.map l) (.im (.i .i64 x)) (.im (.i .i64 n)) H = some (H.set l (.map (keysOf (ps ++ [(x, n)])) ((valsOf (ps ++ [(x, n)])).map .im))) := by
  unfold amapUpdate
  rw [ty99.2.2.1]
  have hk : keyOk cx.P 3 (.i .i64 x) = true := by unfold keyOk; rw [ty3.2.2.1]; rfl
  simp only [h, hk, if_true, findK_num, posOf_none hx]
  simp [keysOf, valsOf]
attribute [go_sem] lk99 lk99n
section
variable {cx : Cx} {fn : FuncId} {all rest : List Oper} {d : Nat} {fr : Fr} {ds : List Dfr} {H : AHeap} {Q : RQ} {R : AV → AHeap → Prop}
theorem kvc_tupa (c : List AV) (vs : List AV) : kvc cx fn all rest d fr ds Q (.tup (.agg c :: vs)) H = WO cx fn all rest ⟨(d, (.tup (.agg c :: vs))) :: fr, ds, H⟩ Q := rfl
theorem kmt_tupa (c : List AV) (vs : List AV) : kmt R H (.tup (.agg c :: vs)) = R (.tup (.agg c :: vs)) H := rfl
theorem kvc_tupm (l : Nat) (vs : List AV) : kvc cx fn all rest d fr ds Q (.tup (.map l :: vs)) H = WO cx fn all rest ⟨(d, (.tup (.map l :: vs))) :: fr, ds, H⟩ Q := rfl
theorem kmt_tupm (l : Nat) (vs : List AV) : kmt R H (.tup (.map l :: vs)) = R (.tup (.map l :: vs)) H := rfl
theorem kvc_tupf (g : Go.Fn) (c vs : List AV) : kvc cx fn all rest d fr ds Q (.tup (.fn g c :: vs)) H = WO cx fn all rest ⟨(d, (.tup (.fn g c :: vs))) :: fr, ds, H⟩ Q := rfl
theorem kmt_tupf (g : Go.Fn) (c vs : List AV) : kmt R H (.tup (.fn g c :: vs)) = R (.tup (.fn g c :: vs)) H := rfl
end
attribute [go_sem ↓] kvc_tupa kvc_tupm kvc_tupf
attribute [go_sem] kmt_tupa kmt_tupm kmt_tupf
end Go.Proofs.Ytnbbhbbhgcipjaa.Am
