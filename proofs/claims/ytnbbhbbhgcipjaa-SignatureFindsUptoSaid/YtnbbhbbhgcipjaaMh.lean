/-
  Declarations as data, and the immediate values that stand for them.
  The functions on declarations: that they return, whatever the declarations.
  What the reference says of names: Declares, entry, Find, Names.
-/
import Derived.Test.YtnbbhbbhgcipjaaMg
set_option linter.unusedVariables false
set_option linter.unnecessarySimpa false
set_option linter.unusedSimpArgs false
set_option linter.unusedSectionVars false
namespace Go.Proofs.Ytnbbhbbhgcipjaa.Am
mutual
inductive Tree where
  | mk (kind : Int) (body : Term) (var : Int) (brs : List Branch)
inductive Branch where
  | mk (ctor : ByteArray) (absurd : Bool) (tree : Tree)
end
structure Ctor where
  name : ByteArray
  type : Term
structure Fn where
  name : ByteArray
  type : Term
  arity : Int
  tree : Tree
structure Decl where
  kind : Int
  name : ByteArray
  params : Int
  type : Term
  value : Term
  fixed : Int
  ctors : List Ctor
  recParams : Int
  recType : Term
  rules : List Term
  funs : List Fn
mutual
def Tree.Enc : Tree → List Imm → Prop
  | .mk k b v brs, r => ∃ b0 b1 b2 b3 b4 z t es, r = [.i .i64 k, b0, b1, b2, b3, b4, .i .i64 v, .sl z false t es] ∧ i64ok k ∧ i64ok v ∧ b.Enc [b0, b1, b2, b3, b4] ∧ (z = 10 ∨ es = []) ∧ es.length ≤ lim ∧ Branch.Encs brs es
def Branch.Enc : Branch → List Imm → Prop
  | .mk n a t, r => ∃ t0 t1 t2 t3 t4 t5 t6 t7, r = [.s n, .b a, t0, t1, t2, t3, t4, t5, t6, t7] ∧ n.size ≤ lim ∧ t.Enc [t0, t1, t2, t3, t4, t5, t6, t7]
def Branch.Encs : List Branch → List (List Imm) → Prop
  | [], [] => True
  | t :: ts, r :: rs => Branch.Enc t r ∧ Branch.Encs ts rs
  | _, _ => False
end
theorem Branch.Encs_eq : ∀ (ts : List Branch) (rs : List (List Imm)), Branch.Encs ts rs ↔ All2 Branch.Enc ts rs
  | [], [] => by simp [Branch.Encs, All2]
  | t :: ts, r :: rs => by simp [Branch.Encs, All2, Branch.Encs_eq ts rs]
  | [], _ :: _ => by simp [Branch.Encs, All2]
  | _ :: _, [] => by simp [Branch.Encs, All2]
theorem Tree.Enc.inv {t : Tree} {r : List Imm} (h : t.Enc r) : ∃ k b v brs b0 b1 b2 b3 b4 z ti es, t = .mk k b v brs ∧ r = [.i .i64 k, b0, b1, b2, b3, b4, .i .i64 v, .sl z false ti es] ∧ i64ok k ∧ i64ok v ∧ b.Enc [b0, b1, b2, b3, b4] ∧ (z = 10 ∨ es = []) ∧ es.length ≤ lim ∧ All2 Branch.Enc brs es := by
  cases t with | mk k b v brs =>
  rw [Tree.Enc] at h
  obtain ⟨b0, b1, b2, b3, b4, z, t, es, rfl, h1, h2, h3, h4, h5, h6⟩ := h
  exact ⟨_, _, _, _, _, _, _, _, _, _, _, _, rfl, rfl, h1, h2, h3, h4, h5, (Branch.Encs_eq _ _).1 h6⟩
theorem Branch.Enc.inv {t : Branch} {r : List Imm} (h : t.Enc r) : ∃ n a u t0 t1 t2 t3 t4 t5 t6 t7, t = .mk n a u ∧ r = [.s n, .b a, t0, t1, t2, t3, t4, t5, t6, t7] ∧ n.size ≤ lim ∧ u.Enc [t0, t1, t2, t3, t4, t5, t6, t7] := by
  cases t with | mk n a t =>
  rw [Branch.Enc] at h
  obtain ⟨t0, t1, t2, t3, t4, t5, t6, t7, rfl, h1, h2⟩ := h
  exact ⟨_, _, _, _, _, _, _, _, _, _, _, rfl, rfl, h1, h2⟩
def Ctor.Enc (c : Ctor) (r : List Imm) : Prop := ∃ t0 t1 t2 t3 t4, r = [.s c.name, t0, t1, t2, t3, t4] ∧ c.name.size ≤ lim ∧ c.type.Enc [t0, t1, t2, t3, t4] ∧ c.type.nodes ≤ lim
def Fn.Enc (f : Fn) (r : List Imm) : Prop := ∃ t0 t1 t2 t3 t4 u0 u1 u2 u3 u4 u5 u6 u7, r = [.s f.name, t0, t1, t2, t3, t4, .i .i64 f.arity, u0, u1, u2, u3, u4, u5, u6, u7] ∧ f.name.size ≤ lim ∧ f.type.Enc [t0, t1, t2, t3, t4] ∧ i64ok f.arity ∧ f.tree.Enc [u0, u1, u2, u3, u4, u5, u6, u7]
def Decl.Enc (d : Decl) (r : List Imm) : Prop := ∃ t0 t1 t2 t3 t4 v0 v1 v2 v3 v4 cz ct ces u0 u1 u2 u3 u4 rz rt res fz ft fes,
  r = [.i .i64 d.kind, .s d.name, .i .i64 d.params, t0, t1, t2, t3, t4, v0, v1, v2, v3, v4, .i .i64 d.fixed, .sl cz false ct ces, .i .i64 d.recParams, u0, u1, u2, u3, u4, .sl rz false rt res, .sl fz false ft fes] ∧
  i64ok d.kind ∧ d.name.size ≤ lim ∧ i64ok d.params ∧ d.type.Enc [t0, t1, t2, t3, t4] ∧ d.value.Enc [v0, v1, v2, v3, v4] ∧ i64ok d.fixed ∧ (cz = 6 ∨ ces = []) ∧ ces.length ≤ lim ∧ All2 Ctor.Enc d.ctors ces ∧ i64ok d.recParams ∧
  d.recType.Enc [u0, u1, u2, u3, u4] ∧ (rz = 5 ∨ res = []) ∧ res.length ≤ lim ∧ All2 Term.Enc d.rules res ∧ (fz = 15 ∨ fes = []) ∧ fes.length ≤ lim ∧ All2 Fn.Enc d.funs fes ∧ d.type.nodes ≤ lim
mutual
def Tree.nodes : Tree → Nat
  | .mk _ _ _ brs => 1 + Branch.nodesL brs
def Branch.nodes : Branch → Nat
  | .mk _ _ t => t.nodes
def Branch.nodesL : List Branch → Nat
  | [] => 0
  | b :: bs => b.nodes + Branch.nodesL bs
end
theorem Branch.nodes_get {ts : List Branch} {t : Branch} {i : Nat} (h : ts[i]? = some t) : t.nodes ≤ Branch.nodesL ts := by
  induction ts generalizing i with
  | nil => simp at h
  | cons a ts ih =>
    unfold Branch.nodesL
    cases i with
    | zero => simp at h; subst h; omega
    | succ i => have := ih (i := i) (by simpa using h); omega
theorem Tree.nodes_kid {k v : Int} {b : Term} {brs : List Branch} {n : ByteArray} {a : Bool} {t : Tree} {j : Nat} (h : brs[j]? = some (.mk n a t)) : t.nodes < (Tree.mk k b v brs).nodes := by
  have := Branch.nodes_get h
  rw [Branch.nodes] at this
  rw [Tree.nodes]; omega
theorem Tree.nodes_pos (t : Tree) : 0 < t.nodes := by cases t; rw [Tree.nodes]; omega
theorem Decl.Enc.length {d : Decl} {r : List Imm} (h : d.Enc r) : r.length = 23 := by
  obtain ⟨t0, t1, t2, t3, t4, v0, v1, v2, v3, v4, cz, ct, ces, u0, u1, u2, u3, u4, rz, rt, res, fz, ft, fes, rfl, _⟩ := h; rfl
/-- A term's function types taken apart. -/
def Term.all : Term → List Term × Term
  | .mk k i n ls [a, b] => if k = 6 then (a :: b.all.1, b.all.2) else ([], .mk k i n ls [a, b])
  | t => ([], t)
theorem Term.all_pi (i : Int) (n : ByteArray) (ls : List Level) (a b : Term) : (Term.mk 6 i n ls [a, b]).all = (a :: b.all.1, b.all.2) := by rw [Term.all]; simp
theorem Term.all_k {k i : Int} {n : ByteArray} {ls : List Level} {ks : List Term} (h : ¬k = 6) : (Term.mk k i n ls ks).all = ([], .mk k i n ls ks) := by
  rcases ks with _ | ⟨a, _ | ⟨b, _ | ⟨c, l⟩⟩⟩ <;> simp [Term.all, h]
theorem Term.all_n {k i : Int} {n : ByteArray} {ls : List Level} {ks : List Term} (h : ¬ks.length = 2) : (Term.mk k i n ls ks).all = ([], .mk k i n ls ks) := by
  rcases ks with _ | ⟨a, _ | ⟨b, _ | ⟨c, l⟩⟩⟩ <;> simp [Term.all] at h ⊢
theorem Term.all_len (t : Term) : t.all.1.length < t.nodes := by
  match t with
  | .mk k i n ls [a, b] =>
    by_cases hk : k = 6
    · subst hk
      rw [Term.all_pi, Term.nodes_mk]
      have := Term.all_len b
      simp only [Term.nodesL, List.length_cons]; omega
    · rw [Term.all_k hk, Term.nodes_mk]; exact Nat.lt_of_lt_of_le Nat.zero_lt_one (Nat.le_add_right _ _)
  | .mk k i n ls [] => rw [Term.all_n (by simp), Term.nodes_mk]; exact Nat.lt_of_lt_of_le Nat.zero_lt_one (Nat.le_add_right _ _)
  | .mk k i n ls [a] => rw [Term.all_n (by simp), Term.nodes_mk]; exact Nat.lt_of_lt_of_le Nat.zero_lt_one (Nat.le_add_right _ _)
  | .mk k i n ls (a :: b :: c :: l) => rw [Term.all_n (by simp), Term.nodes_mk]; exact Nat.lt_of_lt_of_le Nat.zero_lt_one (Nat.le_add_right _ _)
theorem All2.two {α : Type} {R : α → List Imm → Prop} {xs : List α} {es : List (List Imm)} (h : All2 R xs es) (h2 : es.length = 2) : ∃ a b r s, xs = [a, b] ∧ es = [r, s] ∧ R a r ∧ R b s := by
  rcases es with _ | ⟨r, _ | ⟨s, _ | ⟨_, _⟩⟩⟩ <;> simp at h2
  rcases xs with _ | ⟨a, _ | ⟨b, _ | ⟨_, _⟩⟩⟩
  · exact h.elim
  · exact h.2.elim
  · exact ⟨a, b, r, s, rfl, rfl, h.1, h.2.1⟩
  · exact h.2.2.elim
end Go.Proofs.Ytnbbhbbhgcipjaa.Am

namespace Go.Proofs.Ytnbbhbbhgcipjaa.Am
attribute [local irreducible] W WO WD WL WR WC WOp W1 WDf kcall kdfr kpn ob eb kval kvh kH kn0 kmp kvc kvc0 kca kpk kgb kgd kcd kcl kbl kres kmt wseq kseq kblock kreg kdn kdE kbd kcr kdm kdb kdg kdo kfin klp
theorem f104 (t : Term) (r : List Imm) (h : t.Enc r) : PF cx 104 [.agg r] IsB := by
  refine PF.intro (fn := Try.f104) Try.func104 rfl rfl ?_
  have h0 := h
  obtain ⟨k, i, n, ls, ks, lz, lt, les, kz, kt, kes, rfl, rfl, hk, hi, hn, hlz, hll, hl, hkz, hkl, hks⟩ := h.inv
  simp -implicitDefEqProofs only [↓W_seq, go_sem, ↓reduceIte, Nat.reduceBEq, Nat.reduceAdd, Nat.reduceLeDiff, Nat.reduceEqDiff, reduceCtorEq, Int.reduceToNat, Int.reduceLE, Int.reduceLT, Int.reduceEq, Int.reduceNeg, Nat.reduceLT, Nat.reduceSub, Nat.reduceMul]
  repeat' (first | ((first | refine kgb_not (fun h => ?_) (fun h => ?_) | refine kcd_not (fun h => ?_) (fun h => ?_) | refine kdb_not (fun h => ?_) (fun h => ?_) | refine kgb_b (fun h => ?_) (fun h => ?_) | refine kcd_b (fun h => ?_) (fun h => ?_) | refine kdb_b (fun h => ?_) (fun h => ?_) | fail) <;> simp -implicitDefEqProofs only [↓W_seq, go_sem, ↓reduceIte, Nat.reduceBEq, Nat.reduceAdd, Nat.reduceLeDiff, Nat.reduceEqDiff, reduceCtorEq, Int.reduceToNat, Int.reduceLE, Int.reduceLT, Int.reduceEq, Int.reduceNeg, Nat.reduceLT, Nat.reduceSub, Nat.reduceMul, h]) | (first | exact ⟨_, rfl, _, rfl⟩ | exact rfl | exact ⟨_, rfl⟩ | exact ⟨_, _, rfl⟩ | exact ⟨_, _, _, rfl⟩ | exact ⟨hj1, rfl⟩ | exact ⟨hj1, _, rfl⟩ | exact ⟨hj1, _, _, rfl⟩) | (refine WC.pf (f17 _ _ _ (Nat.le_refl _) h0) rfl rfl ?_; rintro _ ⟨mm, rfl⟩; simp -implicitDefEqProofs only [↓W_seq, go_sem, ↓reduceIte, Nat.reduceBEq, Nat.reduceAdd, Nat.reduceLeDiff, Nat.reduceEqDiff, reduceCtorEq, Int.reduceToNat, Int.reduceLE, Int.reduceLT, Int.reduceEq, Int.reduceNeg, Nat.reduceLT, Nat.reduceSub, Nat.reduceMul]) | (refine WC.pf (f131 _ _ _ (Nat.le_refl _) h0) rfl rfl ?_; rintro _ ⟨mm, rfl⟩; simp -implicitDefEqProofs only [↓W_seq, go_sem, ↓reduceIte, Nat.reduceBEq, Nat.reduceAdd, Nat.reduceLeDiff, Nat.reduceEqDiff, reduceCtorEq, Int.reduceToNat, Int.reduceLE, Int.reduceLT, Int.reduceEq, Int.reduceNeg, Nat.reduceLT, Nat.reduceSub, Nat.reduceMul]) | fail)
theorem f105 : ∀ (N : Nat) (t : Tree) (r : List Imm) (x : Int), t.nodes ≤ N → t.Enc r → PF cx 105 [.agg r, .i .i64 x] IsB := by
  intro N
  induction N with
  | zero => intro t r x hN; have := t.nodes_pos; omega
  | succ N ih =>
    intro t r x hN h
    refine PF.intro (fn := Try.f105) Try.func105 rfl rfl ?_
    obtain ⟨k, b, v, brs, b0, b1, b2, b3, b4, z, ti, es, rfl, rfl, hk, hv, hb, hz, hl, hB⟩ := h.inv
    simp -implicitDefEqProofs only [↓W_seq, go_sem, ↓reduceIte, Nat.reduceBEq, Nat.reduceAdd, Nat.reduceLeDiff, Nat.reduceEqDiff, reduceCtorEq, Int.reduceToNat, Int.reduceLE, Int.reduceLT, Int.reduceEq, Int.reduceNeg, Nat.reduceLT, Nat.reduceSub, Nat.reduceMul]
    repeat' (first | ((first | refine kgb_not (fun h => ?_) (fun h => ?_) | refine kcd_not (fun h => ?_) (fun h => ?_) | refine kdb_not (fun h => ?_) (fun h => ?_) | refine kgb_b (fun h => ?_) (fun h => ?_) | refine kcd_b (fun h => ?_) (fun h => ?_) | refine kdb_b (fun h => ?_) (fun h => ?_) | fail) <;> simp -implicitDefEqProofs only [↓W_seq, go_sem, ↓reduceIte, Nat.reduceBEq, Nat.reduceAdd, Nat.reduceLeDiff, Nat.reduceEqDiff, reduceCtorEq, Int.reduceToNat, Int.reduceLE, Int.reduceLT, Int.reduceEq, Int.reduceNeg, Nat.reduceLT, Nat.reduceSub, Nat.reduceMul, h]) | (first | exact ⟨_, rfl, _, rfl⟩ | exact rfl | exact ⟨_, rfl⟩ | exact ⟨_, _, rfl⟩ | exact ⟨_, _, _, rfl⟩ | exact ⟨hj1, rfl⟩ | exact ⟨hj1, _, rfl⟩ | exact ⟨hj1, _, _, rfl⟩) | (refine WC.pf (f104 _ _ hb) rfl rfl ?_; rintro _ ⟨_ | _, rfl⟩ <;> simp -implicitDefEqProofs only [↓W_seq, go_sem, ↓reduceIte, Nat.reduceBEq, Nat.reduceAdd, Nat.reduceLeDiff, Nat.reduceEqDiff, reduceCtorEq, Int.reduceToNat, Int.reduceLE, Int.reduceLT, Int.reduceEq, Int.reduceNeg, Nat.reduceLT, Nat.reduceSub, Nat.reduceMul]) | fail)
    refine WL.upto es.length (fun j st => st = ⟨[(1, .im (.i .i64 x)), (2, .im (.ip 8 false [[.i .i64 k, b0, b1, b2, b3, b4, .i .i64 v, .sl z false ti es]] 0 0)), (5, .im (.i .i64 j))], [], []⟩) ?_ rfl
    rintro j st hj rfl
    simp -implicitDefEqProofs only [↓W_seq, go_sem, ↓reduceIte, Nat.reduceBEq, Nat.reduceAdd, Nat.reduceLeDiff, Nat.reduceEqDiff, reduceCtorEq, Int.reduceToNat, Int.reduceLE, Int.reduceLT, Int.reduceEq, Int.reduceNeg, Nat.reduceLT, Nat.reduceSub, Nat.reduceMul]
    refine kcd_dec (fun h1 => ?_) (fun h1 => ?_)
    · have hj1 : j < es.length := by omega
      obtain ⟨rfl, a, r, ha, hr, hE⟩ := hB.at hz hj1
      obtain ⟨n, a, u, t0, t1, t2, t3, t4, t5, t6, t7, rfl, rfl, hn, hu⟩ := hE.inv
      have hN' : u.nodes ≤ N := by have := Tree.nodes_kid (k := k) (v := v) (b := b) ha; omega
      simp -implicitDefEqProofs only [↓W_seq, go_sem, ↓reduceIte, Nat.reduceBEq, Nat.reduceAdd, Nat.reduceLeDiff, Nat.reduceEqDiff, reduceCtorEq, Int.reduceToNat, Int.reduceLE, Int.reduceLT, Int.reduceEq, Int.reduceNeg, Nat.reduceLT, Nat.reduceSub, Nat.reduceMul, hj1, hr]
      repeat' (first | ((first | refine kgb_not (fun h => ?_) (fun h => ?_) | refine kcd_not (fun h => ?_) (fun h => ?_) | refine kdb_not (fun h => ?_) (fun h => ?_) | refine kgb_b (fun h => ?_) (fun h => ?_) | refine kcd_b (fun h => ?_) (fun h => ?_) | refine kdb_b (fun h => ?_) (fun h => ?_) | fail) <;> simp -implicitDefEqProofs only [↓W_seq, go_sem, ↓reduceIte, Nat.reduceBEq, Nat.reduceAdd, Nat.reduceLeDiff, Nat.reduceEqDiff, reduceCtorEq, Int.reduceToNat, Int.reduceLE, Int.reduceLT, Int.reduceEq, Int.reduceNeg, Nat.reduceLT, Nat.reduceSub, Nat.reduceMul, wrap_succ hj1 hl, hj1, hr, h]) | (first | exact ⟨_, rfl, _, rfl⟩ | exact rfl | exact ⟨_, rfl⟩ | exact ⟨_, _, rfl⟩ | exact ⟨_, _, _, rfl⟩ | exact ⟨hj1, rfl⟩ | exact ⟨hj1, _, rfl⟩ | exact ⟨hj1, _, _, rfl⟩) | (refine WC.pf (ih u _ _ hN' hu) rfl rfl ?_; rintro _ ⟨_ | _, rfl⟩ <;> simp -implicitDefEqProofs only [↓W_seq, go_sem, ↓reduceIte, Nat.reduceBEq, Nat.reduceAdd, Nat.reduceLeDiff, Nat.reduceEqDiff, reduceCtorEq, Int.reduceToNat, Int.reduceLE, Int.reduceLT, Int.reduceEq, Int.reduceNeg, Nat.reduceLT, Nat.reduceSub, Nat.reduceMul, wrap_succ hj1 hl, hj1, hr]) | fail)
    · simp -implicitDefEqProofs only [↓W_seq, go_sem, ↓reduceIte, Nat.reduceBEq, Nat.reduceAdd, Nat.reduceLeDiff, Nat.reduceEqDiff, reduceCtorEq, Int.reduceToNat, Int.reduceLE, Int.reduceLT, Int.reduceEq, Int.reduceNeg, Nat.reduceLT, Nat.reduceSub, Nat.reduceMul]
      (first | exact ⟨_, rfl, _, rfl⟩ | exact rfl | exact ⟨_, rfl⟩ | exact ⟨_, _, rfl⟩ | exact ⟨_, _, _, rfl⟩ | exact ⟨hj1, rfl⟩ | exact ⟨hj1, _, rfl⟩ | exact ⟨hj1, _, _, rfl⟩)
theorem f62 (d : Decl) (r : List Imm) (h : d.Enc r) : PF cx 62 [.agg r] IsB := by
  refine PF.intro (fn := Try.f62) Try.func62 rfl rfl ?_
  obtain ⟨t0, t1, t2, t3, t4, v0, v1, v2, v3, v4, cz, ct, ces, u0, u1, u2, u3, u4, rz, rt, res, fz, ft, fes, rfl, hdk, hdn, hdp, hT, hV, hdf, hcz, hcl, hC, hrp, hU, hrz, hrl, hR, hfz, hfl, hF, hTn⟩ := h
  simp -implicitDefEqProofs only [↓W_seq, go_sem, ↓reduceIte, Nat.reduceBEq, Nat.reduceAdd, Nat.reduceLeDiff, Nat.reduceEqDiff, reduceCtorEq, Int.reduceToNat, Int.reduceLE, Int.reduceLT, Int.reduceEq, Int.reduceNeg, Nat.reduceLT, Nat.reduceSub, Nat.reduceMul]
  repeat' (first | ((first | refine kgb_not (fun h => ?_) (fun h => ?_) | refine kcd_not (fun h => ?_) (fun h => ?_) | refine kdb_not (fun h => ?_) (fun h => ?_) | refine kgb_b (fun h => ?_) (fun h => ?_) | refine kcd_b (fun h => ?_) (fun h => ?_) | refine kdb_b (fun h => ?_) (fun h => ?_) | fail) <;> simp -implicitDefEqProofs only [↓W_seq, go_sem, ↓reduceIte, Nat.reduceBEq, Nat.reduceAdd, Nat.reduceLeDiff, Nat.reduceEqDiff, reduceCtorEq, Int.reduceToNat, Int.reduceLE, Int.reduceLT, Int.reduceEq, Int.reduceNeg, Nat.reduceLT, Nat.reduceSub, Nat.reduceMul, h]) | (first | exact ⟨_, rfl, _, rfl⟩ | exact rfl | exact ⟨_, rfl⟩ | exact ⟨_, _, rfl⟩ | exact ⟨_, _, _, rfl⟩ | exact ⟨hj1, rfl⟩ | exact ⟨hj1, _, rfl⟩ | exact ⟨hj1, _, _, rfl⟩) | (refine WC.pf (f104 _ _ hT) rfl rfl ?_; rintro _ ⟨_ | _, rfl⟩ <;> simp -implicitDefEqProofs only [↓W_seq, go_sem, ↓reduceIte, Nat.reduceBEq, Nat.reduceAdd, Nat.reduceLeDiff, Nat.reduceEqDiff, reduceCtorEq, Int.reduceToNat, Int.reduceLE, Int.reduceLT, Int.reduceEq, Int.reduceNeg, Nat.reduceLT, Nat.reduceSub, Nat.reduceMul]) | (refine WC.pf (f104 _ _ hV) rfl rfl ?_; rintro _ ⟨_ | _, rfl⟩ <;> simp -implicitDefEqProofs only [↓W_seq, go_sem, ↓reduceIte, Nat.reduceBEq, Nat.reduceAdd, Nat.reduceLeDiff, Nat.reduceEqDiff, reduceCtorEq, Int.reduceToNat, Int.reduceLE, Int.reduceLT, Int.reduceEq, Int.reduceNeg, Nat.reduceLT, Nat.reduceSub, Nat.reduceMul]) | (refine WC.pf (f104 _ _ hU) rfl rfl ?_; rintro _ ⟨_ | _, rfl⟩ <;> simp -implicitDefEqProofs only [↓W_seq, go_sem, ↓reduceIte, Nat.reduceBEq, Nat.reduceAdd, Nat.reduceLeDiff, Nat.reduceEqDiff, reduceCtorEq, Int.reduceToNat, Int.reduceLE, Int.reduceLT, Int.reduceEq, Int.reduceNeg, Nat.reduceLT, Nat.reduceSub, Nat.reduceMul]) | fail)
  refine WL.upto ces.length (fun j st => st = ⟨[(1, .im (.ip 23 false [[.i .i64 d.kind, .s d.name, .i .i64 d.params, t0, t1, t2, t3, t4, v0, v1, v2, v3, v4, .i .i64 d.fixed, .sl cz false ct ces, .i .i64 d.recParams, u0, u1, u2, u3, u4, .sl rz false rt res, .sl fz false ft fes]] 0 0)), (3, .im (.i .i64 j))], [], []⟩) ?_ rfl
  rintro j st hj rfl
  simp -implicitDefEqProofs only [↓W_seq, go_sem, ↓reduceIte, Nat.reduceBEq, Nat.reduceAdd, Nat.reduceLeDiff, Nat.reduceEqDiff, reduceCtorEq, Int.reduceToNat, Int.reduceLE, Int.reduceLT, Int.reduceEq, Int.reduceNeg, Nat.reduceLT, Nat.reduceSub, Nat.reduceMul]
  refine kcd_dec (fun h1 => ?_) (fun h1 => ?_)
  · have hj1 : j < ces.length := by omega
    obtain ⟨rfl, a, r, ha, hr, x0, x1, x2, x3, x4, rfl, hx, hX, hXn⟩ := hC.at hcz hj1
    simp -implicitDefEqProofs only [↓W_seq, go_sem, ↓reduceIte, Nat.reduceBEq, Nat.reduceAdd, Nat.reduceLeDiff, Nat.reduceEqDiff, reduceCtorEq, Int.reduceToNat, Int.reduceLE, Int.reduceLT, Int.reduceEq, Int.reduceNeg, Nat.reduceLT, Nat.reduceSub, Nat.reduceMul, hj1, hr]
    repeat' (first | ((first | refine kgb_not (fun h => ?_) (fun h => ?_) | refine kcd_not (fun h => ?_) (fun h => ?_) | refine kdb_not (fun h => ?_) (fun h => ?_) | refine kgb_b (fun h => ?_) (fun h => ?_) | refine kcd_b (fun h => ?_) (fun h => ?_) | refine kdb_b (fun h => ?_) (fun h => ?_) | fail) <;> simp -implicitDefEqProofs only [↓W_seq, go_sem, ↓reduceIte, Nat.reduceBEq, Nat.reduceAdd, Nat.reduceLeDiff, Nat.reduceEqDiff, reduceCtorEq, Int.reduceToNat, Int.reduceLE, Int.reduceLT, Int.reduceEq, Int.reduceNeg, Nat.reduceLT, Nat.reduceSub, Nat.reduceMul, wrap_succ hj1 hcl, hj1, hr, h]) | (first | exact ⟨_, rfl, _, rfl⟩ | exact rfl | exact ⟨_, rfl⟩ | exact ⟨_, _, rfl⟩ | exact ⟨_, _, _, rfl⟩ | exact ⟨hj1, rfl⟩ | exact ⟨hj1, _, rfl⟩ | exact ⟨hj1, _, _, rfl⟩) | (refine WC.pf (f104 _ _ hX) rfl rfl ?_; rintro _ ⟨_ | _, rfl⟩ <;> simp -implicitDefEqProofs only [↓W_seq, go_sem, ↓reduceIte, Nat.reduceBEq, Nat.reduceAdd, Nat.reduceLeDiff, Nat.reduceEqDiff, reduceCtorEq, Int.reduceToNat, Int.reduceLE, Int.reduceLT, Int.reduceEq, Int.reduceNeg, Nat.reduceLT, Nat.reduceSub, Nat.reduceMul, wrap_succ hj1 hcl, hj1, hr]) | fail)
  simp -implicitDefEqProofs only [↓W_seq, go_sem, ↓reduceIte, Nat.reduceBEq, Nat.reduceAdd, Nat.reduceLeDiff, Nat.reduceEqDiff, reduceCtorEq, Int.reduceToNat, Int.reduceLE, Int.reduceLT, Int.reduceEq, Int.reduceNeg, Nat.reduceLT, Nat.reduceSub, Nat.reduceMul]
  refine WL.upto res.length (fun j st => st = ⟨[(1, .im (.ip 23 false [[.i .i64 d.kind, .s d.name, .i .i64 d.params, t0, t1, t2, t3, t4, v0, v1, v2, v3, v4, .i .i64 d.fixed, .sl cz false ct ces, .i .i64 d.recParams, u0, u1, u2, u3, u4, .sl rz false rt res, .sl fz false ft fes]] 0 0)), (4, .im (.i .i64 j))], [], []⟩) ?_ rfl
  rintro j st hj rfl
  simp -implicitDefEqProofs only [↓W_seq, go_sem, ↓reduceIte, Nat.reduceBEq, Nat.reduceAdd, Nat.reduceLeDiff, Nat.reduceEqDiff, reduceCtorEq, Int.reduceToNat, Int.reduceLE, Int.reduceLT, Int.reduceEq, Int.reduceNeg, Nat.reduceLT, Nat.reduceSub, Nat.reduceMul]
  refine kcd_dec (fun h1 => ?_) (fun h1 => ?_)
  · have hj1 : j < res.length := by omega
    obtain ⟨rfl, a, r, ha, hr, hX⟩ := hR.at hrz hj1
    simp -implicitDefEqProofs only [↓W_seq, go_sem, ↓reduceIte, Nat.reduceBEq, Nat.reduceAdd, Nat.reduceLeDiff, Nat.reduceEqDiff, reduceCtorEq, Int.reduceToNat, Int.reduceLE, Int.reduceLT, Int.reduceEq, Int.reduceNeg, Nat.reduceLT, Nat.reduceSub, Nat.reduceMul, hj1, hr, sub_all hX.length]
    repeat' (first | ((first | refine kgb_not (fun h => ?_) (fun h => ?_) | refine kcd_not (fun h => ?_) (fun h => ?_) | refine kdb_not (fun h => ?_) (fun h => ?_) | refine kgb_b (fun h => ?_) (fun h => ?_) | refine kcd_b (fun h => ?_) (fun h => ?_) | refine kdb_b (fun h => ?_) (fun h => ?_) | fail) <;> simp -implicitDefEqProofs only [↓W_seq, go_sem, ↓reduceIte, Nat.reduceBEq, Nat.reduceAdd, Nat.reduceLeDiff, Nat.reduceEqDiff, reduceCtorEq, Int.reduceToNat, Int.reduceLE, Int.reduceLT, Int.reduceEq, Int.reduceNeg, Nat.reduceLT, Nat.reduceSub, Nat.reduceMul, wrap_succ hj1 hrl, hj1, hr, h]) | (first | exact ⟨_, rfl, _, rfl⟩ | exact rfl | exact ⟨_, rfl⟩ | exact ⟨_, _, rfl⟩ | exact ⟨_, _, _, rfl⟩ | exact ⟨hj1, rfl⟩ | exact ⟨hj1, _, rfl⟩ | exact ⟨hj1, _, _, rfl⟩) | (refine WC.pf (f104 _ _ hX) rfl rfl ?_; rintro _ ⟨_ | _, rfl⟩ <;> simp -implicitDefEqProofs only [↓W_seq, go_sem, ↓reduceIte, Nat.reduceBEq, Nat.reduceAdd, Nat.reduceLeDiff, Nat.reduceEqDiff, reduceCtorEq, Int.reduceToNat, Int.reduceLE, Int.reduceLT, Int.reduceEq, Int.reduceNeg, Nat.reduceLT, Nat.reduceSub, Nat.reduceMul, wrap_succ hj1 hrl, hj1, hr]) | fail)
  simp -implicitDefEqProofs only [↓W_seq, go_sem, ↓reduceIte, Nat.reduceBEq, Nat.reduceAdd, Nat.reduceLeDiff, Nat.reduceEqDiff, reduceCtorEq, Int.reduceToNat, Int.reduceLE, Int.reduceLT, Int.reduceEq, Int.reduceNeg, Nat.reduceLT, Nat.reduceSub, Nat.reduceMul]
  refine WL.upto fes.length (fun j st => st = ⟨[(1, .im (.ip 23 false [[.i .i64 d.kind, .s d.name, .i .i64 d.params, t0, t1, t2, t3, t4, v0, v1, v2, v3, v4, .i .i64 d.fixed, .sl cz false ct ces, .i .i64 d.recParams, u0, u1, u2, u3, u4, .sl rz false rt res, .sl fz false ft fes]] 0 0)), (5, .im (.i .i64 j))], [], []⟩) ?_ rfl
  rintro j st hj rfl
  simp -implicitDefEqProofs only [↓W_seq, go_sem, ↓reduceIte, Nat.reduceBEq, Nat.reduceAdd, Nat.reduceLeDiff, Nat.reduceEqDiff, reduceCtorEq, Int.reduceToNat, Int.reduceLE, Int.reduceLT, Int.reduceEq, Int.reduceNeg, Nat.reduceLT, Nat.reduceSub, Nat.reduceMul]
  refine kcd_dec (fun h1 => ?_) (fun h1 => ?_)
  · have hj1 : j < fes.length := by omega
    obtain ⟨rfl, a, r, ha, hr, x0, x1, x2, x3, x4, y0, y1, y2, y3, y4, y5, y6, y7, rfl, hx, hX, hy, hY⟩ := hF.at hfz hj1
    simp -implicitDefEqProofs only [↓W_seq, go_sem, ↓reduceIte, Nat.reduceBEq, Nat.reduceAdd, Nat.reduceLeDiff, Nat.reduceEqDiff, reduceCtorEq, Int.reduceToNat, Int.reduceLE, Int.reduceLT, Int.reduceEq, Int.reduceNeg, Nat.reduceLT, Nat.reduceSub, Nat.reduceMul, hj1, hr]
    repeat' (first | ((first | refine kgb_not (fun h => ?_) (fun h => ?_) | refine kcd_not (fun h => ?_) (fun h => ?_) | refine kdb_not (fun h => ?_) (fun h => ?_) | refine kgb_b (fun h => ?_) (fun h => ?_) | refine kcd_b (fun h => ?_) (fun h => ?_) | refine kdb_b (fun h => ?_) (fun h => ?_) | fail) <;> simp -implicitDefEqProofs only [↓W_seq, go_sem, ↓reduceIte, Nat.reduceBEq, Nat.reduceAdd, Nat.reduceLeDiff, Nat.reduceEqDiff, reduceCtorEq, Int.reduceToNat, Int.reduceLE, Int.reduceLT, Int.reduceEq, Int.reduceNeg, Nat.reduceLT, Nat.reduceSub, Nat.reduceMul, wrap_succ hj1 hfl, hj1, hr, h]) | (first | exact ⟨_, rfl, _, rfl⟩ | exact rfl | exact ⟨_, rfl⟩ | exact ⟨_, _, rfl⟩ | exact ⟨_, _, _, rfl⟩ | exact ⟨hj1, rfl⟩ | exact ⟨hj1, _, rfl⟩ | exact ⟨hj1, _, _, rfl⟩) | (refine WC.pf (f104 _ _ hX) rfl rfl ?_; rintro _ ⟨_ | _, rfl⟩ <;> simp -implicitDefEqProofs only [↓W_seq, go_sem, ↓reduceIte, Nat.reduceBEq, Nat.reduceAdd, Nat.reduceLeDiff, Nat.reduceEqDiff, reduceCtorEq, Int.reduceToNat, Int.reduceLE, Int.reduceLT, Int.reduceEq, Int.reduceNeg, Nat.reduceLT, Nat.reduceSub, Nat.reduceMul, wrap_succ hj1 hfl, hj1, hr]) | (refine WC.pf (f105 _ _ _ _ (Nat.le_refl _) hY) rfl rfl ?_; rintro _ ⟨_ | _, rfl⟩ <;> simp -implicitDefEqProofs only [↓W_seq, go_sem, ↓reduceIte, Nat.reduceBEq, Nat.reduceAdd, Nat.reduceLeDiff, Nat.reduceEqDiff, reduceCtorEq, Int.reduceToNat, Int.reduceLE, Int.reduceLT, Int.reduceEq, Int.reduceNeg, Nat.reduceLT, Nat.reduceSub, Nat.reduceMul, wrap_succ hj1 hfl, hj1, hr]) | fail)
  simp -implicitDefEqProofs only [↓W_seq, go_sem, ↓reduceIte, Nat.reduceBEq, Nat.reduceAdd, Nat.reduceLeDiff, Nat.reduceEqDiff, reduceCtorEq, Int.reduceToNat, Int.reduceLE, Int.reduceLT, Int.reduceEq, Int.reduceNeg, Nat.reduceLT, Nat.reduceSub, Nat.reduceMul]
  (first | exact ⟨_, rfl, _, rfl⟩ | exact rfl | exact ⟨_, rfl⟩ | exact ⟨_, _, rfl⟩ | exact ⟨_, _, _, rfl⟩ | exact ⟨hj1, rfl⟩ | exact ⟨hj1, _, rfl⟩ | exact ⟨hj1, _, _, rfl⟩)
theorem f18 (ds : List Decl) (es : List (List Imm)) (z : Nat) (q : Bool) (h : All2 Decl.Enc ds es) (hz : z = 23 ∨ es = []) (hl : es.length ≤ lim) : PF cx 18 [.sl z false q es] IsB := by
  refine PF.intro (fn := Try.f18) Try.func18 rfl rfl ?_
  simp -implicitDefEqProofs only [↓W_seq, go_sem, ↓reduceIte, Nat.reduceBEq, Nat.reduceAdd, Nat.reduceLeDiff, Nat.reduceEqDiff, reduceCtorEq, Int.reduceToNat, Int.reduceLE, Int.reduceLT, Int.reduceEq, Int.reduceNeg, Nat.reduceLT, Nat.reduceSub, Nat.reduceMul]
  refine WL.upto es.length (fun j st => st = ⟨[(0, .im (.sl z false q es)), (3, .im (.i .i64 j))], [], []⟩) ?_ rfl
  rintro j st hj rfl
  simp -implicitDefEqProofs only [↓W_seq, go_sem, ↓reduceIte, Nat.reduceBEq, Nat.reduceAdd, Nat.reduceLeDiff, Nat.reduceEqDiff, reduceCtorEq, Int.reduceToNat, Int.reduceLE, Int.reduceLT, Int.reduceEq, Int.reduceNeg, Nat.reduceLT, Nat.reduceSub, Nat.reduceMul]
  by_cases hj1 : j < es.length
  · obtain ⟨rfl, a, r, ha, hr, hE⟩ := h.at hz hj1
    have h2 : ((j : Int) < es.length) = True := eq_true (by omega)
    simp -implicitDefEqProofs only [↓W_seq, go_sem, ↓reduceIte, Nat.reduceBEq, Nat.reduceAdd, Nat.reduceLeDiff, Nat.reduceEqDiff, reduceCtorEq, Int.reduceToNat, Int.reduceLE, Int.reduceLT, Int.reduceEq, Int.reduceNeg, Nat.reduceLT, Nat.reduceSub, Nat.reduceMul, hj1, hr, h2, sub_all hE.length]
    repeat' (first | ((first | refine kgb_not (fun h => ?_) (fun h => ?_) | refine kcd_not (fun h => ?_) (fun h => ?_) | refine kdb_not (fun h => ?_) (fun h => ?_) | refine kgb_b (fun h => ?_) (fun h => ?_) | refine kcd_b (fun h => ?_) (fun h => ?_) | refine kdb_b (fun h => ?_) (fun h => ?_) | fail) <;> simp -implicitDefEqProofs only [↓W_seq, go_sem, ↓reduceIte, Nat.reduceBEq, Nat.reduceAdd, Nat.reduceLeDiff, Nat.reduceEqDiff, reduceCtorEq, Int.reduceToNat, Int.reduceLE, Int.reduceLT, Int.reduceEq, Int.reduceNeg, Nat.reduceLT, Nat.reduceSub, Nat.reduceMul, wrap_succ hj1 hl, hj1, hr, sub_all hE.length, h]) | (first | exact ⟨_, rfl, _, rfl⟩ | exact rfl | exact ⟨_, rfl⟩ | exact ⟨_, _, rfl⟩ | exact ⟨_, _, _, rfl⟩ | exact ⟨hj1, rfl⟩ | exact ⟨hj1, _, rfl⟩ | exact ⟨hj1, _, _, rfl⟩) | (refine WC.pf (f62 _ _ hE) rfl rfl ?_; rintro _ ⟨_ | _, rfl⟩ <;> simp -implicitDefEqProofs only [↓W_seq, go_sem, ↓reduceIte, Nat.reduceBEq, Nat.reduceAdd, Nat.reduceLeDiff, Nat.reduceEqDiff, reduceCtorEq, Int.reduceToNat, Int.reduceLE, Int.reduceLT, Int.reduceEq, Int.reduceNeg, Nat.reduceLT, Nat.reduceSub, Nat.reduceMul, wrap_succ hj1 hl, hj1, hr, sub_all hE.length]) | fail)
  · have h2 : ((j : Int) < es.length) = False := eq_false (by omega)
    simp -implicitDefEqProofs only [↓W_seq, go_sem, ↓reduceIte, Nat.reduceBEq, Nat.reduceAdd, Nat.reduceLeDiff, Nat.reduceEqDiff, reduceCtorEq, Int.reduceToNat, Int.reduceLE, Int.reduceLT, Int.reduceEq, Int.reduceNeg, Nat.reduceLT, Nat.reduceSub, Nat.reduceMul, h2]
    (first | exact ⟨_, rfl, _, rfl⟩ | exact rfl | exact ⟨_, rfl⟩ | exact ⟨_, _, rfl⟩ | exact ⟨_, _, _, rfl⟩ | exact ⟨hj1, rfl⟩ | exact ⟨hj1, _, rfl⟩ | exact ⟨hj1, _, _, rfl⟩)
def EqB (p : Prop) (d : Imm) : Prop := ∃ b : Bool, d = .b b ∧ (b = true ↔ p)
theorem EqB.isB {p : Prop} {d : Imm} (h : EqB p d) : IsB d := ⟨h.choose, h.choose_spec.1⟩
theorem EqB.t {p : Prop} (h : p) : EqB p (.b true) := ⟨_, rfl, by simp [h]⟩
theorem EqB.f {p : Prop} (h : ¬p) : EqB p (.b false) := ⟨_, rfl, by simp [h]⟩
theorem ext_get {α : Type} {a b : List α} (h : a.length = b.length) (h' : ∀ i, i < a.length → a[i]? = b[i]?) : a = b := by
  apply List.ext_getElem? ; intro i
  by_cases hi : i < a.length
  · exact h' i hi
  · rw [List.getElem?_eq_none (by omega), List.getElem?_eq_none (by omega)]
theorem f136 (l m : Level) (r s : List Imm) (h : l.Enc r) (h' : m.Enc s) : PF cx 136 [.agg r, .agg s] (EqB (l = m)) := by
  refine PF.intro (fn := Try.f136) Try.func136 rfl rfl ?_
  obtain ⟨z, t, es, rfl, hc, hz, hl, hv⟩ := h
  obtain ⟨z', t', es', rfl, hc', hz', hl', hv'⟩ := h'
  simp -implicitDefEqProofs only [↓W_seq, go_sem, ↓reduceIte, Nat.reduceBEq, Nat.reduceAdd, Nat.reduceLeDiff, Nat.reduceEqDiff, reduceCtorEq, Int.reduceToNat, Int.reduceLE, Int.reduceLT, Int.reduceEq, Int.reduceNeg, Nat.reduceLT, Nat.reduceSub, Nat.reduceMul]
  refine kgb_not (fun h => ?_) (fun h => ?_) <;> simp -implicitDefEqProofs only [↓W_seq, go_sem, ↓reduceIte, Nat.reduceBEq, Nat.reduceAdd, Nat.reduceLeDiff, Nat.reduceEqDiff, reduceCtorEq, Int.reduceToNat, Int.reduceLE, Int.reduceLT, Int.reduceEq, Int.reduceNeg, Nat.reduceLT, Nat.reduceSub, Nat.reduceMul, h]
  · refine kcd_not (fun h2 => ?_) (fun h2 => ?_) <;> simp -implicitDefEqProofs only [↓W_seq, go_sem, ↓reduceIte, Nat.reduceBEq, Nat.reduceAdd, Nat.reduceLeDiff, Nat.reduceEqDiff, reduceCtorEq, Int.reduceToNat, Int.reduceLE, Int.reduceLT, Int.reduceEq, Int.reduceNeg, Nat.reduceLT, Nat.reduceSub, Nat.reduceMul, h2]
    · have hc1 : l.const = m.const := of_decide_eq_true h
      have hlen : es.length = es'.length := by have := of_decide_eq_true h2; omega
      refine WL.upto es.length (fun j st => (∀ i, i < j → l.vars[i]? = m.vars[i]?) ∧ st = ⟨[(2, .im (.ip 2 false [[.i .i64 l.const, .sl z false t es]] 0 0)), (3, .im (.ip 2 false [[.i .i64 m.const, .sl z' false t' es']] 0 0)), (5, .im (.i .i64 j))], [], []⟩) ?_ ⟨by omega, rfl⟩
      rintro j st hj ⟨hI, rfl⟩
      simp -implicitDefEqProofs only [↓W_seq, go_sem, ↓reduceIte, Nat.reduceBEq, Nat.reduceAdd, Nat.reduceLeDiff, Nat.reduceEqDiff, reduceCtorEq, Int.reduceToNat, Int.reduceLE, Int.reduceLT, Int.reduceEq, Int.reduceNeg, Nat.reduceLT, Nat.reduceSub, Nat.reduceMul]
      refine kcd_dec (fun h1 => ?_) (fun h1 => ?_)
      · have hj1 : j < es.length := by omega
        have hj2 : j < es'.length := by omega
        obtain ⟨rfl, a, r, ha, hr, hE, _, _⟩ := hv.at hz hj1
        obtain ⟨rfl, a', r', ha', hr', hE', _, _⟩ := hv'.at hz' hj2
        subst hE hE'
        simp -implicitDefEqProofs only [↓W_seq, go_sem, ↓reduceIte, Nat.reduceBEq, Nat.reduceAdd, Nat.reduceLeDiff, Nat.reduceEqDiff, reduceCtorEq, Int.reduceToNat, Int.reduceLE, Int.reduceLT, Int.reduceEq, Int.reduceNeg, Nat.reduceLT, Nat.reduceSub, Nat.reduceMul, hj1, hr, hj2, hr']
        refine kcd_not (fun h3 => ?_) (fun h3 => ?_) <;> simp -implicitDefEqProofs only [↓W_seq, go_sem, ↓reduceIte, Nat.reduceBEq, Nat.reduceAdd, Nat.reduceLeDiff, Nat.reduceEqDiff, reduceCtorEq, Int.reduceToNat, Int.reduceLE, Int.reduceLT, Int.reduceEq, Int.reduceNeg, Nat.reduceLT, Nat.reduceSub, Nat.reduceMul, h3, wrap_succ hj1 hl]
        · refine fun i hi => ?_
          rcases Nat.lt_succ_iff_lt_or_eq.1 hi with hi | rfl
          · exact hI i hi
          · have := of_decide_eq_true h3
            rw [ha, ha', Prod.ext this.1 this.2]
        · refine ⟨_, rfl, .f fun e => ?_⟩
          subst e
          rw [ha] at ha'
          cases ha'
          exact of_decide_eq_false h3 ⟨rfl, rfl⟩
      · simp -implicitDefEqProofs only [↓W_seq, go_sem, ↓reduceIte, Nat.reduceBEq, Nat.reduceAdd, Nat.reduceLeDiff, Nat.reduceEqDiff, reduceCtorEq, Int.reduceToNat, Int.reduceLE, Int.reduceLT, Int.reduceEq, Int.reduceNeg, Nat.reduceLT, Nat.reduceSub, Nat.reduceMul]
        refine ⟨_, rfl, .t ?_⟩
        have hj' : j = es.length := by omega
        have := ext_get (a := l.vars) (b := m.vars) (by rw [hv.length, hv'.length, hlen]) (by rw [hv.length]; intro i hi; exact hI i (by omega))
        cases l; cases m; simp_all
    · refine ⟨_, rfl, .f fun e => ?_⟩
      subst e
      exact of_decide_eq_false h2 (by rw [← hv.length, ← hv'.length])
  · exact ⟨_, rfl, .f fun e => of_decide_eq_false h (by rw [e])⟩
theorem f101 (ls ms : List Level) (es fs : List (List Imm)) (z z' : Nat) (q q' : Bool) (h : All2 Level.Enc ls es) (hz : z = 2 ∨ es = []) (hl : es.length ≤ lim) (h' : All2 Level.Enc ms fs) (hz' : z' = 2 ∨ fs = []) (hl' : fs.length ≤ lim) :
    PF cx 101 [.sl z false q es, .sl z' false q' fs] (EqB (ls = ms)) := by
  refine PF.intro (fn := Try.f101) Try.func101 rfl rfl ?_
  simp -implicitDefEqProofs only [↓W_seq, go_sem, ↓reduceIte, Nat.reduceBEq, Nat.reduceAdd, Nat.reduceLeDiff, Nat.reduceEqDiff, reduceCtorEq, Int.reduceToNat, Int.reduceLE, Int.reduceLT, Int.reduceEq, Int.reduceNeg, Nat.reduceLT, Nat.reduceSub, Nat.reduceMul]
  refine kcd_not (fun h2 => ?_) (fun h2 => ?_) <;> simp -implicitDefEqProofs only [↓W_seq, go_sem, ↓reduceIte, Nat.reduceBEq, Nat.reduceAdd, Nat.reduceLeDiff, Nat.reduceEqDiff, reduceCtorEq, Int.reduceToNat, Int.reduceLE, Int.reduceLT, Int.reduceEq, Int.reduceNeg, Nat.reduceLT, Nat.reduceSub, Nat.reduceMul]
  · have hlen : es.length = fs.length := by have := of_decide_eq_true h2; omega
    refine WL.upto es.length (fun j st => (∀ i, i < j → ls[i]? = ms[i]?) ∧ st = ⟨[(0, .im (.sl z false q es)), (1, .im (.sl z' false q' fs)), (5, .im (.i .i64 j))], [], []⟩) ?_ ⟨by omega, rfl⟩
    rintro j st hj ⟨hI, rfl⟩
    simp -implicitDefEqProofs only [↓W_seq, go_sem, ↓reduceIte, Nat.reduceBEq, Nat.reduceAdd, Nat.reduceLeDiff, Nat.reduceEqDiff, reduceCtorEq, Int.reduceToNat, Int.reduceLE, Int.reduceLT, Int.reduceEq, Int.reduceNeg, Nat.reduceLT, Nat.reduceSub, Nat.reduceMul]
    refine kcd_dec (fun h1 => ?_) (fun h1 => ?_)
    · have hj1 : j < es.length := by omega
      have hj2 : j < fs.length := by omega
      obtain ⟨rfl, a, r, ha, hr, hE⟩ := h.at hz hj1
      obtain ⟨rfl, a', r', ha', hr', hE'⟩ := h'.at hz' hj2
      have hr2 : r.length = 2 := by obtain ⟨_, _, _, rfl, _⟩ := hE; rfl
      have hr2' : r'.length = 2 := by obtain ⟨_, _, _, rfl, _⟩ := hE'; rfl
      simp -implicitDefEqProofs only [↓W_seq, go_sem, ↓reduceIte, Nat.reduceBEq, Nat.reduceAdd, Nat.reduceLeDiff, Nat.reduceEqDiff, reduceCtorEq, Int.reduceToNat, Int.reduceLE, Int.reduceLT, Int.reduceEq, Int.reduceNeg, Nat.reduceLT, Nat.reduceSub, Nat.reduceMul, hj1, hr, hj2, hr', sub_all hr2, sub_all hr2']
      refine WC.pf (f136 a a' r r' hE hE') rfl rfl ?_
      rintro _ ⟨b, rfl, hb⟩
      simp -implicitDefEqProofs only [↓W_seq, go_sem, ↓reduceIte, Nat.reduceBEq, Nat.reduceAdd, Nat.reduceLeDiff, Nat.reduceEqDiff, reduceCtorEq, Int.reduceToNat, Int.reduceLE, Int.reduceLT, Int.reduceEq, Int.reduceNeg, Nat.reduceLT, Nat.reduceSub, Nat.reduceMul]
      refine kcd_not (fun h3 => ?_) (fun h3 => ?_) <;> simp -implicitDefEqProofs only [↓W_seq, go_sem, ↓reduceIte, Nat.reduceBEq, Nat.reduceAdd, Nat.reduceLeDiff, Nat.reduceEqDiff, reduceCtorEq, Int.reduceToNat, Int.reduceLE, Int.reduceLT, Int.reduceEq, Int.reduceNeg, Nat.reduceLT, Nat.reduceSub, Nat.reduceMul, h3, wrap_succ hj1 hl]
      · refine fun i hi => ?_
        rcases Nat.lt_succ_iff_lt_or_eq.1 hi with hi | rfl
        · exact hI i hi
        · rw [ha, ha', hb.1 h3]
      · refine ⟨_, rfl, .f fun e => ?_⟩
        subst e
        rw [ha] at ha'
        cases ha'
        rw [h3] at hb
        exact absurd (hb.2 rfl) (by simp)
    · simp -implicitDefEqProofs only [↓W_seq, go_sem, ↓reduceIte, Nat.reduceBEq, Nat.reduceAdd, Nat.reduceLeDiff, Nat.reduceEqDiff, reduceCtorEq, Int.reduceToNat, Int.reduceLE, Int.reduceLT, Int.reduceEq, Int.reduceNeg, Nat.reduceLT, Nat.reduceSub, Nat.reduceMul]
      refine ⟨_, rfl, .t ?_⟩
      exact ext_get (by rw [h.length, h'.length, hlen]) (by rw [h.length]; intro i hi; exact hI i (by omega))
  · refine ⟨_, rfl, .f fun e => ?_⟩
    subst e
    exact of_decide_eq_false h2 (by rw [← h.length, ← h'.length])
theorem f58 : ∀ (N : Nat) (t u : Term) (r s : List Imm), t.nodes ≤ N → t.Enc r → u.Enc s → PF cx 58 [.agg r, .agg s] (EqB (t = u)) := by
  intro N
  induction N with
  | zero => intro t u r s hN; have := t.nodes_pos; omega
  | succ N ih =>
    intro t u r s hN h g
    refine PF.intro (fn := Try.f58) Try.func58 rfl rfl ?_
    obtain ⟨k, i, n, ls, ks, lz, lt, les, kz, kt, kes, rfl, rfl, hk, hi, hn, hlz, hll, hl, hkz, hkl, hks⟩ := h.inv
    obtain ⟨k2, i2, n2, ls2, ks2, lz2, lt2, les2, kz2, kt2, kes2, rfl, rfl, hk2, hi2, hn2, hlz2, hll2, hl2, hkz2, hkl2, hks2⟩ := g.inv
    simp -implicitDefEqProofs only [↓W_seq, go_sem, ↓reduceIte, Nat.reduceBEq, Nat.reduceAdd, Nat.reduceLeDiff, Nat.reduceEqDiff, reduceCtorEq, Int.reduceToNat, Int.reduceLE, Int.reduceLT, Int.reduceEq, Int.reduceNeg, Nat.reduceLT, Nat.reduceSub, Nat.reduceMul]
    refine kgb_not (fun e1 => ?_) (fun e1 => ?_) <;> simp -implicitDefEqProofs only [↓W_seq, go_sem, ↓reduceIte, Nat.reduceBEq, Nat.reduceAdd, Nat.reduceLeDiff, Nat.reduceEqDiff, reduceCtorEq, Int.reduceToNat, Int.reduceLE, Int.reduceLT, Int.reduceEq, Int.reduceNeg, Nat.reduceLT, Nat.reduceSub, Nat.reduceMul, e1]
    case refine_2 => exact ⟨_, rfl, .f fun e => of_decide_eq_false e1 (by injection e)⟩
    refine kgb_not (fun e2 => ?_) (fun e2 => ?_) <;> simp -implicitDefEqProofs only [↓W_seq, go_sem, ↓reduceIte, Nat.reduceBEq, Nat.reduceAdd, Nat.reduceLeDiff, Nat.reduceEqDiff, reduceCtorEq, Int.reduceToNat, Int.reduceLE, Int.reduceLT, Int.reduceEq, Int.reduceNeg, Nat.reduceLT, Nat.reduceSub, Nat.reduceMul, e2]
    case refine_2 => exact ⟨_, rfl, .f fun e => of_decide_eq_false e2 (by injection e)⟩
    refine kgb_not (fun e3 => ?_) (fun e3 => ?_) <;> simp -implicitDefEqProofs only [↓W_seq, go_sem, ↓reduceIte, Nat.reduceBEq, Nat.reduceAdd, Nat.reduceLeDiff, Nat.reduceEqDiff, reduceCtorEq, Int.reduceToNat, Int.reduceLE, Int.reduceLT, Int.reduceEq, Int.reduceNeg, Nat.reduceLT, Nat.reduceSub, Nat.reduceMul, e3]
    case refine_2 => exact ⟨_, rfl, .f fun e => of_decide_eq_false e3 (by injection e)⟩
    refine WC.pf (f101 ls ls2 les les2 _ _ _ _ hl hlz hll hl2 hlz2 hll2) rfl rfl ?_
    rintro _ ⟨b, rfl, hb⟩
    simp -implicitDefEqProofs only [↓W_seq, go_sem, ↓reduceIte, Nat.reduceBEq, Nat.reduceAdd, Nat.reduceLeDiff, Nat.reduceEqDiff, reduceCtorEq, Int.reduceToNat, Int.reduceLE, Int.reduceLT, Int.reduceEq, Int.reduceNeg, Nat.reduceLT, Nat.reduceSub, Nat.reduceMul]
    refine kgb_not (fun e4 => ?_) (fun e4 => ?_) <;> simp -implicitDefEqProofs only [↓W_seq, go_sem, ↓reduceIte, Nat.reduceBEq, Nat.reduceAdd, Nat.reduceLeDiff, Nat.reduceEqDiff, reduceCtorEq, Int.reduceToNat, Int.reduceLE, Int.reduceLT, Int.reduceEq, Int.reduceNeg, Nat.reduceLT, Nat.reduceSub, Nat.reduceMul, e4]
    case refine_2 => rw [e4] at hb; exact ⟨_, rfl, .f fun e => absurd (hb.2 (by injection e)) (by simp)⟩
    refine kcd_not (fun e5 => ?_) (fun e5 => ?_) <;> simp -implicitDefEqProofs only [↓W_seq, go_sem, ↓reduceIte, Nat.reduceBEq, Nat.reduceAdd, Nat.reduceLeDiff, Nat.reduceEqDiff, reduceCtorEq, Int.reduceToNat, Int.reduceLE, Int.reduceLT, Int.reduceEq, Int.reduceNeg, Nat.reduceLT, Nat.reduceSub, Nat.reduceMul, e5]
    case refine_2 => exact ⟨_, rfl, .f fun e => of_decide_eq_false e5 (by injection e with _ _ _ _ e; rw [← hks.length, ← hks2.length, e])⟩
    have hlen : kes.length = kes2.length := by have := of_decide_eq_true e5; omega
    refine WL.upto kes.length (fun j st => (∀ i, i < j → ks[i]? = ks2[i]?) ∧ st = ⟨[(2, .im (.ip 5 false [[.i .i64 k, .i .i64 i, .s n, .sl lz false lt les, .sl kz false kt kes]] 0 0)), (3, .im (.ip 5 false [[.i .i64 k2, .i .i64 i2, .s n2, .sl lz2 false lt2 les2, .sl kz2 false kt2 kes2]] 0 0)), (5, .im (.i .i64 j))], [], []⟩) ?_ ⟨by omega, rfl⟩
    rintro j st hj ⟨hI, rfl⟩
    simp -implicitDefEqProofs only [↓W_seq, go_sem, ↓reduceIte, Nat.reduceBEq, Nat.reduceAdd, Nat.reduceLeDiff, Nat.reduceEqDiff, reduceCtorEq, Int.reduceToNat, Int.reduceLE, Int.reduceLT, Int.reduceEq, Int.reduceNeg, Nat.reduceLT, Nat.reduceSub, Nat.reduceMul]
    refine kcd_dec (fun h1 => ?_) (fun h1 => ?_)
    · have hj1 : j < kes.length := by omega
      have hj2 : j < kes2.length := by omega
      obtain ⟨rfl, a, r, ha, hr, hE⟩ := hks.at hkz hj1
      obtain ⟨rfl, a', r', ha', hr', hE'⟩ := hks2.at hkz2 hj2
      have hN' : a.nodes ≤ N := by have := Term.nodes_kid (k := k) (i := i) (n := n) (ls := ls) ha; omega
      simp -implicitDefEqProofs only [↓W_seq, go_sem, ↓reduceIte, Nat.reduceBEq, Nat.reduceAdd, Nat.reduceLeDiff, Nat.reduceEqDiff, reduceCtorEq, Int.reduceToNat, Int.reduceLE, Int.reduceLT, Int.reduceEq, Int.reduceNeg, Nat.reduceLT, Nat.reduceSub, Nat.reduceMul, hj1, hr, hj2, hr', sub_all hE.length, sub_all hE'.length]
      refine WC.pf (ih a a' r r' hN' hE hE') rfl rfl ?_
      rintro _ ⟨c, rfl, hc⟩
      simp -implicitDefEqProofs only [↓W_seq, go_sem, ↓reduceIte, Nat.reduceBEq, Nat.reduceAdd, Nat.reduceLeDiff, Nat.reduceEqDiff, reduceCtorEq, Int.reduceToNat, Int.reduceLE, Int.reduceLT, Int.reduceEq, Int.reduceNeg, Nat.reduceLT, Nat.reduceSub, Nat.reduceMul]
      refine kcd_not (fun h3 => ?_) (fun h3 => ?_) <;> simp -implicitDefEqProofs only [↓W_seq, go_sem, ↓reduceIte, Nat.reduceBEq, Nat.reduceAdd, Nat.reduceLeDiff, Nat.reduceEqDiff, reduceCtorEq, Int.reduceToNat, Int.reduceLE, Int.reduceLT, Int.reduceEq, Int.reduceNeg, Nat.reduceLT, Nat.reduceSub, Nat.reduceMul, h3, wrap_succ hj1 hkl]
      · refine fun i hi => ?_
        rcases Nat.lt_succ_iff_lt_or_eq.1 hi with hi | rfl
        · exact hI i hi
        · rw [ha, ha', hc.1 h3]
      · refine ⟨_, rfl, .f fun e => ?_⟩
        injection e with _ _ _ _ e
        rw [e, ha'] at ha
        cases ha
        rw [h3] at hc
        exact absurd (hc.2 rfl) (by simp)
    · simp -implicitDefEqProofs only [↓W_seq, go_sem, ↓reduceIte, Nat.reduceBEq, Nat.reduceAdd, Nat.reduceLeDiff, Nat.reduceEqDiff, reduceCtorEq, Int.reduceToNat, Int.reduceLE, Int.reduceLT, Int.reduceEq, Int.reduceNeg, Nat.reduceLT, Nat.reduceSub, Nat.reduceMul]
      refine ⟨_, rfl, .t ?_⟩
      have e := ext_get (a := ks) (b := ks2) (by rw [hks.length, hks2.length, hlen]) (by rw [hks.length]; intro i hi; exact hI i (by omega))
      rw [e, hb.1 e4, of_decide_eq_true e1, of_decide_eq_true e2, of_decide_eq_true e3]
def zeroT : Term := .mk 0 0 ByteArray.empty [] []
theorem zeroT_enc : zeroT.Enc [.i .i64 0, .i .i64 0, .s ByteArray.empty, .sl 1 false true [], .sl 1 false true []] := by
  unfold zeroT Term.Enc
  exact ⟨1, true, [], 1, true, [], rfl, ⟨by omega, by omega⟩, ⟨by omega, by omega⟩, Nat.zero_le _, .inr rfl, Nat.zero_le _, trivial, .inr rfl, Nat.zero_le _, trivial⟩
theorem f146 (t : Term) (r : List Imm) (h : t.Enc r) : PF cx 146 [.agg r] (EqB (t = zeroT)) := by
  refine PF.intro (fn := Try.f146) Try.func146 rfl rfl ?_
  have h0 := h
  obtain ⟨k, i, n, ls, ks, lz, lt, les, kz, kt, kes, rfl, rfl, hk, hi, hn, hlz, hll, hl, hkz, hkl, hks⟩ := h.inv
  simp -implicitDefEqProofs only [↓W_seq, go_sem, ↓reduceIte, Nat.reduceBEq, Nat.reduceAdd, Nat.reduceLeDiff, Nat.reduceEqDiff, reduceCtorEq, Int.reduceToNat, Int.reduceLE, Int.reduceLT, Int.reduceEq, Int.reduceNeg, Nat.reduceLT, Nat.reduceSub, Nat.reduceMul]
  refine WC.pf (f58 _ _ _ _ _ (Nat.le_refl _) h0 zeroT_enc) rfl rfl ?_
  rintro _ ⟨b, rfl, hb⟩
  simp -implicitDefEqProofs only [↓W_seq, go_sem, ↓reduceIte, Nat.reduceBEq, Nat.reduceAdd, Nat.reduceLeDiff, Nat.reduceEqDiff, reduceCtorEq, Int.reduceToNat, Int.reduceLE, Int.reduceLT, Int.reduceEq, Int.reduceNeg, Nat.reduceLT, Nat.reduceSub, Nat.reduceMul]
  exact ⟨_, rfl, _, rfl, hb⟩
theorem f146b (t : Term) (r : List Imm) (h : t.Enc r) : PF cx 146 [.agg r] IsB := (f146 t r h).mono fun _ => EqB.isB
theorem f113 (d : Decl) (r : List Imm) (h : d.Enc r) : PF cx 113 [.agg r] IsB := by
  refine PF.intro (fn := Try.f113) Try.func113 rfl rfl ?_
  obtain ⟨t0, t1, t2, t3, t4, v0, v1, v2, v3, v4, cz, ct, ces, u0, u1, u2, u3, u4, rz, rt, res, fz, ft, fes, rfl, hdk, hdn, hdp, hT, hV, hdf, hcz, hcl, hC, hrp, hU, hrz, hrl, hR, hfz, hfl, hF, hTn⟩ := h
  rw [W_seq]
  simp -implicitDefEqProofs only [go_sem, ↓reduceIte, Nat.reduceBEq, Nat.reduceAdd, Nat.reduceLeDiff, Nat.reduceEqDiff, reduceCtorEq, Int.reduceToNat, Int.reduceLE, Int.reduceLT, Int.reduceEq, Int.reduceNeg, Nat.reduceLT, Nat.reduceSub, Nat.reduceMul]
  refine W.cutseq (fun st => ∃ b, st = ⟨[(1, .im (.ip 23 false [[.i .i64 d.kind, .s d.name, .i .i64 d.params, t0, t1, t2, t3, t4, v0, v1, v2, v3, v4, .i .i64 d.fixed, .sl cz false ct ces, .i .i64 d.recParams, u0, u1, u2, u3, u4, .sl rz false rt res, .sl fz false ft fes]] 0 0)), (3, .im (.b b))], [], []⟩) ?_ ?_
  · simp -implicitDefEqProofs only [↓W_seq, go_sem, ↓reduceIte, Nat.reduceBEq, Nat.reduceAdd, Nat.reduceLeDiff, Nat.reduceEqDiff, reduceCtorEq, Int.reduceToNat, Int.reduceLE, Int.reduceLT, Int.reduceEq, Int.reduceNeg, Nat.reduceLT, Nat.reduceSub, Nat.reduceMul]
    repeat' (first | ((first | refine kgb_not (fun h => ?_) (fun h => ?_) | refine kcd_not (fun h => ?_) (fun h => ?_) | refine kdb_not (fun h => ?_) (fun h => ?_) | refine kgb_b (fun h => ?_) (fun h => ?_) | refine kcd_b (fun h => ?_) (fun h => ?_) | refine kdb_b (fun h => ?_) (fun h => ?_) | fail) <;> simp -implicitDefEqProofs only [↓W_seq, go_sem, ↓reduceIte, Nat.reduceBEq, Nat.reduceAdd, Nat.reduceLeDiff, Nat.reduceEqDiff, reduceCtorEq, Int.reduceToNat, Int.reduceLE, Int.reduceLT, Int.reduceEq, Int.reduceNeg, Nat.reduceLT, Nat.reduceSub, Nat.reduceMul, h]) | (first | exact ⟨_, rfl, _, rfl⟩ | exact rfl | exact ⟨_, rfl⟩ | exact ⟨_, _, rfl⟩ | exact ⟨_, _, _, rfl⟩ | exact ⟨hj1, rfl⟩ | exact ⟨hj1, _, rfl⟩ | exact ⟨hj1, _, _, rfl⟩) | (refine WC.pf (f146b _ _ hU) rfl rfl ?_; rintro _ ⟨_ | _, rfl⟩ <;> simp -implicitDefEqProofs only [↓W_seq, go_sem, ↓reduceIte, Nat.reduceBEq, Nat.reduceAdd, Nat.reduceLeDiff, Nat.reduceEqDiff, reduceCtorEq, Int.reduceToNat, Int.reduceLE, Int.reduceLT, Int.reduceEq, Int.reduceNeg, Nat.reduceLT, Nat.reduceSub, Nat.reduceMul]) | fail)
  rintro _ ⟨b, rfl⟩
  refine W.cutseq (fun st => ∃ b, st = ⟨[(1, .im (.ip 23 false [[.i .i64 d.kind, .s d.name, .i .i64 d.params, t0, t1, t2, t3, t4, v0, v1, v2, v3, v4, .i .i64 d.fixed, .sl cz false ct ces, .i .i64 d.recParams, u0, u1, u2, u3, u4, .sl rz false rt res, .sl fz false ft fes]] 0 0)), (4, .im (.b b))], [], []⟩) ?_ ?_
  · simp -implicitDefEqProofs only [↓W_seq, go_sem, ↓reduceIte, Nat.reduceBEq, Nat.reduceAdd, Nat.reduceLeDiff, Nat.reduceEqDiff, reduceCtorEq, Int.reduceToNat, Int.reduceLE, Int.reduceLT, Int.reduceEq, Int.reduceNeg, Nat.reduceLT, Nat.reduceSub, Nat.reduceMul]
    repeat' (first | ((first | refine kgb_not (fun h => ?_) (fun h => ?_) | refine kcd_not (fun h => ?_) (fun h => ?_) | refine kdb_not (fun h => ?_) (fun h => ?_) | refine kgb_b (fun h => ?_) (fun h => ?_) | refine kcd_b (fun h => ?_) (fun h => ?_) | refine kdb_b (fun h => ?_) (fun h => ?_) | fail) <;> simp -implicitDefEqProofs only [↓W_seq, go_sem, ↓reduceIte, Nat.reduceBEq, Nat.reduceAdd, Nat.reduceLeDiff, Nat.reduceEqDiff, reduceCtorEq, Int.reduceToNat, Int.reduceLE, Int.reduceLT, Int.reduceEq, Int.reduceNeg, Nat.reduceLT, Nat.reduceSub, Nat.reduceMul, h]) | (first | exact ⟨_, rfl, _, rfl⟩ | exact rfl | exact ⟨_, rfl⟩ | exact ⟨_, _, rfl⟩ | exact ⟨_, _, _, rfl⟩ | exact ⟨hj1, rfl⟩ | exact ⟨hj1, _, rfl⟩ | exact ⟨hj1, _, _, rfl⟩) | fail)
  rintro _ ⟨b, rfl⟩
  simp -implicitDefEqProofs only [↓W_seq, go_sem, ↓reduceIte, Nat.reduceBEq, Nat.reduceAdd, Nat.reduceLeDiff, Nat.reduceEqDiff, reduceCtorEq, Int.reduceToNat, Int.reduceLE, Int.reduceLT, Int.reduceEq, Int.reduceNeg, Nat.reduceLT, Nat.reduceSub, Nat.reduceMul]
  repeat' (first | ((first | refine kgb_not (fun h => ?_) (fun h => ?_) | refine kcd_not (fun h => ?_) (fun h => ?_) | refine kdb_not (fun h => ?_) (fun h => ?_) | refine kgb_b (fun h => ?_) (fun h => ?_) | refine kcd_b (fun h => ?_) (fun h => ?_) | refine kdb_b (fun h => ?_) (fun h => ?_) | fail) <;> simp -implicitDefEqProofs only [↓W_seq, go_sem, ↓reduceIte, Nat.reduceBEq, Nat.reduceAdd, Nat.reduceLeDiff, Nat.reduceEqDiff, reduceCtorEq, Int.reduceToNat, Int.reduceLE, Int.reduceLT, Int.reduceEq, Int.reduceNeg, Nat.reduceLT, Nat.reduceSub, Nat.reduceMul, h]) | (first | exact ⟨_, rfl, _, rfl⟩ | exact rfl | exact ⟨_, rfl⟩ | exact ⟨_, _, rfl⟩ | exact ⟨_, _, _, rfl⟩ | exact ⟨hj1, rfl⟩ | exact ⟨hj1, _, rfl⟩ | exact ⟨hj1, _, _, rfl⟩) | (refine WC.pf (f146b _ _ hV) rfl rfl ?_; rintro _ ⟨_ | _, rfl⟩ <;> simp -implicitDefEqProofs only [↓W_seq, go_sem, ↓reduceIte, Nat.reduceBEq, Nat.reduceAdd, Nat.reduceLeDiff, Nat.reduceEqDiff, reduceCtorEq, Int.reduceToNat, Int.reduceLE, Int.reduceLT, Int.reduceEq, Int.reduceNeg, Nat.reduceLT, Nat.reduceSub, Nat.reduceMul]) | (refine WC.pf (f146b _ _ hT) rfl rfl ?_; rintro _ ⟨_ | _, rfl⟩ <;> simp -implicitDefEqProofs only [↓W_seq, go_sem, ↓reduceIte, Nat.reduceBEq, Nat.reduceAdd, Nat.reduceLeDiff, Nat.reduceEqDiff, reduceCtorEq, Int.reduceToNat, Int.reduceLE, Int.reduceLT, Int.reduceEq, Int.reduceNeg, Nat.reduceLT, Nat.reduceSub, Nat.reduceMul]) | fail)
theorem f171 (t : Term) (r : List Imm) (h : t.Enc r) (hn : t.nodes ≤ lim) : PF cx 171 [.agg r] fun d => d = .i .i64 t.all.1.length := by
  refine PF.intro (fn := Try.f171) Try.func171 rfl rfl ?_
  have h0 := h
  obtain ⟨k, i, n, ls, ks, lz, lt, les, kz, kt, kes, rfl, rfl, hk, hi, hn, hlz, hll, hl, hkz, hkl, hks⟩ := h.inv
  simp -implicitDefEqProofs only [↓W_seq, go_sem, ↓reduceIte, Nat.reduceBEq, Nat.reduceAdd, Nat.reduceLeDiff, Nat.reduceEqDiff, reduceCtorEq, Int.reduceToNat, Int.reduceLE, Int.reduceLT, Int.reduceEq, Int.reduceNeg, Nat.reduceLT, Nat.reduceSub, Nat.reduceMul]
  refine WL.fall (fun m st => ∃ (u : Term) (r : List Imm) (x : Nat), u.Enc r ∧ m = u.nodes ∧ x + u.all.1.length = (Term.mk k i n ls ks).all.1.length ∧ st = ⟨[(1, .ptr 0 1 0 0), (3, .im (.i .i64 x))], [], [.row [r.map .im] 5 26]⟩) ?_ ⟨_, _, 0, h0, rfl, by simp, rfl⟩
  rintro m st ⟨u, r, x, hu, rfl, hx, rfl⟩
  have hlen := Term.all_len (Term.mk k i n ls ks)
  have hlim : lim = 1073741824 := rfl
  obtain ⟨k2, i2, n2, ls2, ks2, lz2, lt2, les2, kz2, kt2, kes2, rfl, rfl, hk2, hi2, hn2, hlz2, hll2, hl2, hkz2, hkl2, hks2⟩ := hu.inv
  simp -implicitDefEqProofs only [↓W_seq, go_sem, ↓reduceIte, Nat.reduceBEq, Nat.reduceAdd, Nat.reduceLeDiff, Nat.reduceEqDiff, reduceCtorEq, Int.reduceToNat, Int.reduceLE, Int.reduceLT, Int.reduceEq, Int.reduceNeg, Nat.reduceLT, Nat.reduceSub, Nat.reduceMul]
  refine kgb_b (fun e1 => ?_) (fun e1 => ?_) <;> simp -implicitDefEqProofs only [↓W_seq, go_sem, ↓reduceIte, Nat.reduceBEq, Nat.reduceAdd, Nat.reduceLeDiff, Nat.reduceEqDiff, reduceCtorEq, Int.reduceToNat, Int.reduceLE, Int.reduceLT, Int.reduceEq, Int.reduceNeg, Nat.reduceLT, Nat.reduceSub, Nat.reduceMul, e1]
  · refine kcd_b (fun e2 => ?_) (fun e2 => ?_) <;> simp -implicitDefEqProofs only [↓W_seq, go_sem, ↓reduceIte, Nat.reduceBEq, Nat.reduceAdd, Nat.reduceLeDiff, Nat.reduceEqDiff, reduceCtorEq, Int.reduceToNat, Int.reduceLE, Int.reduceLT, Int.reduceEq, Int.reduceNeg, Nat.reduceLT, Nat.reduceSub, Nat.reduceMul, e2]
    · have h6 : k2 = 6 := of_decide_eq_true e1
      have h2 : kes2.length = 2 := by have := of_decide_eq_true e2; omega
      obtain ⟨a, b, r, s, rfl, rfl, ha, hb⟩ := hks2.two h2
      have hz : kz2 = 5 := by rcases hkz2 with h | h <;> simp_all
      subst hz h6
      rw [Term.all_pi] at hx
      simp only [List.length_cons] at hx
      have hb5 := hb.length
      simp -implicitDefEqProofs only [↓W_seq, go_sem, ↓reduceIte, Nat.reduceBEq, Nat.reduceAdd, Nat.reduceLeDiff, Nat.reduceEqDiff, reduceCtorEq, Int.reduceToNat, Int.reduceLE, Int.reduceLT, Int.reduceEq, Int.reduceNeg, Nat.reduceLT, Nat.reduceSub, Nat.reduceMul, sub_all hb5, hb5]
      have hw : IntKind.i64.wrap ((x : Int) + 1) = ((x + 1 : Nat) : Int) := by rw [wrap_id] <;> omega
      refine ⟨b.nodes, ?_, b, s, x + 1, hb, rfl, by omega, ?_⟩
      · rw [Term.nodes_mk]; simp only [Term.nodesL]; omega
      · rw [hw]
    · have h2 : ¬ks2.length = 2 := by have := of_decide_eq_false e2; rw [hks2.length]; omega
      rw [Term.all_n h2] at hx
      simp only [List.length_nil, Nat.add_zero] at hx
      subst hx
      exact ⟨_, rfl, rfl⟩
  · rw [Term.all_k (of_decide_eq_false e1)] at hx
    simp only [List.length_nil, Nat.add_zero] at hx
    subst hx
    exact ⟨_, rfl, rfl⟩
/-- The types of the constructors take all parameters. -/
def Decl.fixedOk (d : Decl) : Prop := ∀ c ∈ d.ctors, d.fixed ≤ c.type.all.1.length
theorem f147 (d : Decl) (r : List Imm) (h : d.Enc r) : PF cx 147 [.agg r] fun x => ∃ b : Bool, x = .b b ∧ (b = true → d.fixedOk) := by
  refine PF.intro (fn := Try.f147) Try.func147 rfl rfl ?_
  obtain ⟨t0, t1, t2, t3, t4, v0, v1, v2, v3, v4, cz, ct, ces, u0, u1, u2, u3, u4, rz, rt, res, fz, ft, fes, rfl, hdk, hdn, hdp, hT, hV, hdf, hcz, hcl, hC, hrp, hU, hrz, hrl, hR, hfz, hfl, hF, hTn⟩ := h
  simp -implicitDefEqProofs only [↓W_seq, go_sem, ↓reduceIte, Nat.reduceBEq, Nat.reduceAdd, Nat.reduceLeDiff, Nat.reduceEqDiff, reduceCtorEq, Int.reduceToNat, Int.reduceLE, Int.reduceLT, Int.reduceEq, Int.reduceNeg, Nat.reduceLT, Nat.reduceSub, Nat.reduceMul]
  refine WC.pf (f171 _ _ hT hTn) rfl rfl ?_
  rintro _ rfl
  simp -implicitDefEqProofs only [↓W_seq, go_sem, ↓reduceIte, Nat.reduceBEq, Nat.reduceAdd, Nat.reduceLeDiff, Nat.reduceEqDiff, reduceCtorEq, Int.reduceToNat, Int.reduceLE, Int.reduceLT, Int.reduceEq, Int.reduceNeg, Nat.reduceLT, Nat.reduceSub, Nat.reduceMul]
  refine WL.upto ces.length (fun j st => ∃ b : Bool, (b = true → ∀ i, i < j → ∀ c, d.ctors[i]? = some c → d.fixed ≤ c.type.all.1.length) ∧ st = ⟨[(1, .im (.ip 23 false [[.i .i64 d.kind, .s d.name, .i .i64 d.params, t0, t1, t2, t3, t4, v0, v1, v2, v3, v4, .i .i64 d.fixed, .sl cz false ct ces, .i .i64 d.recParams, u0, u1, u2, u3, u4, .sl rz false rt res, .sl fz false ft fes]] 0 0)), (3, .im (.b b)), (4, .im (.i .i64 j))], [], []⟩) ?_ ⟨_, by intros; omega, rfl⟩
  rintro j st hj ⟨b, hI, rfl⟩
  simp -implicitDefEqProofs only [↓W_seq, go_sem, ↓reduceIte, Nat.reduceBEq, Nat.reduceAdd, Nat.reduceLeDiff, Nat.reduceEqDiff, reduceCtorEq, Int.reduceToNat, Int.reduceLE, Int.reduceLT, Int.reduceEq, Int.reduceNeg, Nat.reduceLT, Nat.reduceSub, Nat.reduceMul]
  refine kcd_dec (fun h1 => ?_) (fun h1 => ?_)
  · have hj1 : j < ces.length := by omega
    obtain ⟨rfl, a, r, ha, hr, x0, x1, x2, x3, x4, rfl, hx, hX, hXn⟩ := hC.at hcz hj1
    cases b with
    | true =>
      simp -implicitDefEqProofs only [↓W_seq, go_sem, ↓reduceIte, Nat.reduceBEq, Nat.reduceAdd, Nat.reduceLeDiff, Nat.reduceEqDiff, reduceCtorEq, Int.reduceToNat, Int.reduceLE, Int.reduceLT, Int.reduceEq, Int.reduceNeg, Nat.reduceLT, Nat.reduceSub, Nat.reduceMul, hj1, hr]
      refine WC.pf (f171 _ _ hX hXn) rfl rfl ?_
      rintro _ rfl
      simp -implicitDefEqProofs only [↓W_seq, go_sem, ↓reduceIte, Nat.reduceBEq, Nat.reduceAdd, Nat.reduceLeDiff, Nat.reduceEqDiff, reduceCtorEq, Int.reduceToNat, Int.reduceLE, Int.reduceLT, Int.reduceEq, Int.reduceNeg, Nat.reduceLT, Nat.reduceSub, Nat.reduceMul, wrap_succ hj1 hcl]
      refine ⟨_, fun hb i hi c hc => ?_, rfl⟩
      rcases Nat.lt_succ_iff_lt_or_eq.1 hi with hi | rfl
      · exact hI rfl i hi c hc
      · rw [ha] at hc; cases hc; exact of_decide_eq_true hb
    | false =>
      simp -implicitDefEqProofs only [↓W_seq, go_sem, ↓reduceIte, Nat.reduceBEq, Nat.reduceAdd, Nat.reduceLeDiff, Nat.reduceEqDiff, reduceCtorEq, Int.reduceToNat, Int.reduceLE, Int.reduceLT, Int.reduceEq, Int.reduceNeg, Nat.reduceLT, Nat.reduceSub, Nat.reduceMul, wrap_succ hj1 hcl, hj1]
      exact ⟨false, (fun hb => by cases hb), rfl⟩
  · simp -implicitDefEqProofs only [↓W_seq, go_sem, ↓reduceIte, Nat.reduceBEq, Nat.reduceAdd, Nat.reduceLeDiff, Nat.reduceEqDiff, reduceCtorEq, Int.reduceToNat, Int.reduceLE, Int.reduceLT, Int.reduceEq, Int.reduceNeg, Nat.reduceLT, Nat.reduceSub, Nat.reduceMul]
    refine ⟨_, rfl, _, rfl, fun hb c hc => ?_⟩
    obtain ⟨i, hi⟩ := List.getElem?_of_mem hc
    exact hI hb i (by have := (List.getElem?_eq_some_iff.1 hi).1; rw [hC.length] at this; omega) c hi
/-- What the counts of a declaration in order say. -/
def Decl.cnt (d : Decl) : Prop := 0 ≤ d.fixed ∧ d.params ≤ 8 ∧ (d.kind = 3 → d.fixedOk)
theorem f114 (d : Decl) (r : List Imm) (h : d.Enc r) : PF cx 114 [.agg r] fun x => ∃ n : Int, x = .i .i64 n ∧ (n = 0 → d.cnt) := by
  refine PF.intro (fn := Try.f114) Try.func114 rfl rfl ?_
  have h0 := h
  obtain ⟨t0, t1, t2, t3, t4, v0, v1, v2, v3, v4, cz, ct, ces, u0, u1, u2, u3, u4, rz, rt, res, fz, ft, fes, rfl, hdk, hdn, hdp, hT, hV, hdf, hcz, hcl, hC, hrp, hU, hrz, hrl, hR, hfz, hfl, hF, hTn⟩ := h
  rw [W_seq]
  simp -implicitDefEqProofs only [go_sem, ↓reduceIte, Nat.reduceBEq, Nat.reduceAdd, Nat.reduceLeDiff, Nat.reduceEqDiff, reduceCtorEq, Int.reduceToNat, Int.reduceLE, Int.reduceLT, Int.reduceEq, Int.reduceNeg, Nat.reduceLT, Nat.reduceSub, Nat.reduceMul]
  refine W.cutseq (fun st => (0 ≤ d.fixed ∧ d.params ≤ 8) ∧ st = ⟨[(1, .im (.ip 23 false [[.i .i64 d.kind, .s d.name, .i .i64 d.params, t0, t1, t2, t3, t4, v0, v1, v2, v3, v4, .i .i64 d.fixed, .sl cz false ct ces, .i .i64 d.recParams, u0, u1, u2, u3, u4, .sl rz false rt res, .sl fz false ft fes]] 0 0)), (16, .im (.b false))], [], []⟩) ?_ ?_
  · simp -implicitDefEqProofs only [↓W_seq, go_sem, ↓reduceIte, Nat.reduceBEq, Nat.reduceAdd, Nat.reduceLeDiff, Nat.reduceEqDiff, reduceCtorEq, Int.reduceToNat, Int.reduceLE, Int.reduceLT, Int.reduceEq, Int.reduceNeg, Nat.reduceLT, Nat.reduceSub, Nat.reduceMul]
    repeat' (first | ((first | refine kgb_not (fun h => ?_) (fun h => ?_) | refine kcd_not (fun h => ?_) (fun h => ?_) | refine kdb_not (fun h => ?_) (fun h => ?_) | refine kgb_b (fun h => ?_) (fun h => ?_) | refine kcd_b (fun h => ?_) (fun h => ?_) | refine kdb_b (fun h => ?_) (fun h => ?_) | fail) <;> simp -implicitDefEqProofs only [↓W_seq, go_sem, ↓reduceIte, Nat.reduceBEq, Nat.reduceAdd, Nat.reduceLeDiff, Nat.reduceEqDiff, reduceCtorEq, Int.reduceToNat, Int.reduceLE, Int.reduceLT, Int.reduceEq, Int.reduceNeg, Nat.reduceLT, Nat.reduceSub, Nat.reduceMul, h]) | (first | exact ⟨_, rfl, _, rfl⟩ | exact rfl | exact ⟨_, rfl⟩ | exact ⟨_, _, rfl⟩ | exact ⟨_, _, _, rfl⟩ | exact ⟨hj1, rfl⟩ | exact ⟨hj1, _, rfl⟩ | exact ⟨hj1, _, _, rfl⟩) | (exact ⟨_, rfl, _, rfl, fun h => absurd h (by decide)⟩) | (exact ⟨by have := of_decide_eq_false h; omega, rfl⟩) | (simp only [decide_eq_false_iff_not] at *; omega) | fail)
  rintro _ ⟨⟨hfx, hpm⟩, rfl⟩
  refine W.cutseq (fun st => ∃ b, st = ⟨[(1, .im (.ip 23 false [[.i .i64 d.kind, .s d.name, .i .i64 d.params, t0, t1, t2, t3, t4, v0, v1, v2, v3, v4, .i .i64 d.fixed, .sl cz false ct ces, .i .i64 d.recParams, u0, u1, u2, u3, u4, .sl rz false rt res, .sl fz false ft fes]] 0 0)), (37, .im (.b b))], [], []⟩) ?_ ?_
  · simp -implicitDefEqProofs only [↓W_seq, go_sem, ↓reduceIte, Nat.reduceBEq, Nat.reduceAdd, Nat.reduceLeDiff, Nat.reduceEqDiff, reduceCtorEq, Int.reduceToNat, Int.reduceLE, Int.reduceLT, Int.reduceEq, Int.reduceNeg, Nat.reduceLT, Nat.reduceSub, Nat.reduceMul]
    repeat' (first | ((first | refine kgb_not (fun h => ?_) (fun h => ?_) | refine kcd_not (fun h => ?_) (fun h => ?_) | refine kdb_not (fun h => ?_) (fun h => ?_) | refine kgb_b (fun h => ?_) (fun h => ?_) | refine kcd_b (fun h => ?_) (fun h => ?_) | refine kdb_b (fun h => ?_) (fun h => ?_) | fail) <;> simp -implicitDefEqProofs only [↓W_seq, go_sem, ↓reduceIte, Nat.reduceBEq, Nat.reduceAdd, Nat.reduceLeDiff, Nat.reduceEqDiff, reduceCtorEq, Int.reduceToNat, Int.reduceLE, Int.reduceLT, Int.reduceEq, Int.reduceNeg, Nat.reduceLT, Nat.reduceSub, Nat.reduceMul, h]) | (first | exact ⟨_, rfl, _, rfl⟩ | exact rfl | exact ⟨_, rfl⟩ | exact ⟨_, _, rfl⟩ | exact ⟨_, _, _, rfl⟩ | exact ⟨hj1, rfl⟩ | exact ⟨hj1, _, rfl⟩ | exact ⟨hj1, _, _, rfl⟩) | (exact ⟨_, rfl, _, rfl, fun h => absurd h (by decide)⟩) | fail)
  rintro _ ⟨b, rfl⟩
  simp -implicitDefEqProofs only [↓W_seq, go_sem, ↓reduceIte, Nat.reduceBEq, Nat.reduceAdd, Nat.reduceLeDiff, Nat.reduceEqDiff, reduceCtorEq, Int.reduceToNat, Int.reduceLE, Int.reduceLT, Int.reduceEq, Int.reduceNeg, Nat.reduceLT, Nat.reduceSub, Nat.reduceMul]
  refine WL.upto fes.length (fun j st => st = ⟨[(1, .im (.ip 23 false [[.i .i64 d.kind, .s d.name, .i .i64 d.params, t0, t1, t2, t3, t4, v0, v1, v2, v3, v4, .i .i64 d.fixed, .sl cz false ct ces, .i .i64 d.recParams, u0, u1, u2, u3, u4, .sl rz false rt res, .sl fz false ft fes]] 0 0)), (3, .im (.i .i64 j))], [], []⟩) ?_ rfl
  rintro j st hj rfl
  simp -implicitDefEqProofs only [↓W_seq, go_sem, ↓reduceIte, Nat.reduceBEq, Nat.reduceAdd, Nat.reduceLeDiff, Nat.reduceEqDiff, reduceCtorEq, Int.reduceToNat, Int.reduceLE, Int.reduceLT, Int.reduceEq, Int.reduceNeg, Nat.reduceLT, Nat.reduceSub, Nat.reduceMul]
  refine kcd_dec (fun h1 => ?_) (fun h1 => ?_)
  · have hj1 : j < fes.length := by omega
    obtain ⟨rfl, a, r, ha, hr, x0, x1, x2, x3, x4, y0, y1, y2, y3, y4, y5, y6, y7, rfl, hx, hX, hy, hY⟩ := hF.at hfz hj1
    simp -implicitDefEqProofs only [↓W_seq, go_sem, ↓reduceIte, Nat.reduceBEq, Nat.reduceAdd, Nat.reduceLeDiff, Nat.reduceEqDiff, reduceCtorEq, Int.reduceToNat, Int.reduceLE, Int.reduceLT, Int.reduceEq, Int.reduceNeg, Nat.reduceLT, Nat.reduceSub, Nat.reduceMul, hj1, hr]
    repeat' (first | ((first | refine kgb_not (fun h => ?_) (fun h => ?_) | refine kcd_not (fun h => ?_) (fun h => ?_) | refine kdb_not (fun h => ?_) (fun h => ?_) | refine kgb_b (fun h => ?_) (fun h => ?_) | refine kcd_b (fun h => ?_) (fun h => ?_) | refine kdb_b (fun h => ?_) (fun h => ?_) | fail) <;> simp -implicitDefEqProofs only [↓W_seq, go_sem, ↓reduceIte, Nat.reduceBEq, Nat.reduceAdd, Nat.reduceLeDiff, Nat.reduceEqDiff, reduceCtorEq, Int.reduceToNat, Int.reduceLE, Int.reduceLT, Int.reduceEq, Int.reduceNeg, Nat.reduceLT, Nat.reduceSub, Nat.reduceMul, wrap_succ hj1 hfl, hj1, hr, h]) | (first | exact ⟨_, rfl, _, rfl⟩ | exact rfl | exact ⟨_, rfl⟩ | exact ⟨_, _, rfl⟩ | exact ⟨_, _, _, rfl⟩ | exact ⟨hj1, rfl⟩ | exact ⟨hj1, _, rfl⟩ | exact ⟨hj1, _, _, rfl⟩) | (exact ⟨_, rfl, _, rfl, fun h => absurd h (by decide)⟩) | fail)
  simp -implicitDefEqProofs only [↓W_seq, go_sem, ↓reduceIte, Nat.reduceBEq, Nat.reduceAdd, Nat.reduceLeDiff, Nat.reduceEqDiff, reduceCtorEq, Int.reduceToNat, Int.reduceLE, Int.reduceLT, Int.reduceEq, Int.reduceNeg, Nat.reduceLT, Nat.reduceSub, Nat.reduceMul]
  refine kgb_b (fun e1 => ?_) (fun e1 => ?_) <;> simp -implicitDefEqProofs only [↓W_seq, go_sem, ↓reduceIte, Nat.reduceBEq, Nat.reduceAdd, Nat.reduceLeDiff, Nat.reduceEqDiff, reduceCtorEq, Int.reduceToNat, Int.reduceLE, Int.reduceLT, Int.reduceEq, Int.reduceNeg, Nat.reduceLT, Nat.reduceSub, Nat.reduceMul, e1]
  · repeat' (first | ((first | refine kgb_not (fun h => ?_) (fun h => ?_) | refine kcd_not (fun h => ?_) (fun h => ?_) | refine kdb_not (fun h => ?_) (fun h => ?_) | refine kgb_b (fun h => ?_) (fun h => ?_) | refine kcd_b (fun h => ?_) (fun h => ?_) | refine kdb_b (fun h => ?_) (fun h => ?_) | fail) <;> simp -implicitDefEqProofs only [↓W_seq, go_sem, ↓reduceIte, Nat.reduceBEq, Nat.reduceAdd, Nat.reduceLeDiff, Nat.reduceEqDiff, reduceCtorEq, Int.reduceToNat, Int.reduceLE, Int.reduceLT, Int.reduceEq, Int.reduceNeg, Nat.reduceLT, Nat.reduceSub, Nat.reduceMul, h]) | (first | exact ⟨_, rfl, _, rfl⟩ | exact rfl | exact ⟨_, rfl⟩ | exact ⟨_, _, rfl⟩ | exact ⟨_, _, _, rfl⟩ | exact ⟨hj1, rfl⟩ | exact ⟨hj1, _, rfl⟩ | exact ⟨hj1, _, _, rfl⟩) | (refine WC.pf (f147 _ _ h0) rfl rfl ?_; rintro _ ⟨_ | _, rfl, hb⟩ <;> simp -implicitDefEqProofs only [↓W_seq, go_sem, ↓reduceIte, Nat.reduceBEq, Nat.reduceAdd, Nat.reduceLeDiff, Nat.reduceEqDiff, reduceCtorEq, Int.reduceToNat, Int.reduceLE, Int.reduceLT, Int.reduceEq, Int.reduceNeg, Nat.reduceLT, Nat.reduceSub, Nat.reduceMul]) | (exact ⟨_, rfl, _, rfl, fun _ => ⟨hfx, hpm, fun _ => hb rfl⟩⟩) | (exact ⟨_, rfl, _, rfl, fun h => absurd h (by decide)⟩) | fail)
  · exact ⟨_, rfl, _, rfl, fun _ => ⟨hfx, hpm, fun h => absurd h (of_decide_eq_false e1)⟩⟩
def EncS (s : ByteArray) (r : List Imm) : Prop := r = [.s s]
theorem f126 (ss : List ByteArray) (es : List (List Imm)) (z : Nat) (q : Bool) (s : ByteArray) (h : All2 EncS ss es) (hz : z = 1 ∨ es = []) (hl : es.length ≤ 4 * lim) : PF cx 126 [.sl z false q es, .s s] (EqB (s ∈ ss)) := by
  refine PF.intro (fn := Try.f126) Try.func126 rfl rfl ?_
  simp -implicitDefEqProofs only [↓W_seq, go_sem, ↓reduceIte, Nat.reduceBEq, Nat.reduceAdd, Nat.reduceLeDiff, Nat.reduceEqDiff, reduceCtorEq, Int.reduceToNat, Int.reduceLE, Int.reduceLT, Int.reduceEq, Int.reduceNeg, Nat.reduceLT, Nat.reduceSub, Nat.reduceMul]
  refine WL.upto es.length (fun j st => (∀ i, i < j → ss[i]? ≠ some s) ∧ st = ⟨[(0, .im (.sl z false q es)), (1, .im (.s s)), (5, .im (.i .i64 j))], [], []⟩) ?_ ⟨by omega, rfl⟩
  rintro j st hj ⟨hI, rfl⟩
  simp -implicitDefEqProofs only [↓W_seq, go_sem, ↓reduceIte, Nat.reduceBEq, Nat.reduceAdd, Nat.reduceLeDiff, Nat.reduceEqDiff, reduceCtorEq, Int.reduceToNat, Int.reduceLE, Int.reduceLT, Int.reduceEq, Int.reduceNeg, Nat.reduceLT, Nat.reduceSub, Nat.reduceMul]
  refine kcd_dec (fun h1 => ?_) (fun h1 => ?_)
  · have hj1 : j < es.length := by omega
    obtain ⟨rfl, a, r, ha, hr, rfl⟩ := h.at hz hj1
    have hlim : lim = 1073741824 := rfl
    have hw : IntKind.i64.wrap ((j : Int) + 1) = ((j + 1 : Nat) : Int) := by rw [wrap_id] <;> omega
    simp -implicitDefEqProofs only [↓W_seq, go_sem, ↓reduceIte, Nat.reduceBEq, Nat.reduceAdd, Nat.reduceLeDiff, Nat.reduceEqDiff, reduceCtorEq, Int.reduceToNat, Int.reduceLE, Int.reduceLT, Int.reduceEq, Int.reduceNeg, Nat.reduceLT, Nat.reduceSub, Nat.reduceMul, hj1, hr]
    refine kcd_b (fun h2 => ?_) (fun h2 => ?_) <;> simp -implicitDefEqProofs only [↓W_seq, go_sem, ↓reduceIte, Nat.reduceBEq, Nat.reduceAdd, Nat.reduceLeDiff, Nat.reduceEqDiff, reduceCtorEq, Int.reduceToNat, Int.reduceLE, Int.reduceLT, Int.reduceEq, Int.reduceNeg, Nat.reduceLT, Nat.reduceSub, Nat.reduceMul, h2, hw]
    · exact ⟨_, rfl, .t (by have := of_decide_eq_true h2; subst this; exact List.mem_of_getElem? ha)⟩
    · intro i hi
      rcases Nat.lt_succ_iff_lt_or_eq.1 hi with hi | rfl
      · exact hI i hi
      · rw [ha]; intro e; cases e; exact of_decide_eq_false h2 rfl
  · simp -implicitDefEqProofs only [↓W_seq, go_sem, ↓reduceIte, Nat.reduceBEq, Nat.reduceAdd, Nat.reduceLeDiff, Nat.reduceEqDiff, reduceCtorEq, Int.reduceToNat, Int.reduceLE, Int.reduceLT, Int.reduceEq, Int.reduceNeg, Nat.reduceLT, Nat.reduceSub, Nat.reduceMul]
    refine ⟨_, rfl, .f fun hm => ?_⟩
    obtain ⟨i, hi⟩ := List.getElem?_of_mem hm
    exact hI i (by have := (List.getElem?_eq_some_iff.1 hi).1; rw [h.length] at this; omega) hi
end Go.Proofs.Ytnbbhbbhgcipjaa.Am

namespace Go.Proofs.Ytnbbhbbhgcipjaa.Am
attribute [local irreducible] W WO WD WL WR WC WOp W1 WDf kcall kdfr kpn ob eb kval kvh kH kn0 kmp kvc kvc0 kca kpk kgb kgd kcd kcl kbl kres kmt wseq kseq kblock kreg kdn kdE kbd kcr kdm kdb kdg kdo kfin klp
def first {α : Type} (p : α → Prop) [DecidablePred p] : List α → Option Nat
  | [] => none
  | a :: l => if p a then some 0 else (first p l).map (· + 1)
theorem first_some {α : Type} {p : α → Prop} [DecidablePred p] : ∀ {l : List α} {j : Nat} {a : α}, l[j]? = some a → p a → (∀ i, i < j → ∀ b, l[i]? = some b → ¬p b) → first p l = some j
  | [], _, _, h, _, _ => by simp at h
  | x :: l, 0, a, h, hp, _ => by simp at h; subst h; simp [first, hp]
  | x :: l, j + 1, a, h, hp, hn => by
    have h0 : ¬p x := hn 0 (by omega) x rfl
    rw [first, if_neg h0, first_some (l := l) (by simpa using h) hp fun i hi b hb => hn (i + 1) (by omega) b (by simpa using hb)]
    rfl
theorem first_none {α : Type} {p : α → Prop} [DecidablePred p] : ∀ {l : List α}, (∀ (i : Nat) (b : α), l[i]? = some b → ¬p b) → first p l = none
  | [], _ => rfl
  | x :: l, hn => by
    rw [first, if_neg (hn 0 x rfl), first_none (l := l) fun i b hb => hn (i + 1) b (by simpa using hb)]
    rfl
theorem first_lt {α : Type} {p : α → Prop} [DecidablePred p] : ∀ {l : List α} {j : Nat}, first p l = some j → ∃ a, l[j]? = some a ∧ p a
  | [], _, h => by cases h
  | x :: l, j, h => by
    rw [first] at h
    split at h
    · rename_i hp; cases h; exact ⟨x, rfl, hp⟩
    · cases hf : first p l with
      | none => rw [hf] at h; cases h
      | some i => rw [hf] at h; cases h; obtain ⟨a, ha, hp⟩ := first_lt hf; exact ⟨a, by simpa using ha, hp⟩
structure Entry where
  kind : Int
  decl : Int
  item : Int
  params : Int
  type : Term
def Entry.Enc (x : Entry) (r : List Imm) : Prop := ∃ t0 t1 t2 t3 t4, r = [.i .i64 x.kind, .i .i64 x.decl, .i .i64 x.item, .i .i64 x.params, t0, t1, t2, t3, t4] ∧ x.type.Enc [t0, t1, t2, t3, t4]
def Decl.ctorAt (d : Decl) (s : ByteArray) : Option Nat := first (fun c : Ctor => c.name = s) d.ctors
def Decl.funAt (d : Decl) (s : ByteArray) : Option Nat := first (fun c : Fn => c.name = s) d.funs
/-- What a declaration says of a name. -/
def Decl.entry (d : Decl) (at_ : Int) (s : ByteArray) : Entry :=
  if d.kind = 0 then ⟨0, at_, 0, d.params, d.type⟩
  else if d.kind = 1 then ⟨1, at_, 0, d.params, d.type⟩
  else if d.kind = 2 then ⟨2, at_, 0, d.params, d.type⟩
  else if d.kind = 3 then
    if s = d.name then ⟨3, at_, 0, d.params, d.type⟩
    else match d.ctorAt s with
      | some i => ⟨4, at_, i, d.params, ((d.ctors[i]?).map (·.type)).getD d.type⟩
      | none => ⟨5, at_, 0, d.recParams, d.recType⟩
  else match d.funAt s with
    | some i => ⟨6, at_, i, d.params, ((d.funs[i]?).map (·.type)).getD d.type⟩
    | none => ⟨0, at_, 0, d.params, d.type⟩
theorem ares_cell {P : Program} {fr : Fr} {H : AHeap} (a : Nat) (t : TypeId) (rest : List ResultVar) : aresult P fr H (.cell a t :: rest) = (aload P t H (gd (lk a fr))).bind fun v => (aresult P fr H rest).map (v :: ·) := by
  rw [aresult, Frget_eq]; cases aload P t H (gd (lk a fr)) <;> rfl
attribute [go_sem] ares_cell
theorem f72 (d : Decl) (r : List Imm) (x : Int) (s : ByteArray) (h : d.Enc r) : PF cx 72 [.agg r, .i .i64 x, .s s] fun y => ∃ r, y = .agg r ∧ (d.entry x s).Enc r := by
  refine PF.intro (fn := Try.f72) Try.func72 rfl rfl ?_
  obtain ⟨t0, t1, t2, t3, t4, v0, v1, v2, v3, v4, cz, ct, ces, u0, u1, u2, u3, u4, rz, rt, res, fz, ft, fes, rfl, hdk, hdn, hdp, hT, hV, hdf, hcz, hcl, hC, hrp, hU, hrz, hrl, hR, hfz, hfl, hF, hTn⟩ := h
  simp -implicitDefEqProofs only [↓W_seq, go_sem, ↓reduceIte, Nat.reduceBEq, Nat.reduceAdd, Nat.reduceLeDiff, Nat.reduceEqDiff, reduceCtorEq, Int.reduceToNat, Int.reduceLE, Int.reduceLT, Int.reduceEq, Int.reduceNeg, Nat.reduceLT, Nat.reduceSub, Nat.reduceMul]
  have hE : ∀ y : Entry, d.entry x s = y → ∀ t0 t1 t2 t3 t4, y.type.Enc [t0, t1, t2, t3, t4] → ∃ d_1, AV.im (.agg [.i .i64 y.kind, .i .i64 y.decl, .i .i64 y.item, .i .i64 y.params, t0, t1, t2, t3, t4]) = .im d_1 ∧ ∃ r, d_1 = .agg r ∧ (d.entry x s).Enc r := by
    rintro y rfl t0 t1 t2 t3 t4 ht
    exact ⟨_, rfl, _, rfl, _, _, _, _, _, rfl, ht⟩
  refine kcd_b (fun e0 => ?_) (fun e0 => ?_) <;> simp -implicitDefEqProofs only [↓W_seq, go_sem, ↓reduceIte, Nat.reduceBEq, Nat.reduceAdd, Nat.reduceLeDiff, Nat.reduceEqDiff, reduceCtorEq, Int.reduceToNat, Int.reduceLE, Int.reduceLT, Int.reduceEq, Int.reduceNeg, Nat.reduceLT, Nat.reduceSub, Nat.reduceMul, e0]
  · exact hE ⟨0, x, 0, d.params, d.type⟩ (by rw [Decl.entry, if_pos (of_decide_eq_true e0)]) _ _ _ _ _ hT
  have e0 := of_decide_eq_false e0
  refine kcd_b (fun e1 => ?_) (fun e1 => ?_) <;> simp -implicitDefEqProofs only [↓W_seq, go_sem, ↓reduceIte, Nat.reduceBEq, Nat.reduceAdd, Nat.reduceLeDiff, Nat.reduceEqDiff, reduceCtorEq, Int.reduceToNat, Int.reduceLE, Int.reduceLT, Int.reduceEq, Int.reduceNeg, Nat.reduceLT, Nat.reduceSub, Nat.reduceMul, e1]
  · exact hE ⟨1, x, 0, d.params, d.type⟩ (by rw [Decl.entry, if_neg e0, if_pos (of_decide_eq_true e1)]) _ _ _ _ _ hT
  have e1 := of_decide_eq_false e1
  refine kcd_b (fun e2 => ?_) (fun e2 => ?_) <;> simp -implicitDefEqProofs only [↓W_seq, go_sem, ↓reduceIte, Nat.reduceBEq, Nat.reduceAdd, Nat.reduceLeDiff, Nat.reduceEqDiff, reduceCtorEq, Int.reduceToNat, Int.reduceLE, Int.reduceLT, Int.reduceEq, Int.reduceNeg, Nat.reduceLT, Nat.reduceSub, Nat.reduceMul, e2]
  · exact hE ⟨2, x, 0, d.params, d.type⟩ (by rw [Decl.entry, if_neg e0, if_neg e1, if_pos (of_decide_eq_true e2)]) _ _ _ _ _ hT
  have e2 := of_decide_eq_false e2
  refine kcd_b (fun e3 => ?_) (fun e3 => ?_) <;> simp -implicitDefEqProofs only [↓W_seq, go_sem, ↓reduceIte, Nat.reduceBEq, Nat.reduceAdd, Nat.reduceLeDiff, Nat.reduceEqDiff, reduceCtorEq, Int.reduceToNat, Int.reduceLE, Int.reduceLT, Int.reduceEq, Int.reduceNeg, Nat.reduceLT, Nat.reduceSub, Nat.reduceMul, e3]
  · have e3 := of_decide_eq_true e3
    refine kcd_b (fun e4 => ?_) (fun e4 => ?_) <;> simp -implicitDefEqProofs only [↓W_seq, go_sem, ↓reduceIte, Nat.reduceBEq, Nat.reduceAdd, Nat.reduceLeDiff, Nat.reduceEqDiff, reduceCtorEq, Int.reduceToNat, Int.reduceLE, Int.reduceLT, Int.reduceEq, Int.reduceNeg, Nat.reduceLT, Nat.reduceSub, Nat.reduceMul, e4]
    · exact hE ⟨3, x, 0, d.params, d.type⟩ (by rw [Decl.entry, if_neg e0, if_neg e1, if_neg e2, if_pos e3, if_pos (of_decide_eq_true e4)]) _ _ _ _ _ hT
    have e4 := of_decide_eq_false e4
    refine WL.upto ces.length (fun j st => (∀ i, i < j → ∀ c : Ctor, d.ctors[i]? = some c → ¬c.name = s) ∧ ∃ H, st = ⟨[(1, .im (.i .i64 x)), (2, .im (.s s)), (3, .im (.ip 23 false [[.i .i64 d.kind, .s d.name, .i .i64 d.params, t0, t1, t2, t3, t4, v0, v1, v2, v3, v4, .i .i64 d.fixed, .sl cz false ct ces, .i .i64 d.recParams, u0, u1, u2, u3, u4, .sl rz false rt res, .sl fz false ft fes]] 0 0)), (6, .ptr 0 1 0 0), (8, .im (.i .i64 j))], [], .row [[.im (.i .i64 0), .im (.i .i64 0), .im (.i .i64 0), .im (.i .i64 0), .im (.i .i64 0), .im (.i .i64 0), .im (.s ByteArray.empty), .im (.sl 1 false true []), .im (.sl 1 false true [])]] 9 44 :: H⟩) ?_ ⟨by omega, _, rfl⟩
    rintro j st hj ⟨hI, H, rfl⟩
    simp -implicitDefEqProofs only [↓W_seq, go_sem, ↓reduceIte, Nat.reduceBEq, Nat.reduceAdd, Nat.reduceLeDiff, Nat.reduceEqDiff, reduceCtorEq, Int.reduceToNat, Int.reduceLE, Int.reduceLT, Int.reduceEq, Int.reduceNeg, Nat.reduceLT, Nat.reduceSub, Nat.reduceMul]
    refine kcd_dec (fun h1 => ?_) (fun h1 => ?_)
    · have hj1 : j < ces.length := by omega
      obtain ⟨rfl, a, r, ha, hr, x0, x1, x2, x3, x4, rfl, hx, hX, hXn⟩ := hC.at hcz hj1
      simp -implicitDefEqProofs only [↓W_seq, go_sem, ↓reduceIte, Nat.reduceBEq, Nat.reduceAdd, Nat.reduceLeDiff, Nat.reduceEqDiff, reduceCtorEq, Int.reduceToNat, Int.reduceLE, Int.reduceLT, Int.reduceEq, Int.reduceNeg, Nat.reduceLT, Nat.reduceSub, Nat.reduceMul, hj1, hr]
      refine kcd_b (fun h2 => ?_) (fun h2 => ?_) <;> simp -implicitDefEqProofs only [↓W_seq, go_sem, ↓reduceIte, Nat.reduceBEq, Nat.reduceAdd, Nat.reduceLeDiff, Nat.reduceEqDiff, reduceCtorEq, Int.reduceToNat, Int.reduceLE, Int.reduceLT, Int.reduceEq, Int.reduceNeg, Nat.reduceLT, Nat.reduceSub, Nat.reduceMul, h2, hj1, hr, wrap_succ hj1 hcl]
      · refine hE ⟨4, x, j, d.params, a.type⟩ ?_ _ _ _ _ _ hX
        have hf : d.ctorAt s = some j := first_some ha (of_decide_eq_true h2) hI
        rw [Decl.entry, if_neg e0, if_neg e1, if_neg e2, if_pos e3, if_neg e4, hf]
        simp only [ha, Option.map_some, Option.getD_some]
      · refine ⟨fun i hi c hc => ?_, _, rfl⟩
        rcases Nat.lt_succ_iff_lt_or_eq.1 hi with hi | rfl
        · exact hI i hi c hc
        · rw [ha] at hc; cases hc; exact of_decide_eq_false h2
    · simp -implicitDefEqProofs only [↓W_seq, go_sem, ↓reduceIte, Nat.reduceBEq, Nat.reduceAdd, Nat.reduceLeDiff, Nat.reduceEqDiff, reduceCtorEq, Int.reduceToNat, Int.reduceLE, Int.reduceLT, Int.reduceEq, Int.reduceNeg, Nat.reduceLT, Nat.reduceSub, Nat.reduceMul]
      have hj' : j = ces.length := by omega
      refine hE ⟨5, x, 0, d.recParams, d.recType⟩ ?_ _ _ _ _ _ hU
      have hf : d.ctorAt s = none := first_none fun i b hb => hI i (by have := (List.getElem?_eq_some_iff.1 hb).1; rw [hC.length] at this; omega) b hb
      rw [Decl.entry, if_neg e0, if_neg e1, if_neg e2, if_pos e3, if_neg e4, hf]
  · have e3 := of_decide_eq_false e3
    refine WL.upto fes.length (fun j st => (∀ i, i < j → ∀ c : Fn, d.funs[i]? = some c → ¬c.name = s) ∧ st = ⟨[(1, .im (.i .i64 x)), (2, .im (.s s)), (3, .im (.ip 23 false [[.i .i64 d.kind, .s d.name, .i .i64 d.params, t0, t1, t2, t3, t4, v0, v1, v2, v3, v4, .i .i64 d.fixed, .sl cz false ct ces, .i .i64 d.recParams, u0, u1, u2, u3, u4, .sl rz false rt res, .sl fz false ft fes]] 0 0)), (6, .ptr 0 1 0 0), (7, .ptr 1 1 0 0), (9, .im (.i .i64 j))], [], [.row [[.im (.i .i64 0), .im (.i .i64 0), .im (.i .i64 0), .im (.i .i64 0), .im (.i .i64 0), .im (.i .i64 0), .im (.s ByteArray.empty), .im (.sl 1 false true []), .im (.sl 1 false true [])]] 9 44, .row [[.im (.i .i64 0), .im (.i .i64 x), .im (.i .i64 0), .im (.i .i64 d.params), .im t0, .im t1, .im t2, .im t3, .im t4]] 9 44]⟩) ?_ ⟨by omega, rfl⟩
    rintro j st hj ⟨hI, rfl⟩
    simp -implicitDefEqProofs only [↓W_seq, go_sem, ↓reduceIte, Nat.reduceBEq, Nat.reduceAdd, Nat.reduceLeDiff, Nat.reduceEqDiff, reduceCtorEq, Int.reduceToNat, Int.reduceLE, Int.reduceLT, Int.reduceEq, Int.reduceNeg, Nat.reduceLT, Nat.reduceSub, Nat.reduceMul]
    refine kcd_dec (fun h1 => ?_) (fun h1 => ?_)
    · have hj1 : j < fes.length := by omega
      obtain ⟨rfl, a, r, ha, hr, x0, x1, x2, x3, x4, y0, y1, y2, y3, y4, y5, y6, y7, rfl, hx, hX, hy, hY⟩ := hF.at hfz hj1
      simp -implicitDefEqProofs only [↓W_seq, go_sem, ↓reduceIte, Nat.reduceBEq, Nat.reduceAdd, Nat.reduceLeDiff, Nat.reduceEqDiff, reduceCtorEq, Int.reduceToNat, Int.reduceLE, Int.reduceLT, Int.reduceEq, Int.reduceNeg, Nat.reduceLT, Nat.reduceSub, Nat.reduceMul, hj1, hr]
      refine kcd_b (fun h2 => ?_) (fun h2 => ?_) <;> simp -implicitDefEqProofs only [↓W_seq, go_sem, ↓reduceIte, Nat.reduceBEq, Nat.reduceAdd, Nat.reduceLeDiff, Nat.reduceEqDiff, reduceCtorEq, Int.reduceToNat, Int.reduceLE, Int.reduceLT, Int.reduceEq, Int.reduceNeg, Nat.reduceLT, Nat.reduceSub, Nat.reduceMul, h2, hj1, hr, wrap_succ hj1 hfl]
      · refine hE ⟨6, x, j, d.params, a.type⟩ ?_ _ _ _ _ _ hX
        have hf : d.funAt s = some j := first_some ha (of_decide_eq_true h2) hI
        rw [Decl.entry, if_neg e0, if_neg e1, if_neg e2, if_neg e3, hf]
        simp only [ha, Option.map_some, Option.getD_some]
      · intro i hi c hc
        rcases Nat.lt_succ_iff_lt_or_eq.1 hi with hi | rfl
        · exact hI i hi c hc
        · rw [ha] at hc; cases hc; exact of_decide_eq_false h2
    · simp -implicitDefEqProofs only [↓W_seq, go_sem, ↓reduceIte, Nat.reduceBEq, Nat.reduceAdd, Nat.reduceLeDiff, Nat.reduceEqDiff, reduceCtorEq, Int.reduceToNat, Int.reduceLE, Int.reduceLT, Int.reduceEq, Int.reduceNeg, Nat.reduceLT, Nat.reduceSub, Nat.reduceMul]
      have hj' : j = fes.length := by omega
      refine hE ⟨0, x, 0, d.params, d.type⟩ ?_ _ _ _ _ _ hT
      have hf : d.funAt s = none := first_none fun i b hb => hI i (by have := (List.getElem?_eq_some_iff.1 hb).1; rw [hF.length] at this; omega) b hb
      rw [Decl.entry, if_neg e0, if_neg e1, if_neg e2, if_neg e3, hf]
def dotRec : ByteArray := ⟨#[46, 114, 101, 99]⟩
theorem split_at {a n : ByteArray} {k : Nat} (h : k ≤ a.size) : a.extract 0 k ++ a.extract k a.size = a := by
  apply ByteArray.ext
  simp only [ByteArray.data_append, ByteArray.data_extract]
  have hs : a.size = a.data.size := rfl
  rw [hs, Array.extract_append_extract]
  simp only [Nat.zero_min]
  rw [Nat.max_eq_right (by omega)]
  exact Array.extract_size
theorem rec_iff {a n : ByteArray} (h : a.size = n.size + 4) : (a.extract 0 n.size = n ∧ a.extract n.size a.size = dotRec) ↔ a = n ++ dotRec := by
  constructor
  · rintro ⟨h1, h2⟩
    rw [← split_at (a := a) (n := n) (k := n.size) (by omega), h1, h2]
  · intro e
    subst e
    have hd : dotRec.size = 4 := rfl
    constructor
    · apply ByteArray.ext
      simp only [ByteArray.data_append, ByteArray.data_extract]
      have hs : n.size = n.data.size := rfl
      rw [hs, Array.extract_append_left]
      simp
    · apply ByteArray.ext
      simp only [ByteArray.data_append, ByteArray.data_extract, ByteArray.size_append]
      have hs : n.size = n.data.size := rfl
      have hs' : dotRec.size = dotRec.data.size := rfl
      rw [hs, hs', Array.extract_append_right]
      simp
def Decl.declares (d : Decl) (s : ByteArray) : Prop :=
  ((d.kind = 0 ∨ d.kind = 1 ∨ d.kind = 2) ∧ s = d.name) ∨ (d.kind = 3 ∧ ((∃ c ∈ d.ctors, c.name = s) ∨ s = d.name ∨ s = d.name ++ dotRec)) ∨ (d.kind = 4 ∧ ∃ c ∈ d.funs, c.name = s)
theorem f71 (d : Decl) (r : List Imm) (s : ByteArray) (h : d.Enc r) (hs : s.size ≤ 4 * lim) : PF cx 71 [.agg r, .s s] (EqB (d.declares s)) := by
  refine PF.intro (fn := Try.f71) Try.func71 rfl rfl ?_
  obtain ⟨t0, t1, t2, t3, t4, v0, v1, v2, v3, v4, cz, ct, ces, u0, u1, u2, u3, u4, rz, rt, res, fz, ft, fes, rfl, hdk, hdn, hdp, hT, hV, hdf, hcz, hcl, hC, hrp, hU, hrz, hrl, hR, hfz, hfl, hF, hTn⟩ := h
  have hdk0 : ∀ {p : Prop}, (d.kind = 0 ∨ d.kind = 1 ∨ d.kind = 2) → (d.declares s ↔ s = d.name) := fun {p} hk => by
    unfold Decl.declares
    constructor
    · rintro (h | h | h)
      · exact h.2
      · have := h.1; omega
      · have := h.1; omega
    · exact fun h => .inl ⟨hk, h⟩
  simp -implicitDefEqProofs only [↓W_seq, go_sem, ↓reduceIte, Nat.reduceBEq, Nat.reduceAdd, Nat.reduceLeDiff, Nat.reduceEqDiff, reduceCtorEq, Int.reduceToNat, Int.reduceLE, Int.reduceLT, Int.reduceEq, Int.reduceNeg, Nat.reduceLT, Nat.reduceSub, Nat.reduceMul]
  refine kcd_b (fun e0 => ?_) (fun e0 => ?_) <;> simp -implicitDefEqProofs only [↓W_seq, go_sem, ↓reduceIte, Nat.reduceBEq, Nat.reduceAdd, Nat.reduceLeDiff, Nat.reduceEqDiff, reduceCtorEq, Int.reduceToNat, Int.reduceLE, Int.reduceLT, Int.reduceEq, Int.reduceNeg, Nat.reduceLT, Nat.reduceSub, Nat.reduceMul, e0]
  · exact ⟨_, rfl, _, rfl, by rw [decide_eq_true_eq, hdk0 (p := True) (.inl (of_decide_eq_true e0))]⟩
  refine kcd_b (fun e1 => ?_) (fun e1 => ?_) <;> simp -implicitDefEqProofs only [↓W_seq, go_sem, ↓reduceIte, Nat.reduceBEq, Nat.reduceAdd, Nat.reduceLeDiff, Nat.reduceEqDiff, reduceCtorEq, Int.reduceToNat, Int.reduceLE, Int.reduceLT, Int.reduceEq, Int.reduceNeg, Nat.reduceLT, Nat.reduceSub, Nat.reduceMul, e1]
  · exact ⟨_, rfl, _, rfl, by rw [decide_eq_true_eq, hdk0 (p := True) (.inr (.inl (of_decide_eq_true e1)))]⟩
  refine kcd_b (fun e2 => ?_) (fun e2 => ?_) <;> simp -implicitDefEqProofs only [↓W_seq, go_sem, ↓reduceIte, Nat.reduceBEq, Nat.reduceAdd, Nat.reduceLeDiff, Nat.reduceEqDiff, reduceCtorEq, Int.reduceToNat, Int.reduceLE, Int.reduceLT, Int.reduceEq, Int.reduceNeg, Nat.reduceLT, Nat.reduceSub, Nat.reduceMul, e2]
  · exact ⟨_, rfl, _, rfl, by rw [decide_eq_true_eq, hdk0 (p := True) (.inr (.inr (of_decide_eq_true e2)))]⟩
  have e0 := of_decide_eq_false e0
  have e1 := of_decide_eq_false e1
  have e2 := of_decide_eq_false e2
  refine kcd_b (fun e3 => ?_) (fun e3 => ?_) <;> simp -implicitDefEqProofs only [↓W_seq, go_sem, ↓reduceIte, Nat.reduceBEq, Nat.reduceAdd, Nat.reduceLeDiff, Nat.reduceEqDiff, reduceCtorEq, Int.reduceToNat, Int.reduceLE, Int.reduceLT, Int.reduceEq, Int.reduceNeg, Nat.reduceLT, Nat.reduceSub, Nat.reduceMul, e3]
  · have e3 := of_decide_eq_true e3
    have h3 : d.declares s ↔ ((∃ c ∈ d.ctors, c.name = s) ∨ s = d.name ∨ s = d.name ++ dotRec) := by
      unfold Decl.declares
      constructor
      · rintro (h | h | h)
        · have := h.1; omega
        · exact h.2
        · have := h.1; omega
      · exact fun h => .inr (.inl ⟨e3, h⟩)
    refine WL.upto ces.length (fun j st => (∀ i, i < j → ∀ c : Ctor, d.ctors[i]? = some c → ¬c.name = s) ∧ st = ⟨[(1, .im (.s s)), (2, .im (.ip 23 false [[.i .i64 d.kind, .s d.name, .i .i64 d.params, t0, t1, t2, t3, t4, v0, v1, v2, v3, v4, .i .i64 d.fixed, .sl cz false ct ces, .i .i64 d.recParams, u0, u1, u2, u3, u4, .sl rz false rt res, .sl fz false ft fes]] 0 0)), (5, .im (.i .i64 j))], [], []⟩) ?_ ⟨by omega, rfl⟩
    rintro j st hj ⟨hI, rfl⟩
    simp -implicitDefEqProofs only [↓W_seq, go_sem, ↓reduceIte, Nat.reduceBEq, Nat.reduceAdd, Nat.reduceLeDiff, Nat.reduceEqDiff, reduceCtorEq, Int.reduceToNat, Int.reduceLE, Int.reduceLT, Int.reduceEq, Int.reduceNeg, Nat.reduceLT, Nat.reduceSub, Nat.reduceMul]
    refine kcd_dec (fun h1 => ?_) (fun h1 => ?_)
    · have hj1 : j < ces.length := by omega
      obtain ⟨rfl, a, r, ha, hr, x0, x1, x2, x3, x4, rfl, hx, hX, hXn⟩ := hC.at hcz hj1
      simp -implicitDefEqProofs only [↓W_seq, go_sem, ↓reduceIte, Nat.reduceBEq, Nat.reduceAdd, Nat.reduceLeDiff, Nat.reduceEqDiff, reduceCtorEq, Int.reduceToNat, Int.reduceLE, Int.reduceLT, Int.reduceEq, Int.reduceNeg, Nat.reduceLT, Nat.reduceSub, Nat.reduceMul, hj1, hr]
      refine kcd_b (fun h2 => ?_) (fun h2 => ?_) <;> simp -implicitDefEqProofs only [↓W_seq, go_sem, ↓reduceIte, Nat.reduceBEq, Nat.reduceAdd, Nat.reduceLeDiff, Nat.reduceEqDiff, reduceCtorEq, Int.reduceToNat, Int.reduceLE, Int.reduceLT, Int.reduceEq, Int.reduceNeg, Nat.reduceLT, Nat.reduceSub, Nat.reduceMul, h2, hj1, hr, wrap_succ hj1 hcl]
      · exact ⟨_, rfl, .t (h3.2 (.inl ⟨a, List.mem_of_getElem? ha, of_decide_eq_true h2⟩))⟩
      · intro i hi c hc
        rcases Nat.lt_succ_iff_lt_or_eq.1 hi with hi | rfl
        · exact hI i hi c hc
        · rw [ha] at hc; cases hc; exact of_decide_eq_false h2
    · simp -implicitDefEqProofs only [↓W_seq, go_sem, ↓reduceIte, Nat.reduceBEq, Nat.reduceAdd, Nat.reduceLeDiff, Nat.reduceEqDiff, reduceCtorEq, Int.reduceToNat, Int.reduceLE, Int.reduceLT, Int.reduceEq, Int.reduceNeg, Nat.reduceLT, Nat.reduceSub, Nat.reduceMul]
      have hno : ¬∃ c ∈ d.ctors, c.name = s := by
        rintro ⟨c, hc, e⟩
        obtain ⟨i, hi⟩ := List.getElem?_of_mem hc
        exact hI i (by have := (List.getElem?_eq_some_iff.1 hi).1; rw [hC.length] at this; omega) c hi e
      simp only [hno, false_or] at h3
      have hlim : lim = 1073741824 := rfl
      have hw : IntKind.i64.wrap ((d.name.size : Int) + 4) = ((d.name.size + 4 : Nat) : Int) := by rw [wrap_id] <;> omega
      refine kdb_b (fun h4 => ?_) (fun h4 => ?_) <;> simp -implicitDefEqProofs only [↓W_seq, go_sem, ↓reduceIte, Nat.reduceBEq, Nat.reduceAdd, Nat.reduceLeDiff, Nat.reduceEqDiff, reduceCtorEq, Int.reduceToNat, Int.reduceLE, Int.reduceLT, Int.reduceEq, Int.reduceNeg, Nat.reduceLT, Nat.reduceSub, Nat.reduceMul, h4, hw]
      · exact ⟨_, rfl, .t (h3.2 (.inl (of_decide_eq_true h4)))⟩
      have h4 := of_decide_eq_false h4
      refine kdb_b (fun h5 => ?_) (fun h5 => ?_) <;> simp -implicitDefEqProofs only [↓W_seq, go_sem, ↓reduceIte, Nat.reduceBEq, Nat.reduceAdd, Nat.reduceLeDiff, Nat.reduceEqDiff, reduceCtorEq, Int.reduceToNat, Int.reduceLE, Int.reduceLT, Int.reduceEq, Int.reduceNeg, Nat.reduceLT, Nat.reduceSub, Nat.reduceMul, h5]
      · have h5 := of_decide_eq_true h5
        have hsz : s.size = d.name.size + 4 := by omega
        have hle : d.name.size ≤ s.size := by omega
        simp -implicitDefEqProofs only [↓W_seq, go_sem, ↓reduceIte, Nat.reduceBEq, Nat.reduceAdd, Nat.reduceLeDiff, Nat.reduceEqDiff, reduceCtorEq, Int.reduceToNat, Int.reduceLE, Int.reduceLT, Int.reduceEq, Int.reduceNeg, Nat.reduceLT, Nat.reduceSub, Nat.reduceMul, hle, Nat.zero_le, Nat.le_refl]
        have hd : s = d.name ++ dotRec ↔ _ := (rec_iff hsz).symm
        refine kdb_b (fun h6 => ?_) (fun h6 => ?_) <;> simp -implicitDefEqProofs only [↓W_seq, go_sem, ↓reduceIte, Nat.reduceBEq, Nat.reduceAdd, Nat.reduceLeDiff, Nat.reduceEqDiff, reduceCtorEq, Int.reduceToNat, Int.reduceLE, Int.reduceLT, Int.reduceEq, Int.reduceNeg, Nat.reduceLT, Nat.reduceSub, Nat.reduceMul, h6, hle, Nat.zero_le, Nat.le_refl]
        · refine ⟨_, rfl, _, rfl, ?_⟩
          rw [decide_eq_true_eq, h3, hd]
          exact ⟨fun e => .inr ⟨of_decide_eq_true h6, e⟩, fun h => h.elim (fun h => absurd h h4) (·.2)⟩
        · refine ⟨_, rfl, .f fun h => ?_⟩
          rcases h3.1 h with h | h
          · exact h4 h
          · exact of_decide_eq_false h6 (hd.1 h).1
      · have h5 := of_decide_eq_false h5
        refine ⟨_, rfl, .f fun hd => ?_⟩
        rcases h3.1 hd with h | h
        · exact h4 h
        · subst h
          rw [ByteArray.size_append] at h5
          exact h5 rfl
  have e3 := of_decide_eq_false e3
  refine kcd_b (fun e4 => ?_) (fun e4 => ?_) <;> simp -implicitDefEqProofs only [↓W_seq, go_sem, ↓reduceIte, Nat.reduceBEq, Nat.reduceAdd, Nat.reduceLeDiff, Nat.reduceEqDiff, reduceCtorEq, Int.reduceToNat, Int.reduceLE, Int.reduceLT, Int.reduceEq, Int.reduceNeg, Nat.reduceLT, Nat.reduceSub, Nat.reduceMul, e4]
  · have e4 := of_decide_eq_true e4
    have h3 : d.declares s ↔ (∃ c ∈ d.funs, c.name = s) := by
      unfold Decl.declares
      constructor
      · rintro (h | h | h)
        · have := h.1; omega
        · have := h.1; omega
        · exact h.2
      · exact fun h => .inr (.inr ⟨e4, h⟩)
    refine WL.upto fes.length (fun j st => (∀ i, i < j → ∀ c : Fn, d.funs[i]? = some c → ¬c.name = s) ∧ st = ⟨[(1, .im (.s s)), (2, .im (.ip 23 false [[.i .i64 d.kind, .s d.name, .i .i64 d.params, t0, t1, t2, t3, t4, v0, v1, v2, v3, v4, .i .i64 d.fixed, .sl cz false ct ces, .i .i64 d.recParams, u0, u1, u2, u3, u4, .sl rz false rt res, .sl fz false ft fes]] 0 0)), (7, .im (.i .i64 j))], [], []⟩) ?_ ⟨by omega, rfl⟩
    rintro j st hj ⟨hI, rfl⟩
    simp -implicitDefEqProofs only [↓W_seq, go_sem, ↓reduceIte, Nat.reduceBEq, Nat.reduceAdd, Nat.reduceLeDiff, Nat.reduceEqDiff, reduceCtorEq, Int.reduceToNat, Int.reduceLE, Int.reduceLT, Int.reduceEq, Int.reduceNeg, Nat.reduceLT, Nat.reduceSub, Nat.reduceMul]
    refine kcd_dec (fun h1 => ?_) (fun h1 => ?_)
    · have hj1 : j < fes.length := by omega
      obtain ⟨rfl, a, r, ha, hr, x0, x1, x2, x3, x4, y0, y1, y2, y3, y4, y5, y6, y7, rfl, hx, hX, hy, hY⟩ := hF.at hfz hj1
      simp -implicitDefEqProofs only [↓W_seq, go_sem, ↓reduceIte, Nat.reduceBEq, Nat.reduceAdd, Nat.reduceLeDiff, Nat.reduceEqDiff, reduceCtorEq, Int.reduceToNat, Int.reduceLE, Int.reduceLT, Int.reduceEq, Int.reduceNeg, Nat.reduceLT, Nat.reduceSub, Nat.reduceMul, hj1, hr]
      refine kcd_b (fun h2 => ?_) (fun h2 => ?_) <;> simp -implicitDefEqProofs only [↓W_seq, go_sem, ↓reduceIte, Nat.reduceBEq, Nat.reduceAdd, Nat.reduceLeDiff, Nat.reduceEqDiff, reduceCtorEq, Int.reduceToNat, Int.reduceLE, Int.reduceLT, Int.reduceEq, Int.reduceNeg, Nat.reduceLT, Nat.reduceSub, Nat.reduceMul, h2, hj1, hr, wrap_succ hj1 hfl]
      · exact ⟨_, rfl, .t (h3.2 ⟨a, List.mem_of_getElem? ha, of_decide_eq_true h2⟩)⟩
      · intro i hi c hc
        rcases Nat.lt_succ_iff_lt_or_eq.1 hi with hi | rfl
        · exact hI i hi c hc
        · rw [ha] at hc; cases hc; exact of_decide_eq_false h2
    · simp -implicitDefEqProofs only [↓W_seq, go_sem, ↓reduceIte, Nat.reduceBEq, Nat.reduceAdd, Nat.reduceLeDiff, Nat.reduceEqDiff, reduceCtorEq, Int.reduceToNat, Int.reduceLE, Int.reduceLT, Int.reduceEq, Int.reduceNeg, Nat.reduceLT, Nat.reduceSub, Nat.reduceMul]
      refine ⟨_, rfl, .f fun hd => ?_⟩
      obtain ⟨c, hc, e⟩ := h3.1 hd
      obtain ⟨i, hi⟩ := List.getElem?_of_mem hc
      exact hI i (by have := (List.getElem?_eq_some_iff.1 hi).1; rw [hF.length] at this; omega) c hi e
  · have e4 := of_decide_eq_false e4
    refine ⟨_, rfl, .f ?_⟩
    unfold Decl.declares
    rintro (h | h | h) <;> (have := h.1; omega)
/-- The first declaration that declares a name. -/
noncomputable def firstD (ds : List Decl) (s : ByteArray) : Option Nat := by
  classical exact first (fun d : Decl => d.declares s) ds
def zeroE : Entry := ⟨0, 0, 0, 0, zeroT⟩
/-- What is found of a name. -/
noncomputable def findE (ds : List Decl) (s : ByteArray) : Entry × Int :=
  match firstD ds s with
  | some i => (((ds[i]?).map (·.entry i s)).getD zeroE, 0)
  | none => (zeroE, 9)
theorem f24 (ds : List Decl) (es : List (List Imm)) (z : Nat) (q : Bool) (s : ByteArray) (h : All2 Decl.Enc ds es) (hz : z = 23 ∨ es = []) (hl : es.length ≤ lim) (hs : s.size ≤ 4 * lim) :
    PF cx 24 [.sl z false q es, .s s] fun y => ∃ r, y = .tup [.agg r, .i .i64 (findE ds s).2] ∧ (findE ds s).1.Enc r := by
  classical
  refine PF.intro (fn := Try.f24) Try.func24 rfl rfl ?_
  simp -implicitDefEqProofs only [↓W_seq, go_sem, ↓reduceIte, Nat.reduceBEq, Nat.reduceAdd, Nat.reduceLeDiff, Nat.reduceEqDiff, reduceCtorEq, Int.reduceToNat, Int.reduceLE, Int.reduceLT, Int.reduceEq, Int.reduceNeg, Nat.reduceLT, Nat.reduceSub, Nat.reduceMul]
  refine WL.upto es.length (fun j st => (∀ i, i < j → ∀ d : Decl, ds[i]? = some d → ¬d.declares s) ∧ st = ⟨[(0, .im (.sl z false q es)), (1, .im (.s s)), (4, .ptr 0 1 0 0), (6, .im (.i .i64 j))], [], [.row [[.im (.i .i64 0), .im (.i .i64 0), .im (.i .i64 0), .im (.i .i64 0), .im (.i .i64 0), .im (.i .i64 0), .im (.s ByteArray.empty), .im (.sl 1 false true []), .im (.sl 1 false true [])]] 9 44]⟩) ?_ ⟨by omega, rfl⟩
  rintro j st hj ⟨hI, rfl⟩
  simp -implicitDefEqProofs only [↓W_seq, go_sem, ↓reduceIte, Nat.reduceBEq, Nat.reduceAdd, Nat.reduceLeDiff, Nat.reduceEqDiff, reduceCtorEq, Int.reduceToNat, Int.reduceLE, Int.reduceLT, Int.reduceEq, Int.reduceNeg, Nat.reduceLT, Nat.reduceSub, Nat.reduceMul]
  refine kcd_dec (fun h1 => ?_) (fun h1 => ?_)
  · have hj1 : j < es.length := by omega
    obtain ⟨rfl, d, r, hd, hr, hE⟩ := h.at hz hj1
    simp -implicitDefEqProofs only [↓W_seq, go_sem, ↓reduceIte, Nat.reduceBEq, Nat.reduceAdd, Nat.reduceLeDiff, Nat.reduceEqDiff, reduceCtorEq, Int.reduceToNat, Int.reduceLE, Int.reduceLT, Int.reduceEq, Int.reduceNeg, Nat.reduceLT, Nat.reduceSub, Nat.reduceMul, hj1, hr, sub_all hE.length]
    refine WC.pf (f71 d r s hE hs) rfl rfl ?_
    rintro _ ⟨b, rfl, hb⟩
    simp -implicitDefEqProofs only [↓W_seq, go_sem, ↓reduceIte, Nat.reduceBEq, Nat.reduceAdd, Nat.reduceLeDiff, Nat.reduceEqDiff, reduceCtorEq, Int.reduceToNat, Int.reduceLE, Int.reduceLT, Int.reduceEq, Int.reduceNeg, Nat.reduceLT, Nat.reduceSub, Nat.reduceMul]
    refine kcd_b (fun h2 => ?_) (fun h2 => ?_) <;> simp -implicitDefEqProofs only [↓W_seq, go_sem, ↓reduceIte, Nat.reduceBEq, Nat.reduceAdd, Nat.reduceLeDiff, Nat.reduceEqDiff, reduceCtorEq, Int.reduceToNat, Int.reduceLE, Int.reduceLT, Int.reduceEq, Int.reduceNeg, Nat.reduceLT, Nat.reduceSub, Nat.reduceMul, h2, hj1, hr, sub_all hE.length, wrap_succ hj1 hl]
    · refine WC.pf (f72 d r j s hE) rfl rfl ?_
      rintro _ ⟨r', rfl, hr'⟩
      obtain ⟨x0, x1, x2, x3, x4, rfl, hx⟩ := hr'
      simp -implicitDefEqProofs only [↓W_seq, go_sem, ↓reduceIte, Nat.reduceBEq, Nat.reduceAdd, Nat.reduceLeDiff, Nat.reduceEqDiff, reduceCtorEq, Int.reduceToNat, Int.reduceLE, Int.reduceLT, Int.reduceEq, Int.reduceNeg, Nat.reduceLT, Nat.reduceSub, Nat.reduceMul]
      have hf : firstD ds s = some j := first_some hd (hb.1 h2) hI
      have hfe : findE ds s = (d.entry j s, 0) := by unfold findE; rw [hf]; simp only [hd, Option.map_some, Option.getD_some]
      rw [hfe]
      exact ⟨_, rfl, _, rfl, _, _, _, _, _, rfl, hx⟩
    · intro i hi c hc
      rcases Nat.lt_succ_iff_lt_or_eq.1 hi with hi | rfl
      · exact hI i hi c hc
      · rw [hd] at hc; cases hc; rw [h2] at hb; exact fun h => absurd (hb.2 h) (by simp)
  · simp -implicitDefEqProofs only [↓W_seq, go_sem, ↓reduceIte, Nat.reduceBEq, Nat.reduceAdd, Nat.reduceLeDiff, Nat.reduceEqDiff, reduceCtorEq, Int.reduceToNat, Int.reduceLE, Int.reduceLT, Int.reduceEq, Int.reduceNeg, Nat.reduceLT, Nat.reduceSub, Nat.reduceMul]
    have hf : firstD ds s = none := first_none fun i b hb => hI i (by have := (List.getElem?_eq_some_iff.1 hb).1; rw [h.length] at this; omega) b hb
    have hfe : findE ds s = (zeroE, 9) := by unfold findE; rw [hf]
    rw [hfe]
    exact ⟨_, rfl, _, rfl, _, _, _, _, _, rfl, zeroT_enc⟩
/-- A list of strings. -/
def StrL (y : Imm) (ss : List ByteArray) : Prop := ∃ es z t, y = .sl z false t es ∧ All2 EncS ss es ∧ (z = 1 ∨ es = []) ∧ es.length ≤ 2 * lim ∧ ∀ s ∈ ss, s.size ≤ 2 * lim
def Decl.names (d : Decl) : List ByteArray :=
  if d.kind = 0 ∨ d.kind = 1 ∨ d.kind = 2 then [d.name]
  else if d.kind = 3 then d.name :: (d.ctors.map (·.name) ++ [d.name ++ dotRec])
  else if d.kind = 4 then d.funs.map (·.name) else []
theorem All2.snoc {α β : Type} {R : α → β → Prop} {a : α} {b : β} : ∀ {l : List α} {m : List β}, All2 R l m → R a b → All2 R (l ++ [a]) (m ++ [b])
  | [], [], _, h => ⟨h, trivial⟩
  | _ :: _, _ :: _, h, h' => ⟨h.1, All2.snoc h.2 h'⟩
  | [], _ :: _, h, _ => h.elim
  | _ :: _, [], h, _ => h.elim
theorem take_snoc {α : Type} {l : List α} {j : Nat} {a : α} (h : l[j]? = some a) : l.take (j + 1) = l.take j ++ [a] := by
  rw [List.take_add_one, h]; rfl
def NamesSt (fr : AV → Fr) (nm : ByteArray) (xs : List ByteArray) (j : Nat) (st : St) : Prop :=
  (st = ⟨fr (.im (.sl 1 false true [[.s nm]])), [], [.row [] 1 9]⟩ ∧ j = 0) ∨
  (0 < j ∧ ∃ es, All2 EncS (nm :: xs.take j) es ∧ es.length = j + 1 ∧ st = ⟨fr (.sl 1 (j + 1) 0 (j + 1)), [], [.row [] 1 9, .row (es.map (·.map .im)) 1 9]⟩)
def FunsSt (fr : AV → Fr) (xs : List ByteArray) (j : Nat) (st : St) : Prop :=
  ∃ es, All2 EncS (xs.take j) es ∧ es.length = j ∧ st = ⟨fr (.sl 1 j 0 j), [], [.row [] 1 9, .row (es.map (·.map .im)) 1 9]⟩
theorem f83 (d : Decl) (r : List Imm) (h : d.Enc r) : PV cx 83 [.agg r] fun y => StrL y d.names := by
  refine PV.intro (fn := Try.f83) Try.func83 rfl rfl ?_
  obtain ⟨t0, t1, t2, t3, t4, v0, v1, v2, v3, v4, cz, ct, ces, u0, u1, u2, u3, u4, rz, rt, res, fz, ft, fes, rfl, hdk, hdn, hdp, hT, hV, hdf, hcz, hcl, hC, hrp, hU, hrz, hrl, hR, hfz, hfl, hF, hTn⟩ := h
  have hlim : lim = 1073741824 := rfl
  have h1 : ∀ (t : Bool), d.kind = 0 ∨ d.kind = 1 ∨ d.kind = 2 → StrL (.sl 1 false t [[.s d.name]]) d.names := fun t hk => by
    unfold Decl.names; rw [if_pos hk]
    exact ⟨_, _, _, rfl, ⟨rfl, trivial⟩, .inl rfl, by simp; omega, by simp; omega⟩
  simp -implicitDefEqProofs only [↓W_seq, go_sem, ↓reduceIte, Nat.reduceBEq, Nat.reduceAdd, Nat.reduceLeDiff, Nat.reduceEqDiff, reduceCtorEq, Int.reduceToNat, Int.reduceLE, Int.reduceLT, Int.reduceEq, Int.reduceNeg, Nat.reduceLT, Nat.reduceSub, Nat.reduceMul]
  refine kcd_b (fun e0 => ?_) (fun e0 => ?_) <;> simp -implicitDefEqProofs only [↓W_seq, go_sem, ↓reduceIte, Nat.reduceBEq, Nat.reduceAdd, Nat.reduceLeDiff, Nat.reduceEqDiff, reduceCtorEq, Int.reduceToNat, Int.reduceLE, Int.reduceLT, Int.reduceEq, Int.reduceNeg, Nat.reduceLT, Nat.reduceSub, Nat.reduceMul, e0]
  · exact ⟨_, view_im _ _ _ _, h1 _ (.inl (of_decide_eq_true e0))⟩
  refine kcd_b (fun e1 => ?_) (fun e1 => ?_) <;> simp -implicitDefEqProofs only [↓W_seq, go_sem, ↓reduceIte, Nat.reduceBEq, Nat.reduceAdd, Nat.reduceLeDiff, Nat.reduceEqDiff, reduceCtorEq, Int.reduceToNat, Int.reduceLE, Int.reduceLT, Int.reduceEq, Int.reduceNeg, Nat.reduceLT, Nat.reduceSub, Nat.reduceMul, e1]
  · exact ⟨_, view_im _ _ _ _, h1 _ (.inr (.inl (of_decide_eq_true e1)))⟩
  refine kcd_b (fun e2 => ?_) (fun e2 => ?_) <;> simp -implicitDefEqProofs only [↓W_seq, go_sem, ↓reduceIte, Nat.reduceBEq, Nat.reduceAdd, Nat.reduceLeDiff, Nat.reduceEqDiff, reduceCtorEq, Int.reduceToNat, Int.reduceLE, Int.reduceLT, Int.reduceEq, Int.reduceNeg, Nat.reduceLT, Nat.reduceSub, Nat.reduceMul, e2]
  · exact ⟨_, view_im _ _ _ _, h1 _ (.inr (.inr (of_decide_eq_true e2)))⟩
  have e0 := of_decide_eq_false e0
  have e1 := of_decide_eq_false e1
  have e2 := of_decide_eq_false e2
  have hno : ¬(d.kind = 0 ∨ d.kind = 1 ∨ d.kind = 2) := by rintro (h | h | h) <;> contradiction
  refine kcd_b (fun e3 => ?_) (fun e3 => ?_) <;> simp -implicitDefEqProofs only [↓W_seq, go_sem, ↓reduceIte, Nat.reduceBEq, Nat.reduceAdd, Nat.reduceLeDiff, Nat.reduceEqDiff, reduceCtorEq, Int.reduceToNat, Int.reduceLE, Int.reduceLT, Int.reduceEq, Int.reduceNeg, Nat.reduceLT, Nat.reduceSub, Nat.reduceMul, e3]
  · have e3 := of_decide_eq_true e3
    have hnm : d.names = d.name :: (d.ctors.map (·.name) ++ [d.name ++ dotRec]) := by unfold Decl.names; rw [if_neg hno, if_pos e3]
    have hsz : ∀ s ∈ d.names, s.size ≤ 2 * lim := by
      rw [hnm]
      intro s hs
      simp only [List.mem_cons, List.mem_append, List.mem_map, List.not_mem_nil, or_false] at hs
      rcases hs with rfl | ⟨c, hc, rfl⟩ | rfl
      · omega
      · obtain ⟨i, hi⟩ := List.getElem?_of_mem hc
        obtain ⟨r, hr⟩ : ∃ r, ces[i]? = some r := ⟨_, List.getElem?_eq_getElem (by have := (List.getElem?_eq_some_iff.1 hi).1; rw [hC.length] at this; exact this)⟩
        obtain ⟨c', hc', _, _, _, _, _, _, hh, _⟩ := hC.get hr
        rw [hi] at hc'; cases hc'; omega
      · rw [ByteArray.size_append]; have : dotRec.size = 4 := rfl; omega
    have hcat : d.name.size + (⟨#[46, 114, 101, 99]⟩ : ByteArray).size ≤ 9223372036854775807 := by
      have : (⟨#[46, 114, 101, 99]⟩ : ByteArray).size = 4 := rfl
      omega
    refine WL.upto ces.length (fun j st => NamesSt (fun v => [(1, .im (.ip 23 false [[.i .i64 d.kind, .s d.name, .i .i64 d.params, t0, t1, t2, t3, t4, v0, v1, v2, v3, v4, .i .i64 d.fixed, .sl cz false ct ces, .i .i64 d.recParams, u0, u1, u2, u3, u4, .sl rz false rt res, .sl fz false ft fes]] 0 0)), (3, v), (4, .im (.i .i64 j))]) d.name (d.ctors.map (·.name)) j st) ?_ (.inl ⟨rfl, rfl⟩)
    rintro j st hj (⟨rfl, rfl⟩ | ⟨h0, es, hes, hel, rfl⟩)
    · simp -implicitDefEqProofs only [↓W_seq, go_sem, ↓reduceIte, Nat.reduceBEq, Nat.reduceAdd, Nat.reduceLeDiff, Nat.reduceEqDiff, reduceCtorEq, Int.reduceToNat, Int.reduceLE, Int.reduceLT, Int.reduceEq, Int.reduceNeg, Nat.reduceLT, Nat.reduceSub, Nat.reduceMul]
      refine kcd_dec (fun h1 => ?_) (fun h1 => ?_)
      · have hj1 : 0 < ces.length := by omega
        obtain ⟨rfl, a, r, ha, hr, x0, x1, x2, x3, x4, rfl, hx, hX, hXn⟩ := hC.at hcz hj1
        simp -implicitDefEqProofs only [↓W_seq, go_sem, ↓reduceIte, Nat.reduceBEq, Nat.reduceAdd, Nat.reduceLeDiff, Nat.reduceEqDiff, reduceCtorEq, Int.reduceToNat, Int.reduceLE, Int.reduceLT, Int.reduceEq, Int.reduceNeg, Nat.reduceLT, Nat.reduceSub, Nat.reduceMul, hj1, hr, wrap_succ hj1 hcl]
        refine .inr ⟨by omega, [[.s d.name], [.s a.name]], ?_, rfl, rfl⟩
        rw [← List.map_take, take_snoc ha]
        exact ⟨rfl, rfl, trivial⟩
      · have hz0 : ces = [] := List.eq_nil_of_length_eq_zero (by omega)
        have hc0 : d.ctors = [] := List.eq_nil_of_length_eq_zero (by rw [hC.length, hz0]; rfl)
        simp -implicitDefEqProofs only [↓W_seq, go_sem, ↓reduceIte, Nat.reduceBEq, Nat.reduceAdd, Nat.reduceLeDiff, Nat.reduceEqDiff, reduceCtorEq, Int.reduceToNat, Int.reduceLE, Int.reduceLT, Int.reduceEq, Int.reduceNeg, Nat.reduceLT, Nat.reduceSub, Nat.reduceMul, bin_sadd hcat]
        refine ⟨_, view_row (es := [[.s d.name], [.s (d.name ++ dotRec)]]) rfl rfl, _, _, _, rfl, ?_, .inl rfl, by simp; omega, hsz⟩
        rw [hnm, hc0]
        exact ⟨rfl, rfl, trivial⟩
    · simp -implicitDefEqProofs only [↓W_seq, go_sem, ↓reduceIte, Nat.reduceBEq, Nat.reduceAdd, Nat.reduceLeDiff, Nat.reduceEqDiff, reduceCtorEq, Int.reduceToNat, Int.reduceLE, Int.reduceLT, Int.reduceEq, Int.reduceNeg, Nat.reduceLT, Nat.reduceSub, Nat.reduceMul]
      refine kcd_dec (fun h1 => ?_) (fun h1 => ?_)
      · have hj1 : j < ces.length := by omega
        obtain ⟨rfl, a, r, ha, hr, x0, x1, x2, x3, x4, rfl, hx, hX, hXn⟩ := hC.at hcz hj1
        have hcap : j + 1 + 1 ≤ 4294967296 := by omega
        simp -implicitDefEqProofs only [↓W_seq, go_sem, ↓reduceIte, Nat.reduceBEq, Nat.reduceAdd, Nat.reduceLeDiff, Nat.reduceEqDiff, reduceCtorEq, Int.reduceToNat, Int.reduceLE, Int.reduceLT, Int.reduceEq, Int.reduceNeg, Nat.reduceLT, Nat.reduceSub, Nat.reduceMul, hj1, hr, wrap_succ hj1 hcl, hel, hcap]
        refine .inr ⟨by omega, es ++ [[.s a.name]], ?_, by simp [hel], by simp⟩
        rw [← List.map_take, take_snoc ha, List.map_append, ← List.cons_append]
        refine All2.snoc ?_ rfl
        rw [List.map_take]; exact hes
      · have hj' : j = ces.length := by omega
        have hcap : j + 1 + 1 ≤ 4294967296 := by omega
        simp -implicitDefEqProofs only [↓W_seq, go_sem, ↓reduceIte, Nat.reduceBEq, Nat.reduceAdd, Nat.reduceLeDiff, Nat.reduceEqDiff, reduceCtorEq, Int.reduceToNat, Int.reduceLE, Int.reduceLT, Int.reduceEq, Int.reduceNeg, Nat.reduceLT, Nat.reduceSub, Nat.reduceMul, bin_sadd hcat, hel, hcap]
        refine ⟨_, view_row (t := 9) (es := es ++ [[.s (d.name ++ dotRec)]]) (by simp [dotRec]) (by simp [hel]), _, _, _, rfl, ?_, .inl rfl, by simp [hel]; omega, hsz⟩
        rw [hnm, ← List.cons_append]
        refine All2.snoc ?_ rfl
        rw [List.take_of_length_le (by simp [hC.length, hj'])] at hes
        exact hes
  have e3 := of_decide_eq_false e3
  refine kcd_b (fun e4 => ?_) (fun e4 => ?_) <;> simp -implicitDefEqProofs only [↓W_seq, go_sem, ↓reduceIte, Nat.reduceBEq, Nat.reduceAdd, Nat.reduceLeDiff, Nat.reduceEqDiff, reduceCtorEq, Int.reduceToNat, Int.reduceLE, Int.reduceLT, Int.reduceEq, Int.reduceNeg, Nat.reduceLT, Nat.reduceSub, Nat.reduceMul, e4]
  · have e4 := of_decide_eq_true e4
    have hnm : d.names = d.funs.map (·.name) := by unfold Decl.names; rw [if_neg hno, if_neg e3, if_pos e4]
    have hsz : ∀ s ∈ d.names, s.size ≤ 2 * lim := by
      rw [hnm]
      intro s hs
      simp only [List.mem_map] at hs
      obtain ⟨c, hc, rfl⟩ := hs
      obtain ⟨i, hi⟩ := List.getElem?_of_mem hc
      obtain ⟨r, hr⟩ : ∃ r, fes[i]? = some r := ⟨_, List.getElem?_eq_getElem (by have := (List.getElem?_eq_some_iff.1 hi).1; rw [hF.length] at this; exact this)⟩
      obtain ⟨c', hc', _, _, _, _, _, _, _, _, _, _, _, _, _, _, hh, _⟩ := hF.get hr
      rw [hi] at hc'; cases hc'; omega
    refine WL.upto fes.length (fun j st => FunsSt (fun v => [(1, .im (.ip 23 false [[.i .i64 d.kind, .s d.name, .i .i64 d.params, t0, t1, t2, t3, t4, v0, v1, v2, v3, v4, .i .i64 d.fixed, .sl cz false ct ces, .i .i64 d.recParams, u0, u1, u2, u3, u4, .sl rz false rt res, .sl fz false ft fes]] 0 0)), (5, v), (6, .im (.i .i64 j))]) (d.funs.map (·.name)) j st) ?_ ⟨[], trivial, rfl, rfl⟩
    rintro j st hj ⟨es, hes, hel, rfl⟩
    simp -implicitDefEqProofs only [↓W_seq, go_sem, ↓reduceIte, Nat.reduceBEq, Nat.reduceAdd, Nat.reduceLeDiff, Nat.reduceEqDiff, reduceCtorEq, Int.reduceToNat, Int.reduceLE, Int.reduceLT, Int.reduceEq, Int.reduceNeg, Nat.reduceLT, Nat.reduceSub, Nat.reduceMul]
    refine kcd_dec (fun h1 => ?_) (fun h1 => ?_)
    · have hj1 : j < fes.length := by omega
      obtain ⟨rfl, a, r, ha, hr, x0, x1, x2, x3, x4, y0, y1, y2, y3, y4, y5, y6, y7, rfl, hx, hX, hy, hY⟩ := hF.at hfz hj1
      have hcap : j + 1 ≤ 4294967296 := by omega
      simp -implicitDefEqProofs only [↓W_seq, go_sem, ↓reduceIte, Nat.reduceBEq, Nat.reduceAdd, Nat.reduceLeDiff, Nat.reduceEqDiff, reduceCtorEq, Int.reduceToNat, Int.reduceLE, Int.reduceLT, Int.reduceEq, Int.reduceNeg, Nat.reduceLT, Nat.reduceSub, Nat.reduceMul, hj1, hr, wrap_succ hj1 hfl, hel, hcap]
      refine ⟨es ++ [[.s a.name]], ?_, by simp [hel], by simp⟩
      rw [← List.map_take, take_snoc ha, List.map_append]
      refine All2.snoc ?_ rfl
      rw [List.map_take]; exact hes
    · have hj' : j = fes.length := by omega
      simp -implicitDefEqProofs only [↓W_seq, go_sem, ↓reduceIte, Nat.reduceBEq, Nat.reduceAdd, Nat.reduceLeDiff, Nat.reduceEqDiff, reduceCtorEq, Int.reduceToNat, Int.reduceLE, Int.reduceLT, Int.reduceEq, Int.reduceNeg, Nat.reduceLT, Nat.reduceSub, Nat.reduceMul]
      refine ⟨_, view_row (es := es) rfl hel.symm, _, _, _, rfl, ?_, .inl rfl, by omega, hsz⟩
      rw [List.take_of_length_le (by simp [hF.length, hj'])] at hes
      rw [hnm]; exact hes
  · have e4 := of_decide_eq_false e4
    have hnm : d.names = [] := by unfold Decl.names; rw [if_neg hno, if_neg e3, if_neg e4]
    exact ⟨_, view_row (es := []) rfl rfl, _, _, _, rfl, by rw [hnm]; trivial, .inl rfl, by simp, by rw [hnm]; simp⟩
end Go.Proofs.Ytnbbhbbhgcipjaa.Am
