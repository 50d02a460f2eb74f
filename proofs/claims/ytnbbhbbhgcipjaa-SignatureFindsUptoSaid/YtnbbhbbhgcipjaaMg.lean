/-
  Terms as data, and the immediate values that stand for them.
  The reference's functions on terms: that they return, whatever the terms.
  The reference's checks of terms: that they return, whatever the terms.
-/
import Derived.Test.YtnbbhbbhgcipjaaMTabs
set_option linter.unusedVariables false
set_option linter.unnecessarySimpa false
set_option linter.unusedSimpArgs false
set_option linter.unusedSectionVars false
namespace Go.Proofs.Ytnbbhbbhgcipjaa.Am
def i64ok (n : Int) : Prop := -9223372036854775808 ≤ n ∧ n ≤ 9223372036854775807
def All2 {α β : Type} (R : α → β → Prop) : List α → List β → Prop
  | [], [] => True
  | a :: l, b :: m => R a b ∧ All2 R l m
  | _, _ => False
theorem All2.length {α β : Type} {R : α → β → Prop} : ∀ {l : List α} {m : List β}, All2 R l m → l.length = m.length
  | [], [], _ => rfl
  | _ :: _, _ :: _, h => by simp [All2.length h.2]
  | [], _ :: _, h => h.elim
  | _ :: _, [], h => h.elim
theorem All2.get {α β : Type} {R : α → β → Prop} : ∀ {l : List α} {m : List β} {i : Nat} {b : β}, All2 R l m → m[i]? = some b → ∃ a, l[i]? = some a ∧ R a b
  | [], [], _, _, _, h => by simp at h
  | a :: _, b :: _, 0, _, h, e => ⟨a, rfl, by simp at e; subst e; exact h.1⟩
  | _ :: l, _ :: m, i + 1, _, h, e => by simpa using All2.get h.2 (by simpa using e)
  | [], _ :: _, _, _, h, _ => h.elim
  | _ :: _, [], _, _, h, _ => h.elim
structure Level where
  const : Int
  vars : List (Int × Int)
inductive Term where
  | mk (kind idx : Int) (name : ByteArray) (levels : List Level) (kids : List Term)
def EncV (v : Int × Int) (r : List Imm) : Prop := r = [.i .i64 v.1, .i .i64 v.2] ∧ i64ok v.1 ∧ i64ok v.2
def Level.Enc (l : Level) (r : List Imm) : Prop := ∃ z t es, r = [.i .i64 l.const, .sl z false t es] ∧ i64ok l.const ∧ (z = 2 ∨ es = []) ∧ es.length ≤ lim ∧ All2 EncV l.vars es
mutual
def Term.Enc : Term → List Imm → Prop
  | .mk k i n ls ks, r => ∃ lz lt les kz kt kes, r = [.i .i64 k, .i .i64 i, .s n, .sl lz false lt les, .sl kz false kt kes] ∧ i64ok k ∧ i64ok i ∧ n.size ≤ lim ∧
      (lz = 2 ∨ les = []) ∧ les.length ≤ lim ∧ All2 Level.Enc ls les ∧ (kz = 5 ∨ kes = []) ∧ kes.length ≤ lim ∧ Term.Encs ks kes
def Term.Encs : List Term → List (List Imm) → Prop
  | [], [] => True
  | t :: ts, r :: rs => Term.Enc t r ∧ Term.Encs ts rs
  | _, _ => False
end
theorem Term.Encs_eq : ∀ (ts : List Term) (rs : List (List Imm)), Term.Encs ts rs ↔ All2 Term.Enc ts rs
  | [], [] => by simp [Term.Encs, All2]
  | t :: ts, r :: rs => by simp [Term.Encs, All2, Term.Encs_eq ts rs]
  | [], _ :: _ => by simp [Term.Encs, All2]
  | _ :: _, [] => by simp [Term.Encs, All2]
def Term.kids : Term → List Term | .mk _ _ _ _ ks => ks
theorem Term.Enc.length {t : Term} {r : List Imm} (h : t.Enc r) : r.length = 5 := by
  cases t; unfold Term.Enc at h; obtain ⟨_, _, _, _, _, _, rfl, _⟩ := h; rfl
def Term.kind : Term → Int | .mk k _ _ _ _ => k
mutual
def Term.nodes : Term → Nat
  | .mk _ _ _ _ ks => 1 + Term.nodesL ks
def Term.nodesL : List Term → Nat
  | [] => 0
  | t :: ts => t.nodes + Term.nodesL ts
end
theorem Term.nodes_get {ts : List Term} {t : Term} {i : Nat} (h : ts[i]? = some t) : t.nodes ≤ Term.nodesL ts := by
  induction ts generalizing i with
  | nil => simp at h
  | cons a ts ih =>
    unfold Term.nodesL
    cases i with
    | zero => simp at h; subst h; omega
    | succ i => have := ih (i := i) (by simpa using h); omega
theorem Term.nodes_pos (t : Term) : 0 < t.nodes := by cases t; unfold Term.nodes; omega
theorem Term.Enc.inv {t : Term} {r : List Imm} (h : t.Enc r) : ∃ k i n ls ks lz lt les kz kt kes, t = .mk k i n ls ks ∧ r = [.i .i64 k, .i .i64 i, .s n, .sl lz false lt les, .sl kz false kt kes] ∧ i64ok k ∧ i64ok i ∧ n.size ≤ lim ∧
      (lz = 2 ∨ les = []) ∧ les.length ≤ lim ∧ All2 Level.Enc ls les ∧ (kz = 5 ∨ kes = []) ∧ kes.length ≤ lim ∧ All2 Term.Enc ks kes := by
  cases t with | mk k i n ls ks =>
  unfold Term.Enc at h
  obtain ⟨lz, lt, les, kz, kt, kes, rfl, hk, hi, hn, hlz, hll, hl, hkz, hkl, hks⟩ := h
  exact ⟨_, _, _, _, _, _, _, _, _, _, _, rfl, rfl, hk, hi, hn, hlz, hll, hl, hkz, hkl, (Term.Encs_eq _ _).1 hks⟩
theorem Term.nodes_kid {k i : Int} {n : ByteArray} {ls : List Level} {ks : List Term} {a : Term} {j : Nat} (h : ks[j]? = some a) : a.nodes < (Term.mk k i n ls ks).nodes := by
  have := Term.nodes_get h
  rw [Term.nodes]; omega
/-- The element at an index of a list that is read, with its kind of element. -/
theorem All2.at {α : Type} {R : α → List Imm → Prop} {xs : List α} {es : List (List Imm)} {z c j : Nat} (h : All2 R xs es) (hz : z = c ∨ es = []) (hj : j < es.length) : z = c ∧ ∃ x r, xs[j]? = some x ∧ es[j]? = some r ∧ R x r := by
  refine ⟨?_, ?_⟩
  · rcases hz with hz | hz
    · exact hz
    · subst hz; simp at hj
  · obtain ⟨x, hx, hR⟩ := All2.get h (List.getElem?_eq_getElem hj)
    exact ⟨x, _, hx, List.getElem?_eq_getElem hj, hR⟩
theorem val_bind {α β : Type} (P : Program) (s : Sem α) (f : α → Sem β) : Sem.val? P (s >>= f) = (Sem.val? P s).bind fun a => Sem.val? P (f a) := by
  show Sem.val? P (Sem.bind s f) = _
  induction s with
  | pure a => rfl
  | program k ih => exact ih P
  | mark m k ih => exact ih
  | _ => rfl
theorem val_program {α : Type} (P : Program) (f : Program → Sem α) : Sem.val? P (program >>= f) = Sem.val? P (f P) := by rw [val_bind]; rfl
theorem guard201 : cx.P.eqGuardType cx.P.depth 201 = false := by kernel_rfl
theorem held201 : cx.P.stoodInHeld 201 = false := by kernel_rfl
theorem und201 : cx.P.underlying 201 = some (.struct #[⟨ "Index", 3, 0, false, "", "", 0⟩, ⟨ "Plus", 3, 1, false, "", "", 8⟩]) := by kernel_rfl
theorem vund (t : TypeId) (d : TypeDesc) (h : cx.P.underlying t = some d) : Sem.val? cx.P (Go.underlying t) = some d := by
  unfold Go.underlying; rw [val_program, h]; rfl
theorem isagg3 : Sem.val? cx.P (isAgg 3) = some false := by unfold isAgg; rw [val_bind, vund 3 _ ty3.2.2.1]; rfl
theorem part0 (a b : Value) : Sem.val? cx.P (part 3 #[a, b] 0) = some a := by unfold part; rw [val_bind, isagg3]; rfl
theorem part1 (a b : Value) : Sem.val? cx.P (part 3 #[a, b] 1) = some b := by unfold part; rw [val_bind, isagg3]; rfl
theorem eqi (n : Nat) (a b : Int) : Sem.val? cx.P (Op.equalIn (n + 1) 3 (.int .i64 a) (.int .i64 b)) = some (decide (a = b)) := by
  unfold Op.equalIn; rw [val_bind, vund 3 _ ty3.2.2.1]
  simp only [Option.bind_some, if_true]
  rfl
theorem eqv {a b c d : Int} : Sem.val? cx.P (Op.equal 201 (.agg #[.int .i64 a, .int .i64 b]) (.agg #[.int .i64 c, .int .i64 d])) = some (decide (a = c ∧ b = d)) := by
  unfold Op.equal Op.maxDepth
  unfold Op.equalIn
  rw [val_bind, vund 201 _ und201]
  simp only [Option.bind_some]
  rw [val_program, held201]
  simp only [Bool.false_eq_true, if_false]
  have hI : ("Index" ≠ "_") := by decide
  have hP : ("Plus" ≠ "_") := by decide
  simp only [List.forIn_toArray, List.forIn_cons, List.forIn_nil, val_bind, part0, part1, eqi, Option.bind_some, ne_eq, hI, hP, not_false_eq_true, if_true]
  by_cases h1 : a = c <;> by_cases h2 : b = d <;> simp [h1, h2, val_bind, part0, part1, eqi, val_pure, hI, hP]
@[go_sem] theorem bin_v (x y : Operand) (a b c d : Int) : bin2 cx.P .neq 201 x y (.im (.agg [.i .i64 a, .i .i64 b])) (.im (.agg [.i .i64 c, .i .i64 d])) = some (.im (.b (!decide (a = c ∧ b = d)))) := by
  refine bin_of (a' := .agg #[.int .i64 a, .int .i64 b]) (b' := .agg #[.int .i64 c, .int .i64 d]) rfl rfl (v := .bool (!decide (a = c ∧ b = d))) ?_ rfl
  rw [val_bind]
  have : Sem.val? cx.P (eqGuard .neq 201 x y (.agg #[.int .i64 a, .int .i64 b]) (.agg #[.int .i64 c, .int .i64 d])) = some () := by
    unfold eqGuard
    simp only [Bool.not_true, Bool.false_eq_true, if_false]
    rw [val_program, val_program, guard201]
    rfl
  rw [this]
  simp only [Option.bind_some]
  unfold Go.binOp
  dsimp only
  rw [val_bind, eqv]
  rfl
theorem Term.nodes_mk (k i : Int) (n : ByteArray) (ls : List Level) (ks : List Term) : (Term.mk k i n ls ks).nodes = 1 + Term.nodesL ks := by rw [Term.nodes]
end Go.Proofs.Ytnbbhbbhgcipjaa.Am

namespace Go.Proofs.Ytnbbhbbhgcipjaa.Am
attribute [local irreducible] W WO WD WL WR WC WOp W1 WDf kcall kdfr kpn ob eb kval kvh kH kn0 kmp kvc kvc0 kca kpk kgb kgd kcd kcl kbl kres kmt wseq kseq kblock kreg kdn kdE kbd kcr kdm kdb kdg kdo kfin klp
theorem f172 (c : Int) : PF cx 172 [.i .u8 c] IsB := by
  refine PF.intro (fn := Try.f172) Try.func172 rfl rfl ?_
  simp -implicitDefEqProofs only [↓W_seq, go_sem, ↓reduceIte, Nat.reduceBEq, Nat.reduceAdd, Nat.reduceLeDiff, Nat.reduceEqDiff, reduceCtorEq, Int.reduceToNat, Int.reduceLE, Int.reduceLT, Int.reduceEq, Int.reduceNeg, Nat.reduceLT, Nat.reduceSub, Nat.reduceMul]
  repeat' (first | (refine kgb_dec (fun h => ?_) (fun h => ?_) <;> simp -implicitDefEqProofs only [↓W_seq, go_sem, ↓reduceIte, Nat.reduceBEq, Nat.reduceAdd, Nat.reduceLeDiff, Nat.reduceEqDiff, reduceCtorEq, Int.reduceToNat, Int.reduceLE, Int.reduceLT, Int.reduceEq, Int.reduceNeg, Nat.reduceLT, Nat.reduceSub, Nat.reduceMul, h]) | (refine kcd_dec (fun h => ?_) (fun h => ?_) <;> simp -implicitDefEqProofs only [↓W_seq, go_sem, ↓reduceIte, Nat.reduceBEq, Nat.reduceAdd, Nat.reduceLeDiff, Nat.reduceEqDiff, reduceCtorEq, Int.reduceToNat, Int.reduceLE, Int.reduceLT, Int.reduceEq, Int.reduceNeg, Nat.reduceLT, Nat.reduceSub, Nat.reduceMul, h]) | (refine kdb_dec (fun h => ?_) (fun h => ?_) <;> simp -implicitDefEqProofs only [↓W_seq, go_sem, ↓reduceIte, Nat.reduceBEq, Nat.reduceAdd, Nat.reduceLeDiff, Nat.reduceEqDiff, reduceCtorEq, Int.reduceToNat, Int.reduceLE, Int.reduceLT, Int.reduceEq, Int.reduceNeg, Nat.reduceLT, Nat.reduceSub, Nat.reduceMul, h]) | (refine kgb_not (fun h => ?_) (fun h => ?_) <;> simp -implicitDefEqProofs only [↓W_seq, go_sem, ↓reduceIte, Nat.reduceBEq, Nat.reduceAdd, Nat.reduceLeDiff, Nat.reduceEqDiff, reduceCtorEq, Int.reduceToNat, Int.reduceLE, Int.reduceLT, Int.reduceEq, Int.reduceNeg, Nat.reduceLT, Nat.reduceSub, Nat.reduceMul, h]) | (refine kcd_not (fun h => ?_) (fun h => ?_) <;> simp -implicitDefEqProofs only [↓W_seq, go_sem, ↓reduceIte, Nat.reduceBEq, Nat.reduceAdd, Nat.reduceLeDiff, Nat.reduceEqDiff, reduceCtorEq, Int.reduceToNat, Int.reduceLE, Int.reduceLT, Int.reduceEq, Int.reduceNeg, Nat.reduceLT, Nat.reduceSub, Nat.reduceMul, h]) | (refine kdb_not (fun h => ?_) (fun h => ?_) <;> simp -implicitDefEqProofs only [↓W_seq, go_sem, ↓reduceIte, Nat.reduceBEq, Nat.reduceAdd, Nat.reduceLeDiff, Nat.reduceEqDiff, reduceCtorEq, Int.reduceToNat, Int.reduceLE, Int.reduceLT, Int.reduceEq, Int.reduceNeg, Nat.reduceLT, Nat.reduceSub, Nat.reduceMul, h]))
  all_goals exact ⟨_, rfl, _, rfl⟩
theorem f188 (c : Int) : PF cx 188 [.i .i64 c] IsI := by
  refine PF.intro (fn := Try.f188) Try.func188 rfl rfl ?_
  simp -implicitDefEqProofs only [↓W_seq, go_sem, ↓reduceIte, Nat.reduceBEq, Nat.reduceAdd, Nat.reduceLeDiff, Nat.reduceEqDiff, reduceCtorEq, Int.reduceToNat, Int.reduceLE, Int.reduceLT, Int.reduceEq, Int.reduceNeg, Nat.reduceLT, Nat.reduceSub, Nat.reduceMul]
  repeat' (first | (refine kgb_dec (fun h => ?_) (fun h => ?_) <;> simp -implicitDefEqProofs only [↓W_seq, go_sem, ↓reduceIte, Nat.reduceBEq, Nat.reduceAdd, Nat.reduceLeDiff, Nat.reduceEqDiff, reduceCtorEq, Int.reduceToNat, Int.reduceLE, Int.reduceLT, Int.reduceEq, Int.reduceNeg, Nat.reduceLT, Nat.reduceSub, Nat.reduceMul, h]) | (refine kcd_dec (fun h => ?_) (fun h => ?_) <;> simp -implicitDefEqProofs only [↓W_seq, go_sem, ↓reduceIte, Nat.reduceBEq, Nat.reduceAdd, Nat.reduceLeDiff, Nat.reduceEqDiff, reduceCtorEq, Int.reduceToNat, Int.reduceLE, Int.reduceLT, Int.reduceEq, Int.reduceNeg, Nat.reduceLT, Nat.reduceSub, Nat.reduceMul, h]) | (refine kdb_dec (fun h => ?_) (fun h => ?_) <;> simp -implicitDefEqProofs only [↓W_seq, go_sem, ↓reduceIte, Nat.reduceBEq, Nat.reduceAdd, Nat.reduceLeDiff, Nat.reduceEqDiff, reduceCtorEq, Int.reduceToNat, Int.reduceLE, Int.reduceLT, Int.reduceEq, Int.reduceNeg, Nat.reduceLT, Nat.reduceSub, Nat.reduceMul, h]) | (refine kgb_not (fun h => ?_) (fun h => ?_) <;> simp -implicitDefEqProofs only [↓W_seq, go_sem, ↓reduceIte, Nat.reduceBEq, Nat.reduceAdd, Nat.reduceLeDiff, Nat.reduceEqDiff, reduceCtorEq, Int.reduceToNat, Int.reduceLE, Int.reduceLT, Int.reduceEq, Int.reduceNeg, Nat.reduceLT, Nat.reduceSub, Nat.reduceMul, h]) | (refine kcd_not (fun h => ?_) (fun h => ?_) <;> simp -implicitDefEqProofs only [↓W_seq, go_sem, ↓reduceIte, Nat.reduceBEq, Nat.reduceAdd, Nat.reduceLeDiff, Nat.reduceEqDiff, reduceCtorEq, Int.reduceToNat, Int.reduceLE, Int.reduceLT, Int.reduceEq, Int.reduceNeg, Nat.reduceLT, Nat.reduceSub, Nat.reduceMul, h]) | (refine kdb_not (fun h => ?_) (fun h => ?_) <;> simp -implicitDefEqProofs only [↓W_seq, go_sem, ↓reduceIte, Nat.reduceBEq, Nat.reduceAdd, Nat.reduceLeDiff, Nat.reduceEqDiff, reduceCtorEq, Int.reduceToNat, Int.reduceLE, Int.reduceLT, Int.reduceEq, Int.reduceNeg, Nat.reduceLT, Nat.reduceSub, Nat.reduceMul, h]))
  all_goals exact ⟨_, rfl, _, rfl⟩
theorem f158 (c d : Int) : PF cx 158 [.i .i64 c, .i .i64 d] IsI := by
  refine PF.intro (fn := Try.f158) Try.func158 rfl rfl ?_
  simp -implicitDefEqProofs only [↓W_seq, go_sem, ↓reduceIte, Nat.reduceBEq, Nat.reduceAdd, Nat.reduceLeDiff, Nat.reduceEqDiff, reduceCtorEq, Int.reduceToNat, Int.reduceLE, Int.reduceLT, Int.reduceEq, Int.reduceNeg, Nat.reduceLT, Nat.reduceSub, Nat.reduceMul]
  repeat' (first | (refine kgb_dec (fun h => ?_) (fun h => ?_) <;> simp -implicitDefEqProofs only [↓W_seq, go_sem, ↓reduceIte, Nat.reduceBEq, Nat.reduceAdd, Nat.reduceLeDiff, Nat.reduceEqDiff, reduceCtorEq, Int.reduceToNat, Int.reduceLE, Int.reduceLT, Int.reduceEq, Int.reduceNeg, Nat.reduceLT, Nat.reduceSub, Nat.reduceMul, h]) | (refine kcd_dec (fun h => ?_) (fun h => ?_) <;> simp -implicitDefEqProofs only [↓W_seq, go_sem, ↓reduceIte, Nat.reduceBEq, Nat.reduceAdd, Nat.reduceLeDiff, Nat.reduceEqDiff, reduceCtorEq, Int.reduceToNat, Int.reduceLE, Int.reduceLT, Int.reduceEq, Int.reduceNeg, Nat.reduceLT, Nat.reduceSub, Nat.reduceMul, h]) | (refine kdb_dec (fun h => ?_) (fun h => ?_) <;> simp -implicitDefEqProofs only [↓W_seq, go_sem, ↓reduceIte, Nat.reduceBEq, Nat.reduceAdd, Nat.reduceLeDiff, Nat.reduceEqDiff, reduceCtorEq, Int.reduceToNat, Int.reduceLE, Int.reduceLT, Int.reduceEq, Int.reduceNeg, Nat.reduceLT, Nat.reduceSub, Nat.reduceMul, h]) | (refine kgb_not (fun h => ?_) (fun h => ?_) <;> simp -implicitDefEqProofs only [↓W_seq, go_sem, ↓reduceIte, Nat.reduceBEq, Nat.reduceAdd, Nat.reduceLeDiff, Nat.reduceEqDiff, reduceCtorEq, Int.reduceToNat, Int.reduceLE, Int.reduceLT, Int.reduceEq, Int.reduceNeg, Nat.reduceLT, Nat.reduceSub, Nat.reduceMul, h]) | (refine kcd_not (fun h => ?_) (fun h => ?_) <;> simp -implicitDefEqProofs only [↓W_seq, go_sem, ↓reduceIte, Nat.reduceBEq, Nat.reduceAdd, Nat.reduceLeDiff, Nat.reduceEqDiff, reduceCtorEq, Int.reduceToNat, Int.reduceLE, Int.reduceLT, Int.reduceEq, Int.reduceNeg, Nat.reduceLT, Nat.reduceSub, Nat.reduceMul, h]) | (refine kdb_not (fun h => ?_) (fun h => ?_) <;> simp -implicitDefEqProofs only [↓W_seq, go_sem, ↓reduceIte, Nat.reduceBEq, Nat.reduceAdd, Nat.reduceLeDiff, Nat.reduceEqDiff, reduceCtorEq, Int.reduceToNat, Int.reduceLE, Int.reduceLT, Int.reduceEq, Int.reduceNeg, Nat.reduceLT, Nat.reduceSub, Nat.reduceMul, h]))
  all_goals exact ⟨_, rfl, _, rfl⟩
theorem f156 (t : Term) (r : List Imm) (h : t.Enc r) : PF cx 156 [.agg r] IsB := by
  refine PF.intro (fn := Try.f156) Try.func156 rfl rfl ?_
  obtain ⟨k, i, n, ls, ks, lz, lt, les, kz, kt, kes, rfl, rfl, hk, hi, hn, hlz, hll, hl, hkz, hkl, hks⟩ := h.inv
  simp -implicitDefEqProofs only [↓W_seq, go_sem, ↓reduceIte, Nat.reduceBEq, Nat.reduceAdd, Nat.reduceLeDiff, Nat.reduceEqDiff, reduceCtorEq, Int.reduceToNat, Int.reduceLE, Int.reduceLT, Int.reduceEq, Int.reduceNeg, Nat.reduceLT, Nat.reduceSub, Nat.reduceMul]
  repeat' (first | (refine kgb_dec (fun h => ?_) (fun h => ?_) <;> simp -implicitDefEqProofs only [↓W_seq, go_sem, ↓reduceIte, Nat.reduceBEq, Nat.reduceAdd, Nat.reduceLeDiff, Nat.reduceEqDiff, reduceCtorEq, Int.reduceToNat, Int.reduceLE, Int.reduceLT, Int.reduceEq, Int.reduceNeg, Nat.reduceLT, Nat.reduceSub, Nat.reduceMul, h]) | (refine kcd_dec (fun h => ?_) (fun h => ?_) <;> simp -implicitDefEqProofs only [↓W_seq, go_sem, ↓reduceIte, Nat.reduceBEq, Nat.reduceAdd, Nat.reduceLeDiff, Nat.reduceEqDiff, reduceCtorEq, Int.reduceToNat, Int.reduceLE, Int.reduceLT, Int.reduceEq, Int.reduceNeg, Nat.reduceLT, Nat.reduceSub, Nat.reduceMul, h]) | (refine kdb_dec (fun h => ?_) (fun h => ?_) <;> simp -implicitDefEqProofs only [↓W_seq, go_sem, ↓reduceIte, Nat.reduceBEq, Nat.reduceAdd, Nat.reduceLeDiff, Nat.reduceEqDiff, reduceCtorEq, Int.reduceToNat, Int.reduceLE, Int.reduceLT, Int.reduceEq, Int.reduceNeg, Nat.reduceLT, Nat.reduceSub, Nat.reduceMul, h]) | (refine kgb_not (fun h => ?_) (fun h => ?_) <;> simp -implicitDefEqProofs only [↓W_seq, go_sem, ↓reduceIte, Nat.reduceBEq, Nat.reduceAdd, Nat.reduceLeDiff, Nat.reduceEqDiff, reduceCtorEq, Int.reduceToNat, Int.reduceLE, Int.reduceLT, Int.reduceEq, Int.reduceNeg, Nat.reduceLT, Nat.reduceSub, Nat.reduceMul, h]) | (refine kcd_not (fun h => ?_) (fun h => ?_) <;> simp -implicitDefEqProofs only [↓W_seq, go_sem, ↓reduceIte, Nat.reduceBEq, Nat.reduceAdd, Nat.reduceLeDiff, Nat.reduceEqDiff, reduceCtorEq, Int.reduceToNat, Int.reduceLE, Int.reduceLT, Int.reduceEq, Int.reduceNeg, Nat.reduceLT, Nat.reduceSub, Nat.reduceMul, h]) | (refine kdb_not (fun h => ?_) (fun h => ?_) <;> simp -implicitDefEqProofs only [↓W_seq, go_sem, ↓reduceIte, Nat.reduceBEq, Nat.reduceAdd, Nat.reduceLeDiff, Nat.reduceEqDiff, reduceCtorEq, Int.reduceToNat, Int.reduceLE, Int.reduceLT, Int.reduceEq, Int.reduceNeg, Nat.reduceLT, Nat.reduceSub, Nat.reduceMul, h]))
  · exact ⟨_, rfl, _, rfl⟩
  · exact ⟨_, rfl, _, rfl⟩
  · refine WC.pf (f188 k) rfl rfl ?_
    rintro _ ⟨m, rfl⟩
    simp -implicitDefEqProofs only [↓W_seq, go_sem, ↓reduceIte, Nat.reduceBEq, Nat.reduceAdd, Nat.reduceLeDiff, Nat.reduceEqDiff, reduceCtorEq, Int.reduceToNat, Int.reduceLE, Int.reduceLT, Int.reduceEq, Int.reduceNeg, Nat.reduceLT, Nat.reduceSub, Nat.reduceMul]
    repeat' (first | (refine kgb_dec (fun h => ?_) (fun h => ?_) <;> simp -implicitDefEqProofs only [↓W_seq, go_sem, ↓reduceIte, Nat.reduceBEq, Nat.reduceAdd, Nat.reduceLeDiff, Nat.reduceEqDiff, reduceCtorEq, Int.reduceToNat, Int.reduceLE, Int.reduceLT, Int.reduceEq, Int.reduceNeg, Nat.reduceLT, Nat.reduceSub, Nat.reduceMul, h]) | (refine kcd_dec (fun h => ?_) (fun h => ?_) <;> simp -implicitDefEqProofs only [↓W_seq, go_sem, ↓reduceIte, Nat.reduceBEq, Nat.reduceAdd, Nat.reduceLeDiff, Nat.reduceEqDiff, reduceCtorEq, Int.reduceToNat, Int.reduceLE, Int.reduceLT, Int.reduceEq, Int.reduceNeg, Nat.reduceLT, Nat.reduceSub, Nat.reduceMul, h]) | (refine kdb_dec (fun h => ?_) (fun h => ?_) <;> simp -implicitDefEqProofs only [↓W_seq, go_sem, ↓reduceIte, Nat.reduceBEq, Nat.reduceAdd, Nat.reduceLeDiff, Nat.reduceEqDiff, reduceCtorEq, Int.reduceToNat, Int.reduceLE, Int.reduceLT, Int.reduceEq, Int.reduceNeg, Nat.reduceLT, Nat.reduceSub, Nat.reduceMul, h]) | (refine kgb_not (fun h => ?_) (fun h => ?_) <;> simp -implicitDefEqProofs only [↓W_seq, go_sem, ↓reduceIte, Nat.reduceBEq, Nat.reduceAdd, Nat.reduceLeDiff, Nat.reduceEqDiff, reduceCtorEq, Int.reduceToNat, Int.reduceLE, Int.reduceLT, Int.reduceEq, Int.reduceNeg, Nat.reduceLT, Nat.reduceSub, Nat.reduceMul, h]) | (refine kcd_not (fun h => ?_) (fun h => ?_) <;> simp -implicitDefEqProofs only [↓W_seq, go_sem, ↓reduceIte, Nat.reduceBEq, Nat.reduceAdd, Nat.reduceLeDiff, Nat.reduceEqDiff, reduceCtorEq, Int.reduceToNat, Int.reduceLE, Int.reduceLT, Int.reduceEq, Int.reduceNeg, Nat.reduceLT, Nat.reduceSub, Nat.reduceMul, h]) | (refine kdb_not (fun h => ?_) (fun h => ?_) <;> simp -implicitDefEqProofs only [↓W_seq, go_sem, ↓reduceIte, Nat.reduceBEq, Nat.reduceAdd, Nat.reduceLeDiff, Nat.reduceEqDiff, reduceCtorEq, Int.reduceToNat, Int.reduceLE, Int.reduceLT, Int.reduceEq, Int.reduceNeg, Nat.reduceLT, Nat.reduceSub, Nat.reduceMul, h]))
    all_goals exact ⟨_, rfl, _, rfl⟩
theorem f17 : ∀ (N : Nat) (t : Term) (r : List Imm), t.nodes ≤ N → t.Enc r → PF cx 17 [.agg r] IsI := by
  intro N
  induction N with
  | zero => intro t r hN; have := t.nodes_pos; omega
  | succ N ih =>
    intro t r hN h
    refine PF.intro (fn := Try.f17) Try.func17 rfl rfl ?_
    obtain ⟨k, i, n, ls, ks, lz, lt, les, kz, kt, kes, rfl, rfl, hk, hi, hn, hlz, hll, hl, hkz, hkl, hks⟩ := h.inv
    simp -implicitDefEqProofs only [↓W_seq, go_sem, ↓reduceIte, Nat.reduceBEq, Nat.reduceAdd, Nat.reduceLeDiff, Nat.reduceEqDiff, reduceCtorEq, Int.reduceToNat, Int.reduceLE, Int.reduceLT, Int.reduceEq, Int.reduceNeg, Nat.reduceLT, Nat.reduceSub, Nat.reduceMul]
    refine WL.upto kes.length (fun j st => ∃ x, st = ⟨[(1, .im (.ip 5 false [[.i .i64 k, .i .i64 i, .s n, .sl lz false lt les, .sl kz false kt kes]] 0 0)), (3, .im (.i .i64 x)), (4, .im (.i .i64 j))], [], []⟩) ?_ ⟨_, rfl⟩
    rintro j st hj ⟨x, rfl⟩
    simp -implicitDefEqProofs only [↓W_seq, go_sem, ↓reduceIte, Nat.reduceBEq, Nat.reduceAdd, Nat.reduceLeDiff, Nat.reduceEqDiff, reduceCtorEq, Int.reduceToNat, Int.reduceLE, Int.reduceLT, Int.reduceEq, Int.reduceNeg, Nat.reduceLT, Nat.reduceSub, Nat.reduceMul]
    refine kcd_dec (fun h1 => ?_) (fun h1 => ?_)
    · have hj1 : j < kes.length := by omega
      obtain ⟨rfl, a, r, ha, hr, hE⟩ := hks.at hkz hj1
      simp -implicitDefEqProofs only [↓W_seq, go_sem, ↓reduceIte, Nat.reduceBEq, Nat.reduceAdd, Nat.reduceLeDiff, Nat.reduceEqDiff, reduceCtorEq, Int.reduceToNat, Int.reduceLE, Int.reduceLT, Int.reduceEq, Int.reduceNeg, Nat.reduceLT, Nat.reduceSub, Nat.reduceMul, hj1, hr, sub_all hE.length]
      refine WC.pf (ih a r (by have := Term.nodes_kid (k := k) (i := i) (n := n) (ls := ls) ha; omega) hE) rfl rfl ?_
      rintro _ ⟨m, rfl⟩
      simp -implicitDefEqProofs only [↓W_seq, go_sem, ↓reduceIte, Nat.reduceBEq, Nat.reduceAdd, Nat.reduceLeDiff, Nat.reduceEqDiff, reduceCtorEq, Int.reduceToNat, Int.reduceLE, Int.reduceLT, Int.reduceEq, Int.reduceNeg, Nat.reduceLT, Nat.reduceSub, Nat.reduceMul, wrap_succ hj1 hkl]
      exact ⟨_, rfl⟩
    · simp -implicitDefEqProofs only [↓W_seq, go_sem, ↓reduceIte, Nat.reduceBEq, Nat.reduceAdd, Nat.reduceLeDiff, Nat.reduceEqDiff, reduceCtorEq, Int.reduceToNat, Int.reduceLE, Int.reduceLT, Int.reduceEq, Int.reduceNeg, Nat.reduceLT, Nat.reduceSub, Nat.reduceMul]
      exact ⟨_, rfl, _, rfl⟩
theorem f131 : ∀ (N : Nat) (t : Term) (r : List Imm), t.nodes ≤ N → t.Enc r → PF cx 131 [.agg r] IsI := by
  intro N
  induction N with
  | zero => intro t r hN; have := t.nodes_pos; omega
  | succ N ih =>
    intro t r hN h
    refine PF.intro (fn := Try.f131) Try.func131 rfl rfl ?_
    obtain ⟨k, i, n, ls, ks, lz, lt, les, kz, kt, kes, rfl, rfl, hk, hi, hn, hlz, hll, hl, hkz, hkl, hks⟩ := h.inv
    simp -implicitDefEqProofs only [↓W_seq, go_sem, ↓reduceIte, Nat.reduceBEq, Nat.reduceAdd, Nat.reduceLeDiff, Nat.reduceEqDiff, reduceCtorEq, Int.reduceToNat, Int.reduceLE, Int.reduceLT, Int.reduceEq, Int.reduceNeg, Nat.reduceLT, Nat.reduceSub, Nat.reduceMul]
    refine WL.upto kes.length (fun j st => ∃ x, st = ⟨[(1, .im (.ip 5 false [[.i .i64 k, .i .i64 i, .s n, .sl lz false lt les, .sl kz false kt kes]] 0 0)), (3, .im (.i .i64 x)), (4, .im (.i .i64 j))], [], []⟩) ?_ ⟨_, rfl⟩
    rintro j st hj ⟨x, rfl⟩
    simp -implicitDefEqProofs only [↓W_seq, go_sem, ↓reduceIte, Nat.reduceBEq, Nat.reduceAdd, Nat.reduceLeDiff, Nat.reduceEqDiff, reduceCtorEq, Int.reduceToNat, Int.reduceLE, Int.reduceLT, Int.reduceEq, Int.reduceNeg, Nat.reduceLT, Nat.reduceSub, Nat.reduceMul]
    refine kcd_dec (fun h1 => ?_) (fun h1 => ?_)
    · have hj1 : j < kes.length := by omega
      obtain ⟨rfl, a, r, ha, hr, hE⟩ := hks.at hkz hj1
      simp -implicitDefEqProofs only [↓W_seq, go_sem, ↓reduceIte, Nat.reduceBEq, Nat.reduceAdd, Nat.reduceLeDiff, Nat.reduceEqDiff, reduceCtorEq, Int.reduceToNat, Int.reduceLE, Int.reduceLT, Int.reduceEq, Int.reduceNeg, Nat.reduceLT, Nat.reduceSub, Nat.reduceMul, hj1, hr, sub_all hE.length]
      refine WC.pf (ih a r (by have := Term.nodes_kid (k := k) (i := i) (n := n) (ls := ls) ha; omega) hE) rfl rfl ?_
      rintro _ ⟨m, rfl⟩
      simp -implicitDefEqProofs only [↓W_seq, go_sem, ↓reduceIte, Nat.reduceBEq, Nat.reduceAdd, Nat.reduceLeDiff, Nat.reduceEqDiff, reduceCtorEq, Int.reduceToNat, Int.reduceLE, Int.reduceLT, Int.reduceEq, Int.reduceNeg, Nat.reduceLT, Nat.reduceSub, Nat.reduceMul, wrap_succ hj1 hkl]
      exact ⟨_, rfl⟩
    · simp -implicitDefEqProofs only [↓W_seq, go_sem, ↓reduceIte, Nat.reduceBEq, Nat.reduceAdd, Nat.reduceLeDiff, Nat.reduceEqDiff, reduceCtorEq, Int.reduceToNat, Int.reduceLE, Int.reduceLT, Int.reduceEq, Int.reduceNeg, Nat.reduceLT, Nat.reduceSub, Nat.reduceMul]
      exact ⟨_, rfl, _, rfl⟩
theorem f44 : ∀ (N : Nat) (ts : List Term) (es : List (List Imm)) (z : Nat) (q : Bool) (x : Int), Term.nodesL ts < N → All2 Term.Enc ts es → (z = 5 ∨ es = []) → es.length ≤ lim → PF cx 44 [.i .i64 x, .sl z false q es] IsI := by
  intro N
  induction N with
  | zero => intros; omega
  | succ N ih =>
    intro ts es z q x hN h hz hl
    refine PF.intro (fn := Try.f44) Try.func44 rfl rfl ?_
    simp -implicitDefEqProofs only [↓W_seq, go_sem, ↓reduceIte, Nat.reduceBEq, Nat.reduceAdd, Nat.reduceLeDiff, Nat.reduceEqDiff, reduceCtorEq, Int.reduceToNat, Int.reduceLE, Int.reduceLT, Int.reduceEq, Int.reduceNeg, Nat.reduceLT, Nat.reduceSub, Nat.reduceMul]
    refine WL.upto es.length (fun j st => ∃ y H, st = ⟨[(0, .im (.i .i64 x)), (5, .im (.i .i64 y)), (8, .im (.sl z false q es)), (9, .im (.i .i64 es.length)), (10, .im (.i .i64 j))], [], H⟩) ?_ ⟨_, _, rfl⟩
    rintro j st hj ⟨y, H, rfl⟩
    simp -implicitDefEqProofs only [↓W_seq, go_sem, ↓reduceIte, Nat.reduceBEq, Nat.reduceAdd, Nat.reduceLeDiff, Nat.reduceEqDiff, reduceCtorEq, Int.reduceToNat, Int.reduceLE, Int.reduceLT, Int.reduceEq, Int.reduceNeg, Nat.reduceLT, Nat.reduceSub, Nat.reduceMul]
    refine kcd_dec (fun h1 => ?_) (fun h1 => ?_)
    · have hj1 : j < es.length := by omega
      obtain ⟨rfl, a, r, ha, hr, hE⟩ := h.at hz hj1
      obtain ⟨k2, i2, n2, ls2, ks2, lz2, lt2, les2, kz2, kt2, kes2, rfl, rfl, hk2, hi2, hn2, hlz2, hll2, hl2, hkz2, hkl2, hks2⟩ := hE.inv
      simp -implicitDefEqProofs only [↓W_seq, go_sem, ↓reduceIte, Nat.reduceBEq, Nat.reduceAdd, Nat.reduceLeDiff, Nat.reduceEqDiff, reduceCtorEq, Int.reduceToNat, Int.reduceLE, Int.reduceLT, Int.reduceEq, Int.reduceNeg, Nat.reduceLT, Nat.reduceSub, Nat.reduceMul, hj1, hr]
      refine kcd_dec (fun h2 => ?_) (fun h2 => ?_)
      · simp -implicitDefEqProofs only [↓W_seq, go_sem, ↓reduceIte, Nat.reduceBEq, Nat.reduceAdd, Nat.reduceLeDiff, Nat.reduceEqDiff, reduceCtorEq, Int.reduceToNat, Int.reduceLE, Int.reduceLT, Int.reduceEq, Int.reduceNeg, Nat.reduceLT, Nat.reduceSub, Nat.reduceMul]
        exact ⟨_, rfl, _, rfl⟩
      · simp -implicitDefEqProofs only [↓W_seq, go_sem, ↓reduceIte, Nat.reduceBEq, Nat.reduceAdd, Nat.reduceLeDiff, Nat.reduceEqDiff, reduceCtorEq, Int.reduceToNat, Int.reduceLE, Int.reduceLT, Int.reduceEq, Int.reduceNeg, Nat.reduceLT, Nat.reduceSub, Nat.reduceMul]
        refine WC.pf (ih ks2 kes2 kz2 kt2 _ (by have := Term.nodes_get ha; rw [Term.nodes_mk] at this; omega) hks2 hkz2 hkl2) rfl rfl ?_
        rintro _ ⟨m, rfl⟩
        simp -implicitDefEqProofs only [↓W_seq, go_sem, ↓reduceIte, Nat.reduceBEq, Nat.reduceAdd, Nat.reduceLeDiff, Nat.reduceEqDiff, reduceCtorEq, Int.reduceToNat, Int.reduceLE, Int.reduceLT, Int.reduceEq, Int.reduceNeg, Nat.reduceLT, Nat.reduceSub, Nat.reduceMul, wrap_succ hj1 hl]
        (first | exact ⟨_, rfl, _, rfl⟩ | exact rfl | exact ⟨_, rfl⟩ | exact ⟨_, _, rfl⟩ | exact ⟨_, _, _, rfl⟩ | exact ⟨hj1, rfl⟩ | exact ⟨hj1, _, rfl⟩ | exact ⟨hj1, _, _, rfl⟩)
    · simp -implicitDefEqProofs only [↓W_seq, go_sem, ↓reduceIte, Nat.reduceBEq, Nat.reduceAdd, Nat.reduceLeDiff, Nat.reduceEqDiff, reduceCtorEq, Int.reduceToNat, Int.reduceLE, Int.reduceLT, Int.reduceEq, Int.reduceNeg, Nat.reduceLT, Nat.reduceSub, Nat.reduceMul]
      exact ⟨_, rfl, _, rfl⟩
theorem f129 (l : Level) (r : List Imm) (h : l.Enc r) : PF cx 129 [.agg r] IsB := by
  refine PF.intro (fn := Try.f129) Try.func129 rfl rfl ?_
  obtain ⟨z, t, es, rfl, hc, hz, hl, hv⟩ := h
  simp -implicitDefEqProofs only [↓W_seq, go_sem, ↓reduceIte, Nat.reduceBEq, Nat.reduceAdd, Nat.reduceLeDiff, Nat.reduceEqDiff, reduceCtorEq, Int.reduceToNat, Int.reduceLE, Int.reduceLT, Int.reduceEq, Int.reduceNeg, Nat.reduceLT, Nat.reduceSub, Nat.reduceMul]
  exact ⟨_, rfl, _, rfl⟩
theorem f155 {g : FuncId} (hg : ∀ (l : Level) (r : List Imm), l.Enc r → PF cx g [.agg r] IsB) (hs : cx.shared g = false) (ls : List Level) (es : List (List Imm)) (z : Nat) (q : Bool) (h : All2 Level.Enc ls es) (hz : z = 2 ∨ es = []) (hl : es.length ≤ lim) :
    PF cx 155 [.sl z false q es, .fn g []] IsI := by
  refine PF.intro (fn := Try.f155) Try.func155 rfl rfl ?_
  simp -implicitDefEqProofs only [↓W_seq, go_sem, ↓reduceIte, Nat.reduceBEq, Nat.reduceAdd, Nat.reduceLeDiff, Nat.reduceEqDiff, reduceCtorEq, Int.reduceToNat, Int.reduceLE, Int.reduceLT, Int.reduceEq, Int.reduceNeg, Nat.reduceLT, Nat.reduceSub, Nat.reduceMul]
  refine WL.upto es.length (fun j st => st = ⟨[(0, .im (.sl z false q es)), (1, .im (.fn g [])), (7, .im (.i .i64 es.length)), (8, .im (.i .i64 j))], [], []⟩) ?_ rfl
  rintro j st hj rfl
  simp -implicitDefEqProofs only [↓W_seq, go_sem, ↓reduceIte, Nat.reduceBEq, Nat.reduceAdd, Nat.reduceLeDiff, Nat.reduceEqDiff, reduceCtorEq, Int.reduceToNat, Int.reduceLE, Int.reduceLT, Int.reduceEq, Int.reduceNeg, Nat.reduceLT, Nat.reduceSub, Nat.reduceMul]
  refine kcd_dec (fun h1 => ?_) (fun h1 => ?_)
  · have hj1 : j < es.length := by omega
    obtain ⟨rfl, a, r, ha, hr, hE⟩ := h.at hz hj1
    have hr2 : r.length = 2 := by obtain ⟨_, _, _, rfl, _⟩ := hE; rfl
    simp -implicitDefEqProofs only [↓W_seq, go_sem, ↓reduceIte, Nat.reduceBEq, Nat.reduceAdd, Nat.reduceLeDiff, Nat.reduceEqDiff, reduceCtorEq, Int.reduceToNat, Int.reduceLE, Int.reduceLT, Int.reduceEq, Int.reduceNeg, Nat.reduceLT, Nat.reduceSub, Nat.reduceMul, hj1, hr, sub_all hr2]
    refine WC.pf (hg a r hE) rfl hs ?_
    rintro _ ⟨m, rfl⟩
    simp -implicitDefEqProofs only [↓W_seq, go_sem, ↓reduceIte, Nat.reduceBEq, Nat.reduceAdd, Nat.reduceLeDiff, Nat.reduceEqDiff, reduceCtorEq, Int.reduceToNat, Int.reduceLE, Int.reduceLT, Int.reduceEq, Int.reduceNeg, Nat.reduceLT, Nat.reduceSub, Nat.reduceMul]
    refine kcd_b (fun h2 => ?_) (fun h2 => ?_)
    · simp -implicitDefEqProofs only [↓W_seq, go_sem, ↓reduceIte, Nat.reduceBEq, Nat.reduceAdd, Nat.reduceLeDiff, Nat.reduceEqDiff, reduceCtorEq, Int.reduceToNat, Int.reduceLE, Int.reduceLT, Int.reduceEq, Int.reduceNeg, Nat.reduceLT, Nat.reduceSub, Nat.reduceMul]
      exact ⟨_, rfl, _, rfl⟩
    · simp -implicitDefEqProofs only [↓W_seq, go_sem, ↓reduceIte, Nat.reduceBEq, Nat.reduceAdd, Nat.reduceLeDiff, Nat.reduceEqDiff, reduceCtorEq, Int.reduceToNat, Int.reduceLE, Int.reduceLT, Int.reduceEq, Int.reduceNeg, Nat.reduceLT, Nat.reduceSub, Nat.reduceMul, wrap_succ hj1 hl]
  · simp -implicitDefEqProofs only [↓W_seq, go_sem, ↓reduceIte, Nat.reduceBEq, Nat.reduceAdd, Nat.reduceLeDiff, Nat.reduceEqDiff, reduceCtorEq, Int.reduceToNat, Int.reduceLE, Int.reduceLT, Int.reduceEq, Int.reduceNeg, Nat.reduceLT, Nat.reduceSub, Nat.reduceMul]
    exact ⟨_, rfl, _, rfl⟩
theorem f128 {g : FuncId} (hg : ∀ (l : Level) (r : List Imm), l.Enc r → PF cx g [.agg r] IsB) (hs : cx.shared g = false) (ls : List Level) (es : List (List Imm)) (z : Nat) (q : Bool) (h : All2 Level.Enc ls es) (hz : z = 2 ∨ es = []) (hl : es.length ≤ lim) :
    PF cx 128 [.sl z false q es, .fn g []] IsB := by
  refine PF.intro (fn := Try.f128) Try.func128 rfl rfl ?_
  simp -implicitDefEqProofs only [↓W_seq, go_sem, ↓reduceIte, Nat.reduceBEq, Nat.reduceAdd, Nat.reduceLeDiff, Nat.reduceEqDiff, reduceCtorEq, Int.reduceToNat, Int.reduceLE, Int.reduceLT, Int.reduceEq, Int.reduceNeg, Nat.reduceLT, Nat.reduceSub, Nat.reduceMul]
  refine WC.pf (f155 hg hs ls es z q h hz hl) rfl rfl ?_
  rintro _ ⟨m, rfl⟩
  simp -implicitDefEqProofs only [↓W_seq, go_sem, ↓reduceIte, Nat.reduceBEq, Nat.reduceAdd, Nat.reduceLeDiff, Nat.reduceEqDiff, reduceCtorEq, Int.reduceToNat, Int.reduceLE, Int.reduceLT, Int.reduceEq, Int.reduceNeg, Nat.reduceLT, Nat.reduceSub, Nat.reduceMul]
  exact ⟨_, rfl, _, rfl⟩
theorem f92 {g : FuncId} (hg : ∀ (l : Term) (r : List Imm), l.Enc r → PF cx g [.agg r] IsB) (hs : cx.shared g = false) (ls : List Term) (es : List (List Imm)) (z : Nat) (q : Bool) (h : All2 Term.Enc ls es) (hz : z = 5 ∨ es = []) (hl : es.length ≤ lim) :
    PF cx 92 [.sl z false q es, .fn g []] IsI := by
  refine PF.intro (fn := Try.f92) Try.func92 rfl rfl ?_
  simp -implicitDefEqProofs only [↓W_seq, go_sem, ↓reduceIte, Nat.reduceBEq, Nat.reduceAdd, Nat.reduceLeDiff, Nat.reduceEqDiff, reduceCtorEq, Int.reduceToNat, Int.reduceLE, Int.reduceLT, Int.reduceEq, Int.reduceNeg, Nat.reduceLT, Nat.reduceSub, Nat.reduceMul]
  refine WL.upto es.length (fun j st => st = ⟨[(0, .im (.sl z false q es)), (1, .im (.fn g [])), (7, .im (.i .i64 es.length)), (8, .im (.i .i64 j))], [], []⟩) ?_ rfl
  rintro j st hj rfl
  simp -implicitDefEqProofs only [↓W_seq, go_sem, ↓reduceIte, Nat.reduceBEq, Nat.reduceAdd, Nat.reduceLeDiff, Nat.reduceEqDiff, reduceCtorEq, Int.reduceToNat, Int.reduceLE, Int.reduceLT, Int.reduceEq, Int.reduceNeg, Nat.reduceLT, Nat.reduceSub, Nat.reduceMul]
  refine kcd_dec (fun h1 => ?_) (fun h1 => ?_)
  · have hj1 : j < es.length := by omega
    obtain ⟨rfl, a, r, ha, hr, hE⟩ := h.at hz hj1
    simp -implicitDefEqProofs only [↓W_seq, go_sem, ↓reduceIte, Nat.reduceBEq, Nat.reduceAdd, Nat.reduceLeDiff, Nat.reduceEqDiff, reduceCtorEq, Int.reduceToNat, Int.reduceLE, Int.reduceLT, Int.reduceEq, Int.reduceNeg, Nat.reduceLT, Nat.reduceSub, Nat.reduceMul, hj1, hr, sub_all hE.length]
    refine WC.pf (hg a r hE) rfl hs ?_
    rintro _ ⟨m, rfl⟩
    simp -implicitDefEqProofs only [↓W_seq, go_sem, ↓reduceIte, Nat.reduceBEq, Nat.reduceAdd, Nat.reduceLeDiff, Nat.reduceEqDiff, reduceCtorEq, Int.reduceToNat, Int.reduceLE, Int.reduceLT, Int.reduceEq, Int.reduceNeg, Nat.reduceLT, Nat.reduceSub, Nat.reduceMul]
    refine kcd_b (fun h2 => ?_) (fun h2 => ?_)
    · simp -implicitDefEqProofs only [↓W_seq, go_sem, ↓reduceIte, Nat.reduceBEq, Nat.reduceAdd, Nat.reduceLeDiff, Nat.reduceEqDiff, reduceCtorEq, Int.reduceToNat, Int.reduceLE, Int.reduceLT, Int.reduceEq, Int.reduceNeg, Nat.reduceLT, Nat.reduceSub, Nat.reduceMul]
      exact ⟨_, rfl, _, rfl⟩
    · simp -implicitDefEqProofs only [↓W_seq, go_sem, ↓reduceIte, Nat.reduceBEq, Nat.reduceAdd, Nat.reduceLeDiff, Nat.reduceEqDiff, reduceCtorEq, Int.reduceToNat, Int.reduceLE, Int.reduceLT, Int.reduceEq, Int.reduceNeg, Nat.reduceLT, Nat.reduceSub, Nat.reduceMul, wrap_succ hj1 hl]
  · simp -implicitDefEqProofs only [↓W_seq, go_sem, ↓reduceIte, Nat.reduceBEq, Nat.reduceAdd, Nat.reduceLeDiff, Nat.reduceEqDiff, reduceCtorEq, Int.reduceToNat, Int.reduceLE, Int.reduceLT, Int.reduceEq, Int.reduceNeg, Nat.reduceLT, Nat.reduceSub, Nat.reduceMul]
    exact ⟨_, rfl, _, rfl⟩
theorem f46 {g : FuncId} (hg : ∀ (l : Term) (r : List Imm), l.Enc r → PF cx g [.agg r] IsB) (hs : cx.shared g = false) (ls : List Term) (es : List (List Imm)) (z : Nat) (q : Bool) (h : All2 Term.Enc ls es) (hz : z = 5 ∨ es = []) (hl : es.length ≤ lim) :
    PF cx 46 [.sl z false q es, .fn g []] IsB := by
  refine PF.intro (fn := Try.f46) Try.func46 rfl rfl ?_
  simp -implicitDefEqProofs only [↓W_seq, go_sem, ↓reduceIte, Nat.reduceBEq, Nat.reduceAdd, Nat.reduceLeDiff, Nat.reduceEqDiff, reduceCtorEq, Int.reduceToNat, Int.reduceLE, Int.reduceLT, Int.reduceEq, Int.reduceNeg, Nat.reduceLT, Nat.reduceSub, Nat.reduceMul]
  refine WC.pf (f92 hg hs ls es z q h hz hl) rfl rfl ?_
  rintro _ ⟨m, rfl⟩
  simp -implicitDefEqProofs only [↓W_seq, go_sem, ↓reduceIte, Nat.reduceBEq, Nat.reduceAdd, Nat.reduceLeDiff, Nat.reduceEqDiff, reduceCtorEq, Int.reduceToNat, Int.reduceLE, Int.reduceLT, Int.reduceEq, Int.reduceNeg, Nat.reduceLT, Nat.reduceSub, Nat.reduceMul]
  exact ⟨_, rfl, _, rfl⟩
theorem f90 : ∀ (N : Nat) (ts : List Term) (es : List (List Imm)) (z : Nat) (q : Bool), Term.nodesL ts < N → All2 Term.Enc ts es → (z = 5 ∨ es = []) → es.length ≤ lim → PF cx 90 [.sl z false q es] IsB := by
  intro N
  induction N with
  | zero => intros; omega
  | succ N ih =>
    intro ts es z q hN h hz hl
    refine PF.intro (fn := Try.f90) Try.func90 rfl rfl ?_
    simp -implicitDefEqProofs only [↓W_seq, go_sem, ↓reduceIte, Nat.reduceBEq, Nat.reduceAdd, Nat.reduceLeDiff, Nat.reduceEqDiff, reduceCtorEq, Int.reduceToNat, Int.reduceLE, Int.reduceLT, Int.reduceEq, Int.reduceNeg, Nat.reduceLT, Nat.reduceSub, Nat.reduceMul]
    refine WC.pf (f44 _ ts es z q 200 hN h hz hl) rfl rfl ?_
    rintro _ ⟨m, rfl⟩
    simp -implicitDefEqProofs only [↓W_seq, go_sem, ↓reduceIte, Nat.reduceBEq, Nat.reduceAdd, Nat.reduceLeDiff, Nat.reduceEqDiff, reduceCtorEq, Int.reduceToNat, Int.reduceLE, Int.reduceLT, Int.reduceEq, Int.reduceNeg, Nat.reduceLT, Nat.reduceSub, Nat.reduceMul]
    refine kcd_dec (fun h0 => ?_) (fun h0 => ?_)
    · simp -implicitDefEqProofs only [↓W_seq, go_sem, ↓reduceIte, Nat.reduceBEq, Nat.reduceAdd, Nat.reduceLeDiff, Nat.reduceEqDiff, reduceCtorEq, Int.reduceToNat, Int.reduceLE, Int.reduceLT, Int.reduceEq, Int.reduceNeg, Nat.reduceLT, Nat.reduceSub, Nat.reduceMul]
      exact ⟨_, rfl, _, rfl⟩
    simp -implicitDefEqProofs only [↓W_seq, go_sem, ↓reduceIte, Nat.reduceBEq, Nat.reduceAdd, Nat.reduceLeDiff, Nat.reduceEqDiff, reduceCtorEq, Int.reduceToNat, Int.reduceLE, Int.reduceLT, Int.reduceEq, Int.reduceNeg, Nat.reduceLT, Nat.reduceSub, Nat.reduceMul]
    refine WL.upto es.length (fun j st => ∃ H, st = ⟨[(8, .im (.sl z false q es)), (9, .im (.i .i64 es.length)), (10, .im (.i .i64 j))], [], H⟩) ?_ ⟨_, rfl⟩
    rintro j st hj ⟨H, rfl⟩
    simp -implicitDefEqProofs only [↓W_seq, go_sem, ↓reduceIte, Nat.reduceBEq, Nat.reduceAdd, Nat.reduceLeDiff, Nat.reduceEqDiff, reduceCtorEq, Int.reduceToNat, Int.reduceLE, Int.reduceLT, Int.reduceEq, Int.reduceNeg, Nat.reduceLT, Nat.reduceSub, Nat.reduceMul]
    refine kcd_dec (fun h1 => ?_) (fun h1 => ?_)
    · have hj1 : j < es.length := by omega
      obtain ⟨rfl, a, r, ha, hr, hE⟩ := h.at hz hj1
      obtain ⟨k2, i2, n2, ls2, ks2, lz2, lt2, les2, kz2, kt2, kes2, rfl, rfl, hk2, hi2, hn2, hlz2, hll2, hl2, hkz2, hkl2, hks2⟩ := hE.inv
      simp -implicitDefEqProofs only [↓W_seq, go_sem, ↓reduceIte, Nat.reduceBEq, Nat.reduceAdd, Nat.reduceLeDiff, Nat.reduceEqDiff, reduceCtorEq, Int.reduceToNat, Int.reduceLE, Int.reduceLT, Int.reduceEq, Int.reduceNeg, Nat.reduceLT, Nat.reduceSub, Nat.reduceMul, hj1, hr]
      repeat' (first | ((first | refine kgb_not (fun h => ?_) (fun h => ?_) | refine kcd_not (fun h => ?_) (fun h => ?_) | refine kdb_not (fun h => ?_) (fun h => ?_) | refine kgb_b (fun h => ?_) (fun h => ?_) | refine kcd_b (fun h => ?_) (fun h => ?_) | refine kdb_b (fun h => ?_) (fun h => ?_) | fail) <;> simp -implicitDefEqProofs only [↓W_seq, go_sem, ↓reduceIte, Nat.reduceBEq, Nat.reduceAdd, Nat.reduceLeDiff, Nat.reduceEqDiff, reduceCtorEq, Int.reduceToNat, Int.reduceLE, Int.reduceLT, Int.reduceEq, Int.reduceNeg, Nat.reduceLT, Nat.reduceSub, Nat.reduceMul, wrap_succ hj1 hl, h]) | (first | exact ⟨_, rfl, _, rfl⟩ | exact rfl | exact ⟨_, rfl⟩ | exact ⟨_, _, rfl⟩ | exact ⟨_, _, _, rfl⟩ | exact ⟨hj1, rfl⟩ | exact ⟨hj1, _, rfl⟩ | exact ⟨hj1, _, _, rfl⟩) | (refine WC.pf (f128 f129 rfl ls2 les2 lz2 lt2 hl2 hlz2 hll2) rfl rfl ?_; rintro _ ⟨_ | _, rfl⟩ <;> simp -implicitDefEqProofs only [↓W_seq, go_sem, ↓reduceIte, Nat.reduceBEq, Nat.reduceAdd, Nat.reduceLeDiff, Nat.reduceEqDiff, reduceCtorEq, Int.reduceToNat, Int.reduceLE, Int.reduceLT, Int.reduceEq, Int.reduceNeg, Nat.reduceLT, Nat.reduceSub, Nat.reduceMul, wrap_succ hj1 hl]) | (refine WC.pf (ih ks2 kes2 kz2 kt2 (by have := Term.nodes_get ha; rw [Term.nodes_mk] at this; omega) hks2 hkz2 hkl2) rfl rfl ?_; rintro _ ⟨_ | _, rfl⟩ <;> simp -implicitDefEqProofs only [↓W_seq, go_sem, ↓reduceIte, Nat.reduceBEq, Nat.reduceAdd, Nat.reduceLeDiff, Nat.reduceEqDiff, reduceCtorEq, Int.reduceToNat, Int.reduceLE, Int.reduceLT, Int.reduceEq, Int.reduceNeg, Nat.reduceLT, Nat.reduceSub, Nat.reduceMul, wrap_succ hj1 hl]) | fail)
    · simp -implicitDefEqProofs only [↓W_seq, go_sem, ↓reduceIte, Nat.reduceBEq, Nat.reduceAdd, Nat.reduceLeDiff, Nat.reduceEqDiff, reduceCtorEq, Int.reduceToNat, Int.reduceLE, Int.reduceLT, Int.reduceEq, Int.reduceNeg, Nat.reduceLT, Nat.reduceSub, Nat.reduceMul]
      exact ⟨_, rfl, _, rfl⟩
end Go.Proofs.Ytnbbhbbhgcipjaa.Am

namespace Go.Proofs.Ytnbbhbbhgcipjaa.Am
attribute [local irreducible] W WO WD WL WR WC WOp W1 WDf kcall kdfr kpn ob eb kval kvh kH kn0 kmp kvc kvc0 kca kpk kgb kgd kcd kcl kbl kres kmt wseq kseq kblock kreg kdn kdE kbd kcr kdm kdb kdg kdo kfin klp
theorem le4 {n : Nat} (h : n ≤ lim) : n ≤ 4 * lim := by omega
theorem wrap_succ4 {j n : Nat} (h : j < n) (hn : n ≤ 4 * lim) : IntKind.i64.wrap ((j : Int) + 1) = ((j + 1 : Nat) : Int) := by
  have : lim = 1073741824 := rfl
  rw [wrap_id] <;> omega
theorem f148 (s : ByteArray) (hs : s.size ≤ 4 * lim) : PF cx 148 [.s s] IsB := by
  refine PF.intro (fn := Try.f148) Try.func148 rfl rfl ?_
  simp -implicitDefEqProofs only [↓W_seq, go_sem, ↓reduceIte, Nat.reduceBEq, Nat.reduceAdd, Nat.reduceLeDiff, Nat.reduceEqDiff, reduceCtorEq, Int.reduceToNat, Int.reduceLE, Int.reduceLT, Int.reduceEq, Int.reduceNeg, Nat.reduceLT, Nat.reduceSub, Nat.reduceMul]
  repeat' (first | ((first | refine kgb_not (fun h => ?_) (fun h => ?_) | refine kcd_not (fun h => ?_) (fun h => ?_) | refine kdb_not (fun h => ?_) (fun h => ?_) | refine kgb_b (fun h => ?_) (fun h => ?_) | refine kcd_b (fun h => ?_) (fun h => ?_) | refine kdb_b (fun h => ?_) (fun h => ?_) | fail) <;> simp -implicitDefEqProofs only [↓W_seq, go_sem, ↓reduceIte, Nat.reduceBEq, Nat.reduceAdd, Nat.reduceLeDiff, Nat.reduceEqDiff, reduceCtorEq, Int.reduceToNat, Int.reduceLE, Int.reduceLT, Int.reduceEq, Int.reduceNeg, Nat.reduceLT, Nat.reduceSub, Nat.reduceMul, h]) | (first | exact ⟨_, rfl, _, rfl⟩ | exact rfl | exact ⟨_, rfl⟩ | exact ⟨_, _, rfl⟩ | exact ⟨_, _, _, rfl⟩ | exact ⟨hj1, rfl⟩ | exact ⟨hj1, _, rfl⟩ | exact ⟨hj1, _, _, rfl⟩) | fail)
  refine WL.upto s.size (fun j st => ∃ b, st = ⟨[(0, .im (.s s)), (3, .im (.b b)), (4, .im (.i .i64 j))], [], []⟩) ?_ ⟨_, rfl⟩
  rintro j st hj ⟨b, rfl⟩
  simp -implicitDefEqProofs only [↓W_seq, go_sem, ↓reduceIte, Nat.reduceBEq, Nat.reduceAdd, Nat.reduceLeDiff, Nat.reduceEqDiff, reduceCtorEq, Int.reduceToNat, Int.reduceLE, Int.reduceLT, Int.reduceEq, Int.reduceNeg, Nat.reduceLT, Nat.reduceSub, Nat.reduceMul]
  refine kcd_dec (fun h1 => ?_) (fun h1 => ?_)
  · have hj1 : j < s.size := by omega
    obtain ⟨c, hc⟩ : ∃ c, s[j]? = some c := ⟨s[j], by simp [hj1]⟩
    simp -implicitDefEqProofs only [↓W_seq, go_sem, ↓reduceIte, Nat.reduceBEq, Nat.reduceAdd, Nat.reduceLeDiff, Nat.reduceEqDiff, reduceCtorEq, Int.reduceToNat, Int.reduceLE, Int.reduceLT, Int.reduceEq, Int.reduceNeg, Nat.reduceLT, Nat.reduceSub, Nat.reduceMul, hj1, hc]
    cases b with
    | true =>
      simp -implicitDefEqProofs only [↓W_seq, go_sem, ↓reduceIte, Nat.reduceBEq, Nat.reduceAdd, Nat.reduceLeDiff, Nat.reduceEqDiff, reduceCtorEq, Int.reduceToNat, Int.reduceLE, Int.reduceLT, Int.reduceEq, Int.reduceNeg, Nat.reduceLT, Nat.reduceSub, Nat.reduceMul]
      repeat' (first | ((first | refine kgb_not (fun h => ?_) (fun h => ?_) | refine kcd_not (fun h => ?_) (fun h => ?_) | refine kdb_not (fun h => ?_) (fun h => ?_) | refine kgb_b (fun h => ?_) (fun h => ?_) | refine kcd_b (fun h => ?_) (fun h => ?_) | refine kdb_b (fun h => ?_) (fun h => ?_) | fail) <;> simp -implicitDefEqProofs only [↓W_seq, go_sem, ↓reduceIte, Nat.reduceBEq, Nat.reduceAdd, Nat.reduceLeDiff, Nat.reduceEqDiff, reduceCtorEq, Int.reduceToNat, Int.reduceLE, Int.reduceLT, Int.reduceEq, Int.reduceNeg, Nat.reduceLT, Nat.reduceSub, Nat.reduceMul, wrap_succ4 hj1 hs, h]) | (first | exact ⟨_, rfl, _, rfl⟩ | exact rfl | exact ⟨_, rfl⟩ | exact ⟨_, _, rfl⟩ | exact ⟨_, _, _, rfl⟩ | exact ⟨hj1, rfl⟩ | exact ⟨hj1, _, rfl⟩ | exact ⟨hj1, _, _, rfl⟩) | (refine WC.pf (f172 _) rfl rfl ?_; rintro _ ⟨_ | _, rfl⟩ <;> simp -implicitDefEqProofs only [↓W_seq, go_sem, ↓reduceIte, Nat.reduceBEq, Nat.reduceAdd, Nat.reduceLeDiff, Nat.reduceEqDiff, reduceCtorEq, Int.reduceToNat, Int.reduceLE, Int.reduceLT, Int.reduceEq, Int.reduceNeg, Nat.reduceLT, Nat.reduceSub, Nat.reduceMul, wrap_succ4 hj1 hs]) | fail)
    | false =>
      simp -implicitDefEqProofs only [↓W_seq, go_sem, ↓reduceIte, Nat.reduceBEq, Nat.reduceAdd, Nat.reduceLeDiff, Nat.reduceEqDiff, reduceCtorEq, Int.reduceToNat, Int.reduceLE, Int.reduceLT, Int.reduceEq, Int.reduceNeg, Nat.reduceLT, Nat.reduceSub, Nat.reduceMul]
      repeat' (first | ((first | refine kgb_not (fun h => ?_) (fun h => ?_) | refine kcd_not (fun h => ?_) (fun h => ?_) | refine kdb_not (fun h => ?_) (fun h => ?_) | refine kgb_b (fun h => ?_) (fun h => ?_) | refine kcd_b (fun h => ?_) (fun h => ?_) | refine kdb_b (fun h => ?_) (fun h => ?_) | fail) <;> simp -implicitDefEqProofs only [↓W_seq, go_sem, ↓reduceIte, Nat.reduceBEq, Nat.reduceAdd, Nat.reduceLeDiff, Nat.reduceEqDiff, reduceCtorEq, Int.reduceToNat, Int.reduceLE, Int.reduceLT, Int.reduceEq, Int.reduceNeg, Nat.reduceLT, Nat.reduceSub, Nat.reduceMul, wrap_succ4 hj1 hs, h]) | (first | exact ⟨_, rfl, _, rfl⟩ | exact rfl | exact ⟨_, rfl⟩ | exact ⟨_, _, rfl⟩ | exact ⟨_, _, _, rfl⟩ | exact ⟨hj1, rfl⟩ | exact ⟨hj1, _, rfl⟩ | exact ⟨hj1, _, _, rfl⟩) | (refine WC.pf (f172 _) rfl rfl ?_; rintro _ ⟨_ | _, rfl⟩ <;> simp -implicitDefEqProofs only [↓W_seq, go_sem, ↓reduceIte, Nat.reduceBEq, Nat.reduceAdd, Nat.reduceLeDiff, Nat.reduceEqDiff, reduceCtorEq, Int.reduceToNat, Int.reduceLE, Int.reduceLT, Int.reduceEq, Int.reduceNeg, Nat.reduceLT, Nat.reduceSub, Nat.reduceMul, wrap_succ4 hj1 hs]) | fail)
  · simp -implicitDefEqProofs only [↓W_seq, go_sem, ↓reduceIte, Nat.reduceBEq, Nat.reduceAdd, Nat.reduceLeDiff, Nat.reduceEqDiff, reduceCtorEq, Int.reduceToNat, Int.reduceLE, Int.reduceLT, Int.reduceEq, Int.reduceNeg, Nat.reduceLT, Nat.reduceSub, Nat.reduceMul]
    (first | exact ⟨_, rfl, _, rfl⟩ | exact rfl | exact ⟨_, rfl⟩ | exact ⟨_, _, rfl⟩ | exact ⟨_, _, _, rfl⟩ | exact ⟨hj1, rfl⟩ | exact ⟨hj1, _, rfl⟩ | exact ⟨hj1, _, _, rfl⟩)
theorem f189 (l : Level) (r : List Imm) (h : l.Enc r) : PF cx 189 [.agg r] IsB := by
  refine PF.intro (fn := Try.f189) Try.func189 rfl rfl ?_
  obtain ⟨z, t, es, rfl, hc, hz, hl, hv⟩ := h
  simp -implicitDefEqProofs only [↓W_seq, go_sem, ↓reduceIte, Nat.reduceBEq, Nat.reduceAdd, Nat.reduceLeDiff, Nat.reduceEqDiff, reduceCtorEq, Int.reduceToNat, Int.reduceLE, Int.reduceLT, Int.reduceEq, Int.reduceNeg, Nat.reduceLT, Nat.reduceSub, Nat.reduceMul]
  repeat' (first | ((first | refine kgb_not (fun h => ?_) (fun h => ?_) | refine kcd_not (fun h => ?_) (fun h => ?_) | refine kdb_not (fun h => ?_) (fun h => ?_) | refine kgb_b (fun h => ?_) (fun h => ?_) | refine kcd_b (fun h => ?_) (fun h => ?_) | refine kdb_b (fun h => ?_) (fun h => ?_) | fail) <;> simp -implicitDefEqProofs only [↓W_seq, go_sem, ↓reduceIte, Nat.reduceBEq, Nat.reduceAdd, Nat.reduceLeDiff, Nat.reduceEqDiff, reduceCtorEq, Int.reduceToNat, Int.reduceLE, Int.reduceLT, Int.reduceEq, Int.reduceNeg, Nat.reduceLT, Nat.reduceSub, Nat.reduceMul, h]) | (first | exact ⟨_, rfl, _, rfl⟩ | exact rfl | exact ⟨_, rfl⟩ | exact ⟨_, _, rfl⟩ | exact ⟨_, _, _, rfl⟩ | exact ⟨hj1, rfl⟩ | exact ⟨hj1, _, rfl⟩ | exact ⟨hj1, _, _, rfl⟩) | fail)
  refine WL.upto es.length (fun j st => ∃ H, st = ⟨[(1, .im (.ip 2 false [[.i .i64 l.const, .sl z false t es]] 0 0)), (3, .im (.i .i64 j))], [], H⟩) ?_ ⟨_, rfl⟩
  rintro j st hj ⟨H, rfl⟩
  simp -implicitDefEqProofs only [↓W_seq, go_sem, ↓reduceIte, Nat.reduceBEq, Nat.reduceAdd, Nat.reduceLeDiff, Nat.reduceEqDiff, reduceCtorEq, Int.reduceToNat, Int.reduceLE, Int.reduceLT, Int.reduceEq, Int.reduceNeg, Nat.reduceLT, Nat.reduceSub, Nat.reduceMul]
  refine kcd_dec (fun h1 => ?_) (fun h1 => ?_)
  · have hj1 : j < es.length := by omega
    obtain ⟨rfl, a, r, ha, hr, hE, ha1, ha2⟩ := hv.at hz hj1
    subst hE
    cases j with
    | zero =>
      simp -implicitDefEqProofs only [↓W_seq, go_sem, ↓reduceIte, Nat.reduceBEq, Nat.reduceAdd, Nat.reduceLeDiff, Nat.reduceEqDiff, reduceCtorEq, Int.reduceToNat, Int.reduceLE, Int.reduceLT, Int.reduceEq, Int.reduceNeg, Nat.reduceLT, Nat.reduceSub, Nat.reduceMul, hj1, hr]
      repeat' (first | ((first | refine kgb_not (fun h => ?_) (fun h => ?_) | refine kcd_not (fun h => ?_) (fun h => ?_) | refine kdb_not (fun h => ?_) (fun h => ?_) | refine kgb_b (fun h => ?_) (fun h => ?_) | refine kcd_b (fun h => ?_) (fun h => ?_) | refine kdb_b (fun h => ?_) (fun h => ?_) | fail) <;> simp -implicitDefEqProofs only [↓W_seq, go_sem, ↓reduceIte, Nat.reduceBEq, Nat.reduceAdd, Nat.reduceLeDiff, Nat.reduceEqDiff, reduceCtorEq, Int.reduceToNat, Int.reduceLE, Int.reduceLT, Int.reduceEq, Int.reduceNeg, Nat.reduceLT, Nat.reduceSub, Nat.reduceMul, wrap_succ hj1 hl, h]) | (first | exact ⟨_, rfl, _, rfl⟩ | exact rfl | exact ⟨_, rfl⟩ | exact ⟨_, _, rfl⟩ | exact ⟨_, _, _, rfl⟩ | exact ⟨hj1, rfl⟩ | exact ⟨hj1, _, rfl⟩ | exact ⟨hj1, _, _, rfl⟩) | (exact absurd (of_decide_eq_true h) (by omega)) | fail)
    | succ j =>
      obtain ⟨_, b, r', hb, hr', hE', _, _⟩ := hv.at (c := 2) (.inl rfl) (j := j) (by omega)
      subst hE'
      have hj2 : j < es.length := by omega
      simp -implicitDefEqProofs only [↓W_seq, go_sem, ↓reduceIte, Nat.reduceBEq, Nat.reduceAdd, Nat.reduceLeDiff, Nat.reduceEqDiff, reduceCtorEq, Int.reduceToNat, Int.reduceLE, Int.reduceLT, Int.reduceEq, Int.reduceNeg, Nat.reduceLT, Nat.reduceSub, Nat.reduceMul, hj1, hr]
      repeat' (first | ((first | refine kgb_not (fun h => ?_) (fun h => ?_) | refine kcd_not (fun h => ?_) (fun h => ?_) | refine kdb_not (fun h => ?_) (fun h => ?_) | refine kgb_b (fun h => ?_) (fun h => ?_) | refine kcd_b (fun h => ?_) (fun h => ?_) | refine kdb_b (fun h => ?_) (fun h => ?_) | fail) <;> simp -implicitDefEqProofs only [↓W_seq, go_sem, ↓reduceIte, Nat.reduceBEq, Nat.reduceAdd, Nat.reduceLeDiff, Nat.reduceEqDiff, reduceCtorEq, Int.reduceToNat, Int.reduceLE, Int.reduceLT, Int.reduceEq, Int.reduceNeg, Nat.reduceLT, Nat.reduceSub, Nat.reduceMul, wrap_succ hj1 hl, wrap_pred hj2 hl, hr', hj2, h]) | (first | exact ⟨_, rfl, _, rfl⟩ | exact rfl | exact ⟨_, rfl⟩ | exact ⟨_, _, rfl⟩ | exact ⟨_, _, _, rfl⟩ | exact ⟨hj1, rfl⟩ | exact ⟨hj1, _, rfl⟩ | exact ⟨hj1, _, _, rfl⟩) | fail)
  · simp -implicitDefEqProofs only [↓W_seq, go_sem, ↓reduceIte, Nat.reduceBEq, Nat.reduceAdd, Nat.reduceLeDiff, Nat.reduceEqDiff, reduceCtorEq, Int.reduceToNat, Int.reduceLE, Int.reduceLT, Int.reduceEq, Int.reduceNeg, Nat.reduceLT, Nat.reduceSub, Nat.reduceMul]
    (first | exact ⟨_, rfl, _, rfl⟩ | exact rfl | exact ⟨_, rfl⟩ | exact ⟨_, _, rfl⟩ | exact ⟨_, _, _, rfl⟩ | exact ⟨hj1, rfl⟩ | exact ⟨hj1, _, rfl⟩ | exact ⟨hj1, _, _, rfl⟩)
theorem f157 (l : Level) (r : List Imm) (x y : Int) (h : l.Enc r) : PF cx 157 [.agg r, .i .i64 x, .i .i64 y] IsI := by
  refine PF.intro (fn := Try.f157) Try.func157 rfl rfl ?_
  have hf := f189 l r h
  obtain ⟨z, t, es, rfl, hc, hz, hl, hv⟩ := h
  simp -implicitDefEqProofs only [↓W_seq, go_sem, ↓reduceIte, Nat.reduceBEq, Nat.reduceAdd, Nat.reduceLeDiff, Nat.reduceEqDiff, reduceCtorEq, Int.reduceToNat, Int.reduceLE, Int.reduceLT, Int.reduceEq, Int.reduceNeg, Nat.reduceLT, Nat.reduceSub, Nat.reduceMul]
  repeat' (first | ((first | refine kgb_not (fun h => ?_) (fun h => ?_) | refine kcd_not (fun h => ?_) (fun h => ?_) | refine kdb_not (fun h => ?_) (fun h => ?_) | refine kgb_b (fun h => ?_) (fun h => ?_) | refine kcd_b (fun h => ?_) (fun h => ?_) | refine kdb_b (fun h => ?_) (fun h => ?_) | fail) <;> simp -implicitDefEqProofs only [↓W_seq, go_sem, ↓reduceIte, Nat.reduceBEq, Nat.reduceAdd, Nat.reduceLeDiff, Nat.reduceEqDiff, reduceCtorEq, Int.reduceToNat, Int.reduceLE, Int.reduceLT, Int.reduceEq, Int.reduceNeg, Nat.reduceLT, Nat.reduceSub, Nat.reduceMul, h]) | (first | exact ⟨_, rfl, _, rfl⟩ | exact rfl | exact ⟨_, rfl⟩ | exact ⟨_, _, rfl⟩ | exact ⟨_, _, _, rfl⟩ | exact ⟨hj1, rfl⟩ | exact ⟨hj1, _, rfl⟩ | exact ⟨hj1, _, _, rfl⟩) | (refine WC.pf (hf) rfl rfl ?_; rintro _ ⟨_ | _, rfl⟩ <;> simp -implicitDefEqProofs only [↓W_seq, go_sem, ↓reduceIte, Nat.reduceBEq, Nat.reduceAdd, Nat.reduceLeDiff, Nat.reduceEqDiff, reduceCtorEq, Int.reduceToNat, Int.reduceLE, Int.reduceLT, Int.reduceEq, Int.reduceNeg, Nat.reduceLT, Nat.reduceSub, Nat.reduceMul]) | fail)
  refine WL.upto es.length (fun j st => st = ⟨[(1, .im (.i .i64 x)), (2, .im (.i .i64 y)), (3, .im (.ip 2 false [[.i .i64 l.const, .sl z false t es]] 0 0)), (7, .im (.i .i64 j))], [], []⟩) ?_ rfl
  rintro j st hj rfl
  simp -implicitDefEqProofs only [↓W_seq, go_sem, ↓reduceIte, Nat.reduceBEq, Nat.reduceAdd, Nat.reduceLeDiff, Nat.reduceEqDiff, reduceCtorEq, Int.reduceToNat, Int.reduceLE, Int.reduceLT, Int.reduceEq, Int.reduceNeg, Nat.reduceLT, Nat.reduceSub, Nat.reduceMul]
  refine kcd_dec (fun h1 => ?_) (fun h1 => ?_)
  · have hj1 : j < es.length := by omega
    obtain ⟨rfl, a, r, ha, hr, hE, ha1, ha2⟩ := hv.at hz hj1
    subst hE
    simp -implicitDefEqProofs only [↓W_seq, go_sem, ↓reduceIte, Nat.reduceBEq, Nat.reduceAdd, Nat.reduceLeDiff, Nat.reduceEqDiff, reduceCtorEq, Int.reduceToNat, Int.reduceLE, Int.reduceLT, Int.reduceEq, Int.reduceNeg, Nat.reduceLT, Nat.reduceSub, Nat.reduceMul, hj1, hr]
    repeat' (first | ((first | refine kgb_not (fun h => ?_) (fun h => ?_) | refine kcd_not (fun h => ?_) (fun h => ?_) | refine kdb_not (fun h => ?_) (fun h => ?_) | refine kgb_b (fun h => ?_) (fun h => ?_) | refine kcd_b (fun h => ?_) (fun h => ?_) | refine kdb_b (fun h => ?_) (fun h => ?_) | fail) <;> simp -implicitDefEqProofs only [↓W_seq, go_sem, ↓reduceIte, Nat.reduceBEq, Nat.reduceAdd, Nat.reduceLeDiff, Nat.reduceEqDiff, reduceCtorEq, Int.reduceToNat, Int.reduceLE, Int.reduceLT, Int.reduceEq, Int.reduceNeg, Nat.reduceLT, Nat.reduceSub, Nat.reduceMul, wrap_succ hj1 hl, hj1, hr, h]) | (first | exact ⟨_, rfl, _, rfl⟩ | exact rfl | exact ⟨_, rfl⟩ | exact ⟨_, _, rfl⟩ | exact ⟨_, _, _, rfl⟩ | exact ⟨hj1, rfl⟩ | exact ⟨hj1, _, rfl⟩ | exact ⟨hj1, _, _, rfl⟩) | fail)
  · simp -implicitDefEqProofs only [↓W_seq, go_sem, ↓reduceIte, Nat.reduceBEq, Nat.reduceAdd, Nat.reduceLeDiff, Nat.reduceEqDiff, reduceCtorEq, Int.reduceToNat, Int.reduceLE, Int.reduceLT, Int.reduceEq, Int.reduceNeg, Nat.reduceLT, Nat.reduceSub, Nat.reduceMul]
    refine WL.upto es.length (fun j st => st = ⟨[(2, .im (.i .i64 y)), (3, .im (.ip 2 false [[.i .i64 l.const, .sl z false t es]] 0 0)), (8, .im (.i .i64 j))], [], []⟩) ?_ rfl
    rintro j st hj rfl
    simp -implicitDefEqProofs only [↓W_seq, go_sem, ↓reduceIte, Nat.reduceBEq, Nat.reduceAdd, Nat.reduceLeDiff, Nat.reduceEqDiff, reduceCtorEq, Int.reduceToNat, Int.reduceLE, Int.reduceLT, Int.reduceEq, Int.reduceNeg, Nat.reduceLT, Nat.reduceSub, Nat.reduceMul]
    refine kcd_dec (fun h1 => ?_) (fun h1 => ?_)
    · have hj1 : j < es.length := by omega
      obtain ⟨rfl, a, r, ha, hr, hE, ha1, ha2⟩ := hv.at hz hj1
      subst hE
      simp -implicitDefEqProofs only [↓W_seq, go_sem, ↓reduceIte, Nat.reduceBEq, Nat.reduceAdd, Nat.reduceLeDiff, Nat.reduceEqDiff, reduceCtorEq, Int.reduceToNat, Int.reduceLE, Int.reduceLT, Int.reduceEq, Int.reduceNeg, Nat.reduceLT, Nat.reduceSub, Nat.reduceMul, hj1, hr]
      repeat' (first | ((first | refine kgb_not (fun h => ?_) (fun h => ?_) | refine kcd_not (fun h => ?_) (fun h => ?_) | refine kdb_not (fun h => ?_) (fun h => ?_) | refine kgb_b (fun h => ?_) (fun h => ?_) | refine kcd_b (fun h => ?_) (fun h => ?_) | refine kdb_b (fun h => ?_) (fun h => ?_) | fail) <;> simp -implicitDefEqProofs only [↓W_seq, go_sem, ↓reduceIte, Nat.reduceBEq, Nat.reduceAdd, Nat.reduceLeDiff, Nat.reduceEqDiff, reduceCtorEq, Int.reduceToNat, Int.reduceLE, Int.reduceLT, Int.reduceEq, Int.reduceNeg, Nat.reduceLT, Nat.reduceSub, Nat.reduceMul, wrap_succ hj1 hl, hj1, hr, h]) | (first | exact ⟨_, rfl, _, rfl⟩ | exact rfl | exact ⟨_, rfl⟩ | exact ⟨_, _, rfl⟩ | exact ⟨_, _, _, rfl⟩ | exact ⟨hj1, rfl⟩ | exact ⟨hj1, _, rfl⟩ | exact ⟨hj1, _, _, rfl⟩) | fail)
    · simp -implicitDefEqProofs only [↓W_seq, go_sem, ↓reduceIte, Nat.reduceBEq, Nat.reduceAdd, Nat.reduceLeDiff, Nat.reduceEqDiff, reduceCtorEq, Int.reduceToNat, Int.reduceLE, Int.reduceLT, Int.reduceEq, Int.reduceNeg, Nat.reduceLT, Nat.reduceSub, Nat.reduceMul]
      (first | exact ⟨_, rfl, _, rfl⟩ | exact rfl | exact ⟨_, rfl⟩ | exact ⟨_, _, rfl⟩ | exact ⟨_, _, _, rfl⟩ | exact ⟨hj1, rfl⟩ | exact ⟨hj1, _, rfl⟩ | exact ⟨hj1, _, _, rfl⟩)
theorem f130 : ∀ (N : Nat) (t : Term) (r : List Imm) (d v p m l : Int), t.nodes ≤ N → t.Enc r → PF cx 130 [.agg r, .i .i64 d, .i .i64 v, .i .i64 p, .i .i64 m, .i .i64 l] IsI := by
  intro N
  induction N with
  | zero => intro t r _ _ _ _ _ hN; have := t.nodes_pos; omega
  | succ N ih =>
    intro t r d v p m l hN h
    refine PF.intro (fn := Try.f130) Try.func130 rfl rfl ?_
    have h156 := f156 t r h
    obtain ⟨k, i, n, ls, ks, lz, lt, les, kz, kt, kes, rfl, rfl, hk, hi, hn, hlz, hll, hl, hkz, hkl, hks⟩ := h.inv
    rw [W_seq]
    simp -implicitDefEqProofs only [go_sem, ↓reduceIte, Nat.reduceBEq, Nat.reduceAdd, Nat.reduceLeDiff, Nat.reduceEqDiff, reduceCtorEq, Int.reduceToNat, Int.reduceLE, Int.reduceLT, Int.reduceEq, Int.reduceNeg, Nat.reduceLT, Nat.reduceSub, Nat.reduceMul]
    refine W.cutseq (fun st => ∃ b, st = ⟨[(1, .im (.i .i64 d)), (2, .im (.i .i64 v)), (3, .im (.i .i64 p)), (4, .im (.i .i64 m)), (5, .im (.i .i64 l)), (6, .im (.ip 5 false [[.i .i64 k, .i .i64 i, .s n, .sl lz false lt les, .sl kz false kt kes]] 0 0)), (19, .im (.b b))], [], []⟩) ?_ ?_
    · simp -implicitDefEqProofs only [↓W_seq, go_sem, ↓reduceIte, Nat.reduceBEq, Nat.reduceAdd, Nat.reduceLeDiff, Nat.reduceEqDiff, reduceCtorEq, Int.reduceToNat, Int.reduceLE, Int.reduceLT, Int.reduceEq, Int.reduceNeg, Nat.reduceLT, Nat.reduceSub, Nat.reduceMul]
      repeat' (first | ((first | refine kgb_not (fun h => ?_) (fun h => ?_) | refine kcd_not (fun h => ?_) (fun h => ?_) | refine kdb_not (fun h => ?_) (fun h => ?_) | refine kgb_b (fun h => ?_) (fun h => ?_) | refine kcd_b (fun h => ?_) (fun h => ?_) | refine kdb_b (fun h => ?_) (fun h => ?_) | fail) <;> simp -implicitDefEqProofs only [↓W_seq, go_sem, ↓reduceIte, Nat.reduceBEq, Nat.reduceAdd, Nat.reduceLeDiff, Nat.reduceEqDiff, reduceCtorEq, Int.reduceToNat, Int.reduceLE, Int.reduceLT, Int.reduceEq, Int.reduceNeg, Nat.reduceLT, Nat.reduceSub, Nat.reduceMul, h]) | (first | exact ⟨_, rfl, _, rfl⟩ | exact rfl | exact ⟨_, rfl⟩ | exact ⟨_, _, rfl⟩ | exact ⟨_, _, _, rfl⟩ | exact ⟨hj1, rfl⟩ | exact ⟨hj1, _, rfl⟩ | exact ⟨hj1, _, _, rfl⟩) | (refine WC.pf (h156) rfl rfl ?_; rintro _ ⟨_ | _, rfl⟩ <;> simp -implicitDefEqProofs only [↓W_seq, go_sem, ↓reduceIte, Nat.reduceBEq, Nat.reduceAdd, Nat.reduceLeDiff, Nat.reduceEqDiff, reduceCtorEq, Int.reduceToNat, Int.reduceLE, Int.reduceLT, Int.reduceEq, Int.reduceNeg, Nat.reduceLT, Nat.reduceSub, Nat.reduceMul]) | fail)
    rintro _ ⟨b, rfl⟩
    refine W.cutseq (fun st => ∃ b, st = ⟨[(1, .im (.i .i64 d)), (2, .im (.i .i64 v)), (3, .im (.i .i64 p)), (4, .im (.i .i64 m)), (5, .im (.i .i64 l)), (6, .im (.ip 5 false [[.i .i64 k, .i .i64 i, .s n, .sl lz false lt les, .sl kz false kt kes]] 0 0)), (28, .im (.b b))], [], []⟩) ?_ ?_
    · simp -implicitDefEqProofs only [↓W_seq, go_sem, ↓reduceIte, Nat.reduceBEq, Nat.reduceAdd, Nat.reduceLeDiff, Nat.reduceEqDiff, reduceCtorEq, Int.reduceToNat, Int.reduceLE, Int.reduceLT, Int.reduceEq, Int.reduceNeg, Nat.reduceLT, Nat.reduceSub, Nat.reduceMul]
      repeat' (first | ((first | refine kgb_not (fun h => ?_) (fun h => ?_) | refine kcd_not (fun h => ?_) (fun h => ?_) | refine kdb_not (fun h => ?_) (fun h => ?_) | refine kgb_b (fun h => ?_) (fun h => ?_) | refine kcd_b (fun h => ?_) (fun h => ?_) | refine kdb_b (fun h => ?_) (fun h => ?_) | fail) <;> simp -implicitDefEqProofs only [↓W_seq, go_sem, ↓reduceIte, Nat.reduceBEq, Nat.reduceAdd, Nat.reduceLeDiff, Nat.reduceEqDiff, reduceCtorEq, Int.reduceToNat, Int.reduceLE, Int.reduceLT, Int.reduceEq, Int.reduceNeg, Nat.reduceLT, Nat.reduceSub, Nat.reduceMul, h]) | (first | exact ⟨_, rfl, _, rfl⟩ | exact rfl | exact ⟨_, rfl⟩ | exact ⟨_, _, rfl⟩ | exact ⟨_, _, _, rfl⟩ | exact ⟨hj1, rfl⟩ | exact ⟨hj1, _, rfl⟩ | exact ⟨hj1, _, _, rfl⟩) | (refine WC.pf (f148 n (le4 hn)) rfl rfl ?_; rintro _ ⟨_ | _, rfl⟩ <;> simp -implicitDefEqProofs only [↓W_seq, go_sem, ↓reduceIte, Nat.reduceBEq, Nat.reduceAdd, Nat.reduceLeDiff, Nat.reduceEqDiff, reduceCtorEq, Int.reduceToNat, Int.reduceLE, Int.reduceLT, Int.reduceEq, Int.reduceNeg, Nat.reduceLT, Nat.reduceSub, Nat.reduceMul]) | fail)
    rintro _ ⟨b, rfl⟩
    refine W.cutseq (fun st => ∃ b, st = ⟨[(1, .im (.i .i64 d)), (2, .im (.i .i64 v)), (3, .im (.i .i64 p)), (4, .im (.i .i64 m)), (5, .im (.i .i64 l)), (6, .im (.ip 5 false [[.i .i64 k, .i .i64 i, .s n, .sl lz false lt les, .sl kz false kt kes]] 0 0)), (32, .im (.b b))], [], []⟩) ?_ ?_
    · simp -implicitDefEqProofs only [↓W_seq, go_sem, ↓reduceIte, Nat.reduceBEq, Nat.reduceAdd, Nat.reduceLeDiff, Nat.reduceEqDiff, reduceCtorEq, Int.reduceToNat, Int.reduceLE, Int.reduceLT, Int.reduceEq, Int.reduceNeg, Nat.reduceLT, Nat.reduceSub, Nat.reduceMul]
      repeat' (first | ((first | refine kgb_not (fun h => ?_) (fun h => ?_) | refine kcd_not (fun h => ?_) (fun h => ?_) | refine kdb_not (fun h => ?_) (fun h => ?_) | refine kgb_b (fun h => ?_) (fun h => ?_) | refine kcd_b (fun h => ?_) (fun h => ?_) | refine kdb_b (fun h => ?_) (fun h => ?_) | fail) <;> simp -implicitDefEqProofs only [↓W_seq, go_sem, ↓reduceIte, Nat.reduceBEq, Nat.reduceAdd, Nat.reduceLeDiff, Nat.reduceEqDiff, reduceCtorEq, Int.reduceToNat, Int.reduceLE, Int.reduceLT, Int.reduceEq, Int.reduceNeg, Nat.reduceLT, Nat.reduceSub, Nat.reduceMul, h]) | (first | exact ⟨_, rfl, _, rfl⟩ | exact rfl | exact ⟨_, rfl⟩ | exact ⟨_, _, rfl⟩ | exact ⟨_, _, _, rfl⟩ | exact ⟨hj1, rfl⟩ | exact ⟨hj1, _, rfl⟩ | exact ⟨hj1, _, _, rfl⟩) | fail)
    rintro _ ⟨b, rfl⟩
    refine W.cutseq (fun st => ∃ H, st = ⟨[(1, .im (.i .i64 d)), (2, .im (.i .i64 v)), (3, .im (.i .i64 p)), (4, .im (.i .i64 m)), (5, .im (.i .i64 l)), (6, .im (.ip 5 false [[.i .i64 k, .i .i64 i, .s n, .sl lz false lt les, .sl kz false kt kes]] 0 0)), (13, .im (.i .i64 les.length)), (37, .im (.b false))], [], H⟩) ?_ ?_
    · simp -implicitDefEqProofs only [↓W_seq, go_sem, ↓reduceIte, Nat.reduceBEq, Nat.reduceAdd, Nat.reduceLeDiff, Nat.reduceEqDiff, reduceCtorEq, Int.reduceToNat, Int.reduceLE, Int.reduceLT, Int.reduceEq, Int.reduceNeg, Nat.reduceLT, Nat.reduceSub, Nat.reduceMul]
      refine WL.upto les.length (fun j st => ∃ H, st = ⟨[(1, .im (.i .i64 d)), (2, .im (.i .i64 v)), (3, .im (.i .i64 p)), (4, .im (.i .i64 m)), (5, .im (.i .i64 l)), (6, .im (.ip 5 false [[.i .i64 k, .i .i64 i, .s n, .sl lz false lt les, .sl kz false kt kes]] 0 0)), (13, .im (.i .i64 j))], [], H⟩) ?_ ⟨_, rfl⟩
      rintro j st hj ⟨H, rfl⟩
      simp -implicitDefEqProofs only [↓W_seq, go_sem, ↓reduceIte, Nat.reduceBEq, Nat.reduceAdd, Nat.reduceLeDiff, Nat.reduceEqDiff, reduceCtorEq, Int.reduceToNat, Int.reduceLE, Int.reduceLT, Int.reduceEq, Int.reduceNeg, Nat.reduceLT, Nat.reduceSub, Nat.reduceMul]
      refine kcd_dec (fun h1 => ?_) (fun h1 => ?_)
      · have hj1 : j < les.length := by omega
        obtain ⟨rfl, a, r, ha, hr, hE⟩ := hl.at hlz hj1
        have hr2 : r.length = 2 := by obtain ⟨_, _, _, rfl, _⟩ := hE; rfl
        simp -implicitDefEqProofs only [↓W_seq, go_sem, ↓reduceIte, Nat.reduceBEq, Nat.reduceAdd, Nat.reduceLeDiff, Nat.reduceEqDiff, reduceCtorEq, Int.reduceToNat, Int.reduceLE, Int.reduceLT, Int.reduceEq, Int.reduceNeg, Nat.reduceLT, Nat.reduceSub, Nat.reduceMul, hj1, hr, sub_all hr2]
        repeat' (first | ((first | refine kgb_not (fun h => ?_) (fun h => ?_) | refine kcd_not (fun h => ?_) (fun h => ?_) | refine kdb_not (fun h => ?_) (fun h => ?_) | refine kgb_b (fun h => ?_) (fun h => ?_) | refine kcd_b (fun h => ?_) (fun h => ?_) | refine kdb_b (fun h => ?_) (fun h => ?_) | fail) <;> simp -implicitDefEqProofs only [↓W_seq, go_sem, ↓reduceIte, Nat.reduceBEq, Nat.reduceAdd, Nat.reduceLeDiff, Nat.reduceEqDiff, reduceCtorEq, Int.reduceToNat, Int.reduceLE, Int.reduceLT, Int.reduceEq, Int.reduceNeg, Nat.reduceLT, Nat.reduceSub, Nat.reduceMul, wrap_succ hj1 hll, h]) | (first | exact ⟨_, rfl, _, rfl⟩ | exact rfl | exact ⟨_, rfl⟩ | exact ⟨_, _, rfl⟩ | exact ⟨_, _, _, rfl⟩ | exact ⟨hj1, rfl⟩ | exact ⟨hj1, _, rfl⟩ | exact ⟨hj1, _, _, rfl⟩) | (refine WC.pf (f157 a r p l hE) rfl rfl ?_; rintro _ ⟨mm, rfl⟩; simp -implicitDefEqProofs only [↓W_seq, go_sem, ↓reduceIte, Nat.reduceBEq, Nat.reduceAdd, Nat.reduceLeDiff, Nat.reduceEqDiff, reduceCtorEq, Int.reduceToNat, Int.reduceLE, Int.reduceLT, Int.reduceEq, Int.reduceNeg, Nat.reduceLT, Nat.reduceSub, Nat.reduceMul, wrap_succ hj1 hll]) | fail)
      · have : j = les.length := by omega
        subst this
        simp -implicitDefEqProofs only [↓W_seq, go_sem, ↓reduceIte, Nat.reduceBEq, Nat.reduceAdd, Nat.reduceLeDiff, Nat.reduceEqDiff, reduceCtorEq, Int.reduceToNat, Int.reduceLE, Int.reduceLT, Int.reduceEq, Int.reduceNeg, Nat.reduceLT, Nat.reduceSub, Nat.reduceMul, h1]
        (first | exact ⟨_, rfl, _, rfl⟩ | exact rfl | exact ⟨_, rfl⟩ | exact ⟨_, _, rfl⟩ | exact ⟨_, _, _, rfl⟩ | exact ⟨hj1, rfl⟩ | exact ⟨hj1, _, rfl⟩ | exact ⟨hj1, _, _, rfl⟩)
    rintro _ ⟨H, rfl⟩
    refine W.cutseq (fun st => ∃ b H, st = ⟨[(1, .im (.i .i64 d)), (2, .im (.i .i64 v)), (3, .im (.i .i64 p)), (4, .im (.i .i64 m)), (5, .im (.i .i64 l)), (6, .im (.ip 5 false [[.i .i64 k, .i .i64 i, .s n, .sl lz false lt les, .sl kz false kt kes]] 0 0)), (66, .im (.b b))], [], H⟩) ?_ ?_
    · simp -implicitDefEqProofs only [↓W_seq, go_sem, ↓reduceIte, Nat.reduceBEq, Nat.reduceAdd, Nat.reduceLeDiff, Nat.reduceEqDiff, reduceCtorEq, Int.reduceToNat, Int.reduceLE, Int.reduceLT, Int.reduceEq, Int.reduceNeg, Nat.reduceLT, Nat.reduceSub, Nat.reduceMul]
      repeat' (first | ((first | refine kgb_not (fun h => ?_) (fun h => ?_) | refine kcd_not (fun h => ?_) (fun h => ?_) | refine kdb_not (fun h => ?_) (fun h => ?_) | refine kgb_b (fun h => ?_) (fun h => ?_) | refine kcd_b (fun h => ?_) (fun h => ?_) | refine kdb_b (fun h => ?_) (fun h => ?_) | fail) <;> simp -implicitDefEqProofs only [↓W_seq, go_sem, ↓reduceIte, Nat.reduceBEq, Nat.reduceAdd, Nat.reduceLeDiff, Nat.reduceEqDiff, reduceCtorEq, Int.reduceToNat, Int.reduceLE, Int.reduceLT, Int.reduceEq, Int.reduceNeg, Nat.reduceLT, Nat.reduceSub, Nat.reduceMul, h]) | (first | exact ⟨_, rfl, _, rfl⟩ | exact rfl | exact ⟨_, rfl⟩ | exact ⟨_, _, rfl⟩ | exact ⟨_, _, _, rfl⟩ | exact ⟨hj1, rfl⟩ | exact ⟨hj1, _, rfl⟩ | exact ⟨hj1, _, _, rfl⟩) | fail)
    rintro _ ⟨b, H, rfl⟩
    refine W.cutseq (fun st => ∃ b H, st = ⟨[(1, .im (.i .i64 d)), (2, .im (.i .i64 v)), (3, .im (.i .i64 p)), (4, .im (.i .i64 m)), (5, .im (.i .i64 l)), (6, .im (.ip 5 false [[.i .i64 k, .i .i64 i, .s n, .sl lz false lt les, .sl kz false kt kes]] 0 0)), (80, .im (.b b))], [], H⟩) ?_ ?_
    · simp -implicitDefEqProofs only [↓W_seq, go_sem, ↓reduceIte, Nat.reduceBEq, Nat.reduceAdd, Nat.reduceLeDiff, Nat.reduceEqDiff, reduceCtorEq, Int.reduceToNat, Int.reduceLE, Int.reduceLT, Int.reduceEq, Int.reduceNeg, Nat.reduceLT, Nat.reduceSub, Nat.reduceMul]
      repeat' (first | ((first | refine kgb_not (fun h => ?_) (fun h => ?_) | refine kcd_not (fun h => ?_) (fun h => ?_) | refine kdb_not (fun h => ?_) (fun h => ?_) | refine kgb_b (fun h => ?_) (fun h => ?_) | refine kcd_b (fun h => ?_) (fun h => ?_) | refine kdb_b (fun h => ?_) (fun h => ?_) | fail) <;> simp -implicitDefEqProofs only [↓W_seq, go_sem, ↓reduceIte, Nat.reduceBEq, Nat.reduceAdd, Nat.reduceLeDiff, Nat.reduceEqDiff, reduceCtorEq, Int.reduceToNat, Int.reduceLE, Int.reduceLT, Int.reduceEq, Int.reduceNeg, Nat.reduceLT, Nat.reduceSub, Nat.reduceMul, h]) | (first | exact ⟨_, rfl, _, rfl⟩ | exact rfl | exact ⟨_, rfl⟩ | exact ⟨_, _, rfl⟩ | exact ⟨_, _, _, rfl⟩ | exact ⟨hj1, rfl⟩ | exact ⟨hj1, _, rfl⟩ | exact ⟨hj1, _, _, rfl⟩) | fail)
    rintro _ ⟨b, H, rfl⟩
    simp -implicitDefEqProofs only [↓W_seq, go_sem, ↓reduceIte, Nat.reduceBEq, Nat.reduceAdd, Nat.reduceLeDiff, Nat.reduceEqDiff, reduceCtorEq, Int.reduceToNat, Int.reduceLE, Int.reduceLT, Int.reduceEq, Int.reduceNeg, Nat.reduceLT, Nat.reduceSub, Nat.reduceMul]
    refine WL.upto kes.length (fun j st => ∃ H, st = ⟨[(1, .im (.i .i64 d)), (2, .im (.i .i64 v)), (3, .im (.i .i64 p)), (4, .im (.i .i64 m)), (5, .im (.i .i64 l)), (6, .im (.ip 5 false [[.i .i64 k, .i .i64 i, .s n, .sl lz false lt les, .sl kz false kt kes]] 0 0)), (15, .im (.i .i64 j))], [], H⟩) ?_ ⟨_, rfl⟩
    rintro j st hj ⟨H, rfl⟩
    simp -implicitDefEqProofs only [↓W_seq, go_sem, ↓reduceIte, Nat.reduceBEq, Nat.reduceAdd, Nat.reduceLeDiff, Nat.reduceEqDiff, reduceCtorEq, Int.reduceToNat, Int.reduceLE, Int.reduceLT, Int.reduceEq, Int.reduceNeg, Nat.reduceLT, Nat.reduceSub, Nat.reduceMul]
    refine kcd_dec (fun h1 => ?_) (fun h1 => ?_)
    · have hj1 : j < kes.length := by omega
      obtain ⟨rfl, a, r, ha, hr, hE⟩ := hks.at hkz hj1
      have hN' : a.nodes ≤ N := by have := Term.nodes_kid (k := k) (i := i) (n := n) (ls := ls) ha; omega
      simp -implicitDefEqProofs only [↓W_seq, go_sem, ↓reduceIte, Nat.reduceBEq, Nat.reduceAdd, Nat.reduceLeDiff, Nat.reduceEqDiff, reduceCtorEq, Int.reduceToNat, Int.reduceLE, Int.reduceLT, Int.reduceEq, Int.reduceNeg, Nat.reduceLT, Nat.reduceSub, Nat.reduceMul, hj1, hr, sub_all hE.length]
      repeat' (first | ((first | refine kgb_not (fun h => ?_) (fun h => ?_) | refine kcd_not (fun h => ?_) (fun h => ?_) | refine kdb_not (fun h => ?_) (fun h => ?_) | refine kgb_b (fun h => ?_) (fun h => ?_) | refine kcd_b (fun h => ?_) (fun h => ?_) | refine kdb_b (fun h => ?_) (fun h => ?_) | fail) <;> simp -implicitDefEqProofs only [↓W_seq, go_sem, ↓reduceIte, Nat.reduceBEq, Nat.reduceAdd, Nat.reduceLeDiff, Nat.reduceEqDiff, reduceCtorEq, Int.reduceToNat, Int.reduceLE, Int.reduceLT, Int.reduceEq, Int.reduceNeg, Nat.reduceLT, Nat.reduceSub, Nat.reduceMul, wrap_succ hj1 hkl, h]) | (first | exact ⟨_, rfl, _, rfl⟩ | exact rfl | exact ⟨_, rfl⟩ | exact ⟨_, _, rfl⟩ | exact ⟨_, _, _, rfl⟩ | exact ⟨hj1, rfl⟩ | exact ⟨hj1, _, rfl⟩ | exact ⟨hj1, _, _, rfl⟩) | (refine WC.pf (f158 _ _) rfl rfl ?_; rintro _ ⟨mm, rfl⟩; simp -implicitDefEqProofs only [↓W_seq, go_sem, ↓reduceIte, Nat.reduceBEq, Nat.reduceAdd, Nat.reduceLeDiff, Nat.reduceEqDiff, reduceCtorEq, Int.reduceToNat, Int.reduceLE, Int.reduceLT, Int.reduceEq, Int.reduceNeg, Nat.reduceLT, Nat.reduceSub, Nat.reduceMul, wrap_succ hj1 hkl]) | (refine WC.pf (ih a r _ _ _ _ _ hN' hE) rfl rfl ?_; rintro _ ⟨mm, rfl⟩; simp -implicitDefEqProofs only [↓W_seq, go_sem, ↓reduceIte, Nat.reduceBEq, Nat.reduceAdd, Nat.reduceLeDiff, Nat.reduceEqDiff, reduceCtorEq, Int.reduceToNat, Int.reduceLE, Int.reduceLT, Int.reduceEq, Int.reduceNeg, Nat.reduceLT, Nat.reduceSub, Nat.reduceMul, wrap_succ hj1 hkl]) | fail)
    · simp -implicitDefEqProofs only [↓W_seq, go_sem, ↓reduceIte, Nat.reduceBEq, Nat.reduceAdd, Nat.reduceLeDiff, Nat.reduceEqDiff, reduceCtorEq, Int.reduceToNat, Int.reduceLE, Int.reduceLT, Int.reduceEq, Int.reduceNeg, Nat.reduceLT, Nat.reduceSub, Nat.reduceMul]
      (first | exact ⟨_, rfl, _, rfl⟩ | exact rfl | exact ⟨_, rfl⟩ | exact ⟨_, _, rfl⟩ | exact ⟨_, _, _, rfl⟩ | exact ⟨hj1, rfl⟩ | exact ⟨hj1, _, rfl⟩ | exact ⟨hj1, _, _, rfl⟩)
theorem f91 (t : Term) (r : List Imm) (v p m l : Int) (h : t.Enc r) : PF cx 91 [.agg r, .i .i64 v, .i .i64 p, .i .i64 m, .i .i64 l] IsI := by
  refine PF.intro (fn := Try.f91) Try.func91 rfl rfl ?_
  have h0 := h
  obtain ⟨k, i, n, ls, ks, lz, lt, les, kz, kt, kes, rfl, rfl, hk, hi, hn, hlz, hll, hl, hkz, hkl, hks⟩ := h.inv
  simp -implicitDefEqProofs only [↓W_seq, go_sem, ↓reduceIte, Nat.reduceBEq, Nat.reduceAdd, Nat.reduceLeDiff, Nat.reduceEqDiff, reduceCtorEq, Int.reduceToNat, Int.reduceLE, Int.reduceLT, Int.reduceEq, Int.reduceNeg, Nat.reduceLT, Nat.reduceSub, Nat.reduceMul]
  repeat' (first | ((first | refine kgb_not (fun h => ?_) (fun h => ?_) | refine kcd_not (fun h => ?_) (fun h => ?_) | refine kdb_not (fun h => ?_) (fun h => ?_) | refine kgb_b (fun h => ?_) (fun h => ?_) | refine kcd_b (fun h => ?_) (fun h => ?_) | refine kdb_b (fun h => ?_) (fun h => ?_) | fail) <;> simp -implicitDefEqProofs only [↓W_seq, go_sem, ↓reduceIte, Nat.reduceBEq, Nat.reduceAdd, Nat.reduceLeDiff, Nat.reduceEqDiff, reduceCtorEq, Int.reduceToNat, Int.reduceLE, Int.reduceLT, Int.reduceEq, Int.reduceNeg, Nat.reduceLT, Nat.reduceSub, Nat.reduceMul, h]) | (first | exact ⟨_, rfl, _, rfl⟩ | exact rfl | exact ⟨_, rfl⟩ | exact ⟨_, _, rfl⟩ | exact ⟨_, _, _, rfl⟩ | exact ⟨hj1, rfl⟩ | exact ⟨hj1, _, rfl⟩ | exact ⟨hj1, _, _, rfl⟩) | (refine WC.pf (f130 _ _ _ _ _ _ _ _ (Nat.le_refl _) h0) rfl rfl ?_; rintro _ ⟨mm, rfl⟩; simp -implicitDefEqProofs only [↓W_seq, go_sem, ↓reduceIte, Nat.reduceBEq, Nat.reduceAdd, Nat.reduceLeDiff, Nat.reduceEqDiff, reduceCtorEq, Int.reduceToNat, Int.reduceLE, Int.reduceLT, Int.reduceEq, Int.reduceNeg, Nat.reduceLT, Nat.reduceSub, Nat.reduceMul]) | (refine WC.pf (f17 _ _ _ (Nat.le_refl _) h0) rfl rfl ?_; rintro _ ⟨mm, rfl⟩; simp -implicitDefEqProofs only [↓W_seq, go_sem, ↓reduceIte, Nat.reduceBEq, Nat.reduceAdd, Nat.reduceLeDiff, Nat.reduceEqDiff, reduceCtorEq, Int.reduceToNat, Int.reduceLE, Int.reduceLT, Int.reduceEq, Int.reduceNeg, Nat.reduceLT, Nat.reduceSub, Nat.reduceMul]) | (refine WC.pf (f131 _ _ _ (Nat.le_refl _) h0) rfl rfl ?_; rintro _ ⟨mm, rfl⟩; simp -implicitDefEqProofs only [↓W_seq, go_sem, ↓reduceIte, Nat.reduceBEq, Nat.reduceAdd, Nat.reduceLeDiff, Nat.reduceEqDiff, reduceCtorEq, Int.reduceToNat, Int.reduceLE, Int.reduceLT, Int.reduceEq, Int.reduceNeg, Nat.reduceLT, Nat.reduceSub, Nat.reduceMul]) | fail)
theorem f47 (t : Term) (r : List Imm) (h : t.Enc r) : PF cx 47 [.agg r] IsB := by
  refine PF.intro (fn := Try.f47) Try.func47 rfl rfl ?_
  have h0 := h
  obtain ⟨k, i, n, ls, ks, lz, lt, les, kz, kt, kes, rfl, rfl, hk, hi, hn, hlz, hll, hl, hkz, hkl, hks⟩ := h.inv
  simp -implicitDefEqProofs only [↓W_seq, go_sem, ↓reduceIte, Nat.reduceBEq, Nat.reduceAdd, Nat.reduceLeDiff, Nat.reduceEqDiff, reduceCtorEq, Int.reduceToNat, Int.reduceLE, Int.reduceLT, Int.reduceEq, Int.reduceNeg, Nat.reduceLT, Nat.reduceSub, Nat.reduceMul]
  repeat' (first | ((first | refine kgb_not (fun h => ?_) (fun h => ?_) | refine kcd_not (fun h => ?_) (fun h => ?_) | refine kdb_not (fun h => ?_) (fun h => ?_) | refine kgb_b (fun h => ?_) (fun h => ?_) | refine kcd_b (fun h => ?_) (fun h => ?_) | refine kdb_b (fun h => ?_) (fun h => ?_) | fail) <;> simp -implicitDefEqProofs only [↓W_seq, go_sem, ↓reduceIte, Nat.reduceBEq, Nat.reduceAdd, Nat.reduceLeDiff, Nat.reduceEqDiff, reduceCtorEq, Int.reduceToNat, Int.reduceLE, Int.reduceLT, Int.reduceEq, Int.reduceNeg, Nat.reduceLT, Nat.reduceSub, Nat.reduceMul, h]) | (first | exact ⟨_, rfl, _, rfl⟩ | exact rfl | exact ⟨_, rfl⟩ | exact ⟨_, _, rfl⟩ | exact ⟨_, _, _, rfl⟩ | exact ⟨hj1, rfl⟩ | exact ⟨hj1, _, rfl⟩ | exact ⟨hj1, _, _, rfl⟩) | (refine WC.pf (f91 _ _ _ _ _ _ h0) rfl rfl ?_; rintro _ ⟨mm, rfl⟩; simp -implicitDefEqProofs only [↓W_seq, go_sem, ↓reduceIte, Nat.reduceBEq, Nat.reduceAdd, Nat.reduceLeDiff, Nat.reduceEqDiff, reduceCtorEq, Int.reduceToNat, Int.reduceLE, Int.reduceLT, Int.reduceEq, Int.reduceNeg, Nat.reduceLT, Nat.reduceSub, Nat.reduceMul]) | fail)
theorem f45 (ts : List Term) (es : List (List Imm)) (z : Nat) (q : Bool) (h : All2 Term.Enc ts es) (hz : z = 5 ∨ es = []) (hl : es.length ≤ lim) : PF cx 45 [.sl z false q es] IsB := by
  refine PF.intro (fn := Try.f45) Try.func45 rfl rfl ?_
  simp -implicitDefEqProofs only [↓W_seq, go_sem, ↓reduceIte, Nat.reduceBEq, Nat.reduceAdd, Nat.reduceLeDiff, Nat.reduceEqDiff, reduceCtorEq, Int.reduceToNat, Int.reduceLE, Int.reduceLT, Int.reduceEq, Int.reduceNeg, Nat.reduceLT, Nat.reduceSub, Nat.reduceMul]
  repeat' (first | ((first | refine kgb_not (fun h => ?_) (fun h => ?_) | refine kcd_not (fun h => ?_) (fun h => ?_) | refine kdb_not (fun h => ?_) (fun h => ?_) | refine kgb_b (fun h => ?_) (fun h => ?_) | refine kcd_b (fun h => ?_) (fun h => ?_) | refine kdb_b (fun h => ?_) (fun h => ?_) | fail) <;> simp -implicitDefEqProofs only [↓W_seq, go_sem, ↓reduceIte, Nat.reduceBEq, Nat.reduceAdd, Nat.reduceLeDiff, Nat.reduceEqDiff, reduceCtorEq, Int.reduceToNat, Int.reduceLE, Int.reduceLT, Int.reduceEq, Int.reduceNeg, Nat.reduceLT, Nat.reduceSub, Nat.reduceMul, h]) | (first | exact ⟨_, rfl, _, rfl⟩ | exact rfl | exact ⟨_, rfl⟩ | exact ⟨_, _, rfl⟩ | exact ⟨_, _, _, rfl⟩ | exact ⟨hj1, rfl⟩ | exact ⟨hj1, _, rfl⟩ | exact ⟨hj1, _, _, rfl⟩) | (refine WC.pf (f90 _ ts es z q (Nat.lt_succ_self _) h hz hl) rfl rfl ?_; rintro _ ⟨_ | _, rfl⟩ <;> simp -implicitDefEqProofs only [↓W_seq, go_sem, ↓reduceIte, Nat.reduceBEq, Nat.reduceAdd, Nat.reduceLeDiff, Nat.reduceEqDiff, reduceCtorEq, Int.reduceToNat, Int.reduceLE, Int.reduceLT, Int.reduceEq, Int.reduceNeg, Nat.reduceLT, Nat.reduceSub, Nat.reduceMul]) | fail)
  refine WL.upto es.length (fun j st => ∃ H, st = ⟨[(8, .im (.sl z false q es)), (9, .im (.i .i64 es.length)), (10, .im (.i .i64 j))], [], H⟩) ?_ ⟨_, rfl⟩
  rintro j st hj ⟨H, rfl⟩
  simp -implicitDefEqProofs only [↓W_seq, go_sem, ↓reduceIte, Nat.reduceBEq, Nat.reduceAdd, Nat.reduceLeDiff, Nat.reduceEqDiff, reduceCtorEq, Int.reduceToNat, Int.reduceLE, Int.reduceLT, Int.reduceEq, Int.reduceNeg, Nat.reduceLT, Nat.reduceSub, Nat.reduceMul]
  refine kcd_dec (fun h1 => ?_) (fun h1 => ?_)
  · have hj1 : j < es.length := by omega
    obtain ⟨rfl, a, r, ha, hr, hE⟩ := h.at hz hj1
    have h0 := hE
    obtain ⟨k2, i2, n2, ls2, ks2, lz2, lt2, les2, kz2, kt2, kes2, rfl, rfl, hk2, hi2, hn2, hlz2, hll2, hl2, hkz2, hkl2, hks2⟩ := hE.inv
    simp -implicitDefEqProofs only [↓W_seq, go_sem, ↓reduceIte, Nat.reduceBEq, Nat.reduceAdd, Nat.reduceLeDiff, Nat.reduceEqDiff, reduceCtorEq, Int.reduceToNat, Int.reduceLE, Int.reduceLT, Int.reduceEq, Int.reduceNeg, Nat.reduceLT, Nat.reduceSub, Nat.reduceMul, hj1, hr]
    repeat' (first | ((first | refine kgb_not (fun h => ?_) (fun h => ?_) | refine kcd_not (fun h => ?_) (fun h => ?_) | refine kdb_not (fun h => ?_) (fun h => ?_) | refine kgb_b (fun h => ?_) (fun h => ?_) | refine kcd_b (fun h => ?_) (fun h => ?_) | refine kdb_b (fun h => ?_) (fun h => ?_) | fail) <;> simp -implicitDefEqProofs only [↓W_seq, go_sem, ↓reduceIte, Nat.reduceBEq, Nat.reduceAdd, Nat.reduceLeDiff, Nat.reduceEqDiff, reduceCtorEq, Int.reduceToNat, Int.reduceLE, Int.reduceLT, Int.reduceEq, Int.reduceNeg, Nat.reduceLT, Nat.reduceSub, Nat.reduceMul, wrap_succ hj1 hl, h]) | (first | exact ⟨_, rfl, _, rfl⟩ | exact rfl | exact ⟨_, rfl⟩ | exact ⟨_, _, rfl⟩ | exact ⟨_, _, _, rfl⟩ | exact ⟨hj1, rfl⟩ | exact ⟨hj1, _, rfl⟩ | exact ⟨hj1, _, _, rfl⟩) | (refine WC.pf (f91 _ _ _ _ _ _ h0) rfl rfl ?_; rintro _ ⟨mm, rfl⟩; simp -implicitDefEqProofs only [↓W_seq, go_sem, ↓reduceIte, Nat.reduceBEq, Nat.reduceAdd, Nat.reduceLeDiff, Nat.reduceEqDiff, reduceCtorEq, Int.reduceToNat, Int.reduceLE, Int.reduceLT, Int.reduceEq, Int.reduceNeg, Nat.reduceLT, Nat.reduceSub, Nat.reduceMul, wrap_succ hj1 hl]) | fail)
  · simp -implicitDefEqProofs only [↓W_seq, go_sem, ↓reduceIte, Nat.reduceBEq, Nat.reduceAdd, Nat.reduceLeDiff, Nat.reduceEqDiff, reduceCtorEq, Int.reduceToNat, Int.reduceLE, Int.reduceLT, Int.reduceEq, Int.reduceNeg, Nat.reduceLT, Nat.reduceSub, Nat.reduceMul]
    (first | exact ⟨_, rfl, _, rfl⟩ | exact rfl | exact ⟨_, rfl⟩ | exact ⟨_, _, rfl⟩ | exact ⟨_, _, _, rfl⟩ | exact ⟨hj1, rfl⟩ | exact ⟨hj1, _, rfl⟩ | exact ⟨hj1, _, _, rfl⟩)
end Go.Proofs.Ytnbbhbbhgcipjaa.Am
