/-
  The reference checks of declarations: that they return, and what they say when they accept.
  law08.Small returns; and what it says of the environment when it holds.
  Calls in the caller's heap.
  The program: equality of terms, spines, and its functions up to Relate.
-/
import Derived.Test.YtnbbhbbhgcipjaaMh
import Derived.Test.YtnbbhbbhgcipjaaMe
set_option linter.unusedVariables false
set_option linter.unnecessarySimpa false
set_option linter.unusedSimpArgs false
set_option linter.unusedSectionVars false
namespace Go.Proofs.Ytnbbhbbhgcipjaa.Am
attribute [local irreducible] W WO WD WL WR WC WOp W1 WDf kcall kdfr kpn ob eb kval kvh kH kn0 kmp kvc kvc0 kca kpk kgb kgd kcd kcl kbl kres kmt wseq kseq kblock kreg kdn kdE kbd kcr kdm kdb kdg kdo kfin klp
theorem All2.take {α β : Type} {R : α → β → Prop} : ∀ {l : List α} {m : List β} (j : Nat), All2 R l m → All2 R (l.take j) (m.take j)
  | _, _, 0, _ => by simp [All2]
  | [], [], _ + 1, _ => trivial
  | _ :: _, _ :: _, j + 1, h => ⟨h.1, All2.take j h.2⟩
  | [], _ :: _, _ + 1, h => h.elim
  | _ :: _, [], _ + 1, h => h.elim
theorem f115 (ds : List Decl) (es : List (List Imm)) (z : Nat) (q : Bool) (d : Decl) (r : List Imm) (h : All2 Decl.Enc ds es) (hz : z = 23 ∨ es = []) (hl : es.length ≤ lim) (hd : d.Enc r) : PF cx 115 [.sl z false q es, .agg r] IsI := by
  refine PF.intro (fn := Try.f115) Try.func115 rfl rfl ?_
  have h83 := f83 d r hd
  have hlim : lim = 1073741824 := rfl
  obtain ⟨t0, t1, t2, t3, t4, v0, v1, v2, v3, v4, cz, ct, ces, u0, u1, u2, u3, u4, rz, rt, res, fz, ft, fes, rfl, hdk, hdn, hdp, hT, hV, hdf, hcz, hcl, hC, hrp, hU, hrz, hrl, hR, hfz, hfl, hF, hTn⟩ := hd
  simp -implicitDefEqProofs only [↓W_seq, go_sem, ↓reduceIte, Nat.reduceBEq, Nat.reduceAdd, Nat.reduceLeDiff, Nat.reduceEqDiff, reduceCtorEq, Int.reduceToNat, Int.reduceLE, Int.reduceLT, Int.reduceEq, Int.reduceNeg, Nat.reduceLT, Nat.reduceSub, Nat.reduceMul]
  refine WC.pv h83 rfl rfl rfl ?_
  rintro _ ⟨ns, nz, nt, rfl, hns, hnz, hnl, hnn⟩
  simp -implicitDefEqProofs only [↓W_seq, go_sem, ↓reduceIte, Nat.reduceBEq, Nat.reduceAdd, Nat.reduceLeDiff, Nat.reduceEqDiff, reduceCtorEq, Int.reduceToNat, Int.reduceLE, Int.reduceLT, Int.reduceEq, Int.reduceNeg, Nat.reduceLT, Nat.reduceSub, Nat.reduceMul]
  refine WL.upto ns.length (fun j st => ∃ H, st = ⟨[(0, .im (.sl z false q es)), (5, .im (.sl nz false nt ns)), (6, .im (.i .i64 j))], [], H⟩) ?_ ⟨_, rfl⟩
  rintro j st hj ⟨H, rfl⟩
  simp -implicitDefEqProofs only [↓W_seq, go_sem, ↓reduceIte, Nat.reduceBEq, Nat.reduceAdd, Nat.reduceLeDiff, Nat.reduceEqDiff, reduceCtorEq, Int.reduceToNat, Int.reduceLE, Int.reduceLT, Int.reduceEq, Int.reduceNeg, Nat.reduceLT, Nat.reduceSub, Nat.reduceMul]
  refine kcd_dec (fun h1 => ?_) (fun h1 => ?_)
  · have hj1 : j < ns.length := by omega
    obtain ⟨rfl, s, r, hs, hr, rfl⟩ := hns.at hnz hj1
    have hss : s.size ≤ 4 * lim := by have := hnn s (List.mem_of_getElem? hs); omega
    have hle : j ≤ ns.length := by omega
    simp -implicitDefEqProofs only [↓W_seq, go_sem, ↓reduceIte, Nat.reduceBEq, Nat.reduceAdd, Nat.reduceLeDiff, Nat.reduceEqDiff, reduceCtorEq, Int.reduceToNat, Int.reduceLE, Int.reduceLT, Int.reduceEq, Int.reduceNeg, Nat.reduceLT, Nat.reduceSub, Nat.reduceMul, hj1, hr]
    refine WC.pf (f148 s hss) rfl rfl ?_
    rintro _ ⟨_ | _, rfl⟩ <;> simp -implicitDefEqProofs only [↓W_seq, go_sem, ↓reduceIte, Nat.reduceBEq, Nat.reduceAdd, Nat.reduceLeDiff, Nat.reduceEqDiff, reduceCtorEq, Int.reduceToNat, Int.reduceLE, Int.reduceLT, Int.reduceEq, Int.reduceNeg, Nat.reduceLT, Nat.reduceSub, Nat.reduceMul, hj1, hr]
    · (first | exact ⟨_, rfl, _, rfl⟩ | exact rfl | exact ⟨_, rfl⟩ | exact ⟨_, _, rfl⟩ | exact ⟨_, _, _, rfl⟩ | exact ⟨hj1, rfl⟩ | exact ⟨hj1, _, rfl⟩ | exact ⟨hj1, _, _, rfl⟩)
    refine WC.pf (f24 ds es z q s h hz hl hss) rfl rfl ?_
    rintro _ ⟨r', rfl, x0, x1, x2, x3, x4, rfl, hx⟩
    simp -implicitDefEqProofs only [↓W_seq, go_sem, ↓reduceIte, Nat.reduceBEq, Nat.reduceAdd, Nat.reduceLeDiff, Nat.reduceEqDiff, reduceCtorEq, Int.reduceToNat, Int.reduceLE, Int.reduceLT, Int.reduceEq, Int.reduceNeg, Nat.reduceLT, Nat.reduceSub, Nat.reduceMul, hj1, hr]
    refine kdb_b (fun h2 => ?_) (fun h2 => ?_) <;> simp -implicitDefEqProofs only [↓W_seq, go_sem, ↓reduceIte, Nat.reduceBEq, Nat.reduceAdd, Nat.reduceLeDiff, Nat.reduceEqDiff, reduceCtorEq, Int.reduceToNat, Int.reduceLE, Int.reduceLT, Int.reduceEq, Int.reduceNeg, Nat.reduceLT, Nat.reduceSub, Nat.reduceMul, h2, hj1, hr, hle]
    · (first | exact ⟨_, rfl, _, rfl⟩ | exact rfl | exact ⟨_, rfl⟩ | exact ⟨_, _, rfl⟩ | exact ⟨_, _, _, rfl⟩ | exact ⟨hj1, rfl⟩ | exact ⟨hj1, _, rfl⟩ | exact ⟨hj1, _, _, rfl⟩)
    refine WC.pf (f126 _ _ _ _ s (hns.take j) (.inl rfl) (by simp only [List.length_take]; omega)) rfl rfl ?_
    rintro _ ⟨_ | _, rfl, _⟩ <;> simp -implicitDefEqProofs only [↓W_seq, go_sem, ↓reduceIte, Nat.reduceBEq, Nat.reduceAdd, Nat.reduceLeDiff, Nat.reduceEqDiff, reduceCtorEq, Int.reduceToNat, Int.reduceLE, Int.reduceLT, Int.reduceEq, Int.reduceNeg, Nat.reduceLT, Nat.reduceSub, Nat.reduceMul, hj1, hr]
    · have hw : IntKind.i64.wrap ((j : Int) + 1) = ((j + 1 : Nat) : Int) := wrap_succ4 hj1 (by omega)
      simp -implicitDefEqProofs only [↓W_seq, go_sem, ↓reduceIte, Nat.reduceBEq, Nat.reduceAdd, Nat.reduceLeDiff, Nat.reduceEqDiff, reduceCtorEq, Int.reduceToNat, Int.reduceLE, Int.reduceLT, Int.reduceEq, Int.reduceNeg, Nat.reduceLT, Nat.reduceSub, Nat.reduceMul, hw]
      (first | exact ⟨_, rfl, _, rfl⟩ | exact rfl | exact ⟨_, rfl⟩ | exact ⟨_, _, rfl⟩ | exact ⟨_, _, _, rfl⟩ | exact ⟨hj1, rfl⟩ | exact ⟨hj1, _, rfl⟩ | exact ⟨hj1, _, _, rfl⟩)
    · (first | exact ⟨_, rfl, _, rfl⟩ | exact rfl | exact ⟨_, rfl⟩ | exact ⟨_, _, rfl⟩ | exact ⟨_, _, _, rfl⟩ | exact ⟨hj1, rfl⟩ | exact ⟨hj1, _, rfl⟩ | exact ⟨hj1, _, _, rfl⟩)
  · simp -implicitDefEqProofs only [↓W_seq, go_sem, ↓reduceIte, Nat.reduceBEq, Nat.reduceAdd, Nat.reduceLeDiff, Nat.reduceEqDiff, reduceCtorEq, Int.reduceToNat, Int.reduceLE, Int.reduceLT, Int.reduceEq, Int.reduceNeg, Nat.reduceLT, Nat.reduceSub, Nat.reduceMul]
    (first | exact ⟨_, rfl, _, rfl⟩ | exact rfl | exact ⟨_, rfl⟩ | exact ⟨_, _, rfl⟩ | exact ⟨_, _, _, rfl⟩ | exact ⟨hj1, rfl⟩ | exact ⟨hj1, _, rfl⟩ | exact ⟨hj1, _, _, rfl⟩)
theorem bool4 (n : Nat) (a b : Bool) : Sem.val? cx.P (Op.equalIn (n + 1) 4 (.bool a) (.bool b)) = some (a == b) := by
  unfold Op.equalIn; rw [val_bind, vund 4 _ ty4.2.2.1]; rfl
@[go_sem] theorem bin_bneq (x y : Operand) (a b : Bool) : bin2 cx.P .neq 4 x y (.im (.b a)) (.im (.b b)) = some (.im (.b (!decide (a = b)))) := by
  refine bin_of (v := .bool (!(a == b))) rfl rfl ?_ (by cases a <;> cases b <;> rfl)
  rw [val_bind]
  have : Sem.val? cx.P (eqGuard .neq 4 x y (.bool a) (.bool b)) = some () := rfl
  rw [this]
  simp only [Option.bind_some]
  unfold Go.binOp
  dsimp only
  rw [val_bind]
  unfold Op.equal Op.maxDepth
  rw [bool4]
  rfl
theorem f74 : ∀ (N : Nat) (t u : Tree) (r s : List Imm), t.nodes ≤ N → t.Enc r → u.Enc s → PF cx 74 [.agg r, .agg s] IsB := by
  intro N
  induction N with
  | zero => intro t u r s hN; have := t.nodes_pos; omega
  | succ N ih =>
    intro t u r s hN h g
    refine PF.intro (fn := Try.f74) Try.func74 rfl rfl ?_
    obtain ⟨k, b, v, brs, b0, b1, b2, b3, b4, z, ti, es, rfl, rfl, hk, hv, hb, hz, hl, hB⟩ := h.inv
    obtain ⟨k', b', v', brs', b0', b1', b2', b3', b4', z', ti', es', rfl, rfl, hk', hv', hb', hz', hl', hB'⟩ := g.inv
    simp -implicitDefEqProofs only [↓W_seq, go_sem, ↓reduceIte, Nat.reduceBEq, Nat.reduceAdd, Nat.reduceLeDiff, Nat.reduceEqDiff, reduceCtorEq, Int.reduceToNat, Int.reduceLE, Int.reduceLT, Int.reduceEq, Int.reduceNeg, Nat.reduceLT, Nat.reduceSub, Nat.reduceMul]
    repeat' (first | ((first | refine kgb_not (fun h => ?_) (fun h => ?_) | refine kcd_not (fun h => ?_) (fun h => ?_) | refine kdb_not (fun h => ?_) (fun h => ?_) | refine kgb_b (fun h => ?_) (fun h => ?_) | refine kcd_b (fun h => ?_) (fun h => ?_) | refine kdb_b (fun h => ?_) (fun h => ?_) | fail) <;> simp -implicitDefEqProofs only [↓W_seq, go_sem, ↓reduceIte, Nat.reduceBEq, Nat.reduceAdd, Nat.reduceLeDiff, Nat.reduceEqDiff, reduceCtorEq, Int.reduceToNat, Int.reduceLE, Int.reduceLT, Int.reduceEq, Int.reduceNeg, Nat.reduceLT, Nat.reduceSub, Nat.reduceMul, h]) | (first | exact ⟨_, rfl, _, rfl⟩ | exact rfl | exact ⟨_, rfl⟩ | exact ⟨_, _, rfl⟩ | exact ⟨_, _, _, rfl⟩ | exact ⟨hj1, rfl⟩ | exact ⟨hj1, _, rfl⟩ | exact ⟨hj1, _, _, rfl⟩) | (refine WC.pf (f58 _ _ _ _ _ (Nat.le_refl _) hb hb') rfl rfl ?_; rintro _ ⟨_ | _, rfl, _⟩ <;> simp -implicitDefEqProofs only [↓W_seq, go_sem, ↓reduceIte, Nat.reduceBEq, Nat.reduceAdd, Nat.reduceLeDiff, Nat.reduceEqDiff, reduceCtorEq, Int.reduceToNat, Int.reduceLE, Int.reduceLT, Int.reduceEq, Int.reduceNeg, Nat.reduceLT, Nat.reduceSub, Nat.reduceMul]) | fail)
    have hlen : es.length = es'.length := by have := of_decide_eq_true h; omega
    refine WL.upto es.length (fun j st => ∃ H, st = ⟨[(2, .im (.ip 8 false [[.i .i64 k, b0, b1, b2, b3, b4, .i .i64 v, .sl z false ti es]] 0 0)), (3, .im (.ip 8 false [[.i .i64 k', b0', b1', b2', b3', b4', .i .i64 v', .sl z' false ti' es']] 0 0)), (5, .im (.i .i64 j))], [], H⟩) ?_ ⟨_, rfl⟩
    rintro j st hj ⟨H, rfl⟩
    simp -implicitDefEqProofs only [↓W_seq, go_sem, ↓reduceIte, Nat.reduceBEq, Nat.reduceAdd, Nat.reduceLeDiff, Nat.reduceEqDiff, reduceCtorEq, Int.reduceToNat, Int.reduceLE, Int.reduceLT, Int.reduceEq, Int.reduceNeg, Nat.reduceLT, Nat.reduceSub, Nat.reduceMul]
    refine kcd_dec (fun h1 => ?_) (fun h1 => ?_)
    · have hj1 : j < es.length := by omega
      have hj2 : j < es'.length := by omega
      obtain ⟨rfl, a, r, ha, hr, hE⟩ := hB.at hz hj1
      obtain ⟨n, a, u, t0, t1, t2, t3, t4, t5, t6, t7, rfl, rfl, hn, hu⟩ := hE.inv
      obtain ⟨rfl, a', r', ha', hr', hE'⟩ := hB'.at hz' hj2
      obtain ⟨n', a', u', t0', t1', t2', t3', t4', t5', t6', t7', rfl, rfl, hn', hu'⟩ := hE'.inv
      have hN' : u.nodes ≤ N := by have := Tree.nodes_kid (k := k) (v := v) (b := b) ha; omega
      simp -implicitDefEqProofs only [↓W_seq, go_sem, ↓reduceIte, Nat.reduceBEq, Nat.reduceAdd, Nat.reduceLeDiff, Nat.reduceEqDiff, reduceCtorEq, Int.reduceToNat, Int.reduceLE, Int.reduceLT, Int.reduceEq, Int.reduceNeg, Nat.reduceLT, Nat.reduceSub, Nat.reduceMul, hj1, hr, hj2, hr']
      repeat' (first | ((first | refine kgb_not (fun h => ?_) (fun h => ?_) | refine kcd_not (fun h => ?_) (fun h => ?_) | refine kdb_not (fun h => ?_) (fun h => ?_) | refine kgb_b (fun h => ?_) (fun h => ?_) | refine kcd_b (fun h => ?_) (fun h => ?_) | refine kdb_b (fun h => ?_) (fun h => ?_) | fail) <;> simp -implicitDefEqProofs only [↓W_seq, go_sem, ↓reduceIte, Nat.reduceBEq, Nat.reduceAdd, Nat.reduceLeDiff, Nat.reduceEqDiff, reduceCtorEq, Int.reduceToNat, Int.reduceLE, Int.reduceLT, Int.reduceEq, Int.reduceNeg, Nat.reduceLT, Nat.reduceSub, Nat.reduceMul, wrap_succ hj1 hl, hj1, hr, hj2, hr', h]) | (first | exact ⟨_, rfl, _, rfl⟩ | exact rfl | exact ⟨_, rfl⟩ | exact ⟨_, _, rfl⟩ | exact ⟨_, _, _, rfl⟩ | exact ⟨hj1, rfl⟩ | exact ⟨hj1, _, rfl⟩ | exact ⟨hj1, _, _, rfl⟩) | (refine WC.pf (ih u u' _ _ hN' hu hu') rfl rfl ?_; rintro _ ⟨_ | _, rfl⟩ <;> simp -implicitDefEqProofs only [↓W_seq, go_sem, ↓reduceIte, Nat.reduceBEq, Nat.reduceAdd, Nat.reduceLeDiff, Nat.reduceEqDiff, reduceCtorEq, Int.reduceToNat, Int.reduceLE, Int.reduceLT, Int.reduceEq, Int.reduceNeg, Nat.reduceLT, Nat.reduceSub, Nat.reduceMul, wrap_succ hj1 hl, hj1, hr, hj2, hr']) | fail)
    · simp -implicitDefEqProofs only [↓W_seq, go_sem, ↓reduceIte, Nat.reduceBEq, Nat.reduceAdd, Nat.reduceLeDiff, Nat.reduceEqDiff, reduceCtorEq, Int.reduceToNat, Int.reduceLE, Int.reduceLT, Int.reduceEq, Int.reduceNeg, Nat.reduceLT, Nat.reduceSub, Nat.reduceMul]
      (first | exact ⟨_, rfl, _, rfl⟩ | exact rfl | exact ⟨_, rfl⟩ | exact ⟨_, _, rfl⟩ | exact ⟨_, _, _, rfl⟩ | exact ⟨hj1, rfl⟩ | exact ⟨hj1, _, rfl⟩ | exact ⟨hj1, _, _, rfl⟩)
def ScopeEnc (ds : List Decl) (own : List ByteArray) (d : Decl) (r : List Imm) : Prop := ∃ ez et ees oz ot oes dr, r = .sl ez false et ees :: .sl oz false ot oes :: dr ∧ All2 Decl.Enc ds ees ∧ (ez = 23 ∨ ees = []) ∧ ees.length ≤ lim ∧
  All2 EncS own oes ∧ (oz = 1 ∨ oes = []) ∧ oes.length ≤ 4 * lim ∧ d.Enc dr
theorem f173 : ∀ (N : Nat) (ds : List Decl) (own : List ByteArray) (d : Decl) (r : List Imm) (t : Term) (s : List Imm), t.nodes ≤ N → ScopeEnc ds own d r → t.Enc s → PF cx 173 [.agg r, .agg s] IsI := by
  intro N
  induction N with
  | zero => intro _ _ _ _ t _ hN; have := t.nodes_pos; omega
  | succ N ih =>
    intro ds own d r t s hN hS h
    refine PF.intro (fn := Try.f173) Try.func173 rfl rfl ?_
    have hS0 := hS
    obtain ⟨ez, et, ees, oz, ot, oes, dr, rfl, hds, hez, hel, how, hoz, hol, hd⟩ := hS
    have hd0 := hd
    obtain ⟨t0, t1, t2, t3, t4, v0, v1, v2, v3, v4, cz, ct, ces, u0, u1, u2, u3, u4, rz, rt, res, fz, ft, fes, rfl, hdk, hdn, hdp, hT, hV, hdf, hcz, hcl, hC, hrp, hU, hrz, hrl, hR, hfz, hfl, hF, hTn⟩ := hd
    obtain ⟨k, i, n, ls, ks, lz, lt, les, kz, kt, kes, rfl, rfl, hk, hi, hn, hlz, hll, hl, hkz, hkl, hks⟩ := h.inv
    rw [W_seq]
    simp -implicitDefEqProofs only [go_sem, ↓reduceIte, Nat.reduceBEq, Nat.reduceAdd, Nat.reduceLeDiff, Nat.reduceEqDiff, reduceCtorEq, Int.reduceToNat, Int.reduceLE, Int.reduceLT, Int.reduceEq, Int.reduceNeg, Nat.reduceLT, Nat.reduceSub, Nat.reduceMul]
    refine W.cutseq (fun st => ∃ b H, st = ⟨[(2, .im (.ip 25 false [.sl ez false et ees :: .sl oz false ot oes :: [.i .i64 d.kind, .s d.name, .i .i64 d.params, t0, t1, t2, t3, t4, v0, v1, v2, v3, v4, .i .i64 d.fixed, .sl cz false ct ces, .i .i64 d.recParams, u0, u1, u2, u3, u4, .sl rz false rt res, .sl fz false ft fes]] 0 0)), (3, .im (.ip 5 false [[.i .i64 k, .i .i64 i, .s n, .sl lz false lt les, .sl kz false kt kes]] 0 0)), b], [], H⟩) ?_ ?_
    · simp -implicitDefEqProofs only [↓W_seq, go_sem, ↓reduceIte, Nat.reduceBEq, Nat.reduceAdd, Nat.reduceLeDiff, Nat.reduceEqDiff, reduceCtorEq, Int.reduceToNat, Int.reduceLE, Int.reduceLT, Int.reduceEq, Int.reduceNeg, Nat.reduceLT, Nat.reduceSub, Nat.reduceMul]
      repeat' (first | ((first | refine kgb_not (fun h => ?_) (fun h => ?_) | refine kcd_not (fun h => ?_) (fun h => ?_) | refine kdb_not (fun h => ?_) (fun h => ?_) | refine kgb_b (fun h => ?_) (fun h => ?_) | refine kcd_b (fun h => ?_) (fun h => ?_) | refine kdb_b (fun h => ?_) (fun h => ?_) | fail) <;> simp -implicitDefEqProofs only [↓W_seq, go_sem, ↓reduceIte, Nat.reduceBEq, Nat.reduceAdd, Nat.reduceLeDiff, Nat.reduceEqDiff, reduceCtorEq, Int.reduceToNat, Int.reduceLE, Int.reduceLT, Int.reduceEq, Int.reduceNeg, Nat.reduceLT, Nat.reduceSub, Nat.reduceMul, h]) | (first | exact ⟨_, rfl, _, rfl⟩ | exact rfl | exact ⟨_, rfl⟩ | exact ⟨_, _, rfl⟩ | exact ⟨_, _, _, rfl⟩ | exact ⟨hj1, rfl⟩ | exact ⟨hj1, _, rfl⟩ | exact ⟨hj1, _, _, rfl⟩) | (refine WC.pf (f24 _ _ _ _ _ hds hez hel (le4 hn)) rfl rfl ?_; rintro _ ⟨r', rfl, x0, x1, x2, x3, x4, rfl, hx⟩ <;> simp -implicitDefEqProofs only [↓W_seq, go_sem, ↓reduceIte, Nat.reduceBEq, Nat.reduceAdd, Nat.reduceLeDiff, Nat.reduceEqDiff, reduceCtorEq, Int.reduceToNat, Int.reduceLE, Int.reduceLT, Int.reduceEq, Int.reduceNeg, Nat.reduceLT, Nat.reduceSub, Nat.reduceMul]) | (refine WC.pf (f126 _ _ _ _ n how hoz hol) rfl rfl ?_; rintro _ ⟨_ | _, rfl, _⟩ <;> simp -implicitDefEqProofs only [↓W_seq, go_sem, ↓reduceIte, Nat.reduceBEq, Nat.reduceAdd, Nat.reduceLeDiff, Nat.reduceEqDiff, reduceCtorEq, Int.reduceToNat, Int.reduceLE, Int.reduceLT, Int.reduceEq, Int.reduceNeg, Nat.reduceLT, Nat.reduceSub, Nat.reduceMul]) | (refine WC.pf (f72 _ _ _ n hd0) rfl rfl ?_; rintro _ ⟨r', rfl, y0, y1, y2, y3, y4, rfl, hy⟩ <;> simp -implicitDefEqProofs only [↓W_seq, go_sem, ↓reduceIte, Nat.reduceBEq, Nat.reduceAdd, Nat.reduceLeDiff, Nat.reduceEqDiff, reduceCtorEq, Int.reduceToNat, Int.reduceLE, Int.reduceLT, Int.reduceEq, Int.reduceNeg, Nat.reduceLT, Nat.reduceSub, Nat.reduceMul]) | fail)
    rintro _ ⟨b, H, rfl⟩
    simp -implicitDefEqProofs only [↓W_seq, go_sem, ↓reduceIte, Nat.reduceBEq, Nat.reduceAdd, Nat.reduceLeDiff, Nat.reduceEqDiff, reduceCtorEq, Int.reduceToNat, Int.reduceLE, Int.reduceLT, Int.reduceEq, Int.reduceNeg, Nat.reduceLT, Nat.reduceSub, Nat.reduceMul]
    refine WL.upto kes.length (fun j st => ∃ H, st = ⟨[(2, .im (.ip 25 false [.sl ez false et ees :: .sl oz false ot oes :: [.i .i64 d.kind, .s d.name, .i .i64 d.params, t0, t1, t2, t3, t4, v0, v1, v2, v3, v4, .i .i64 d.fixed, .sl cz false ct ces, .i .i64 d.recParams, u0, u1, u2, u3, u4, .sl rz false rt res, .sl fz false ft fes]] 0 0)), (3, .im (.ip 5 false [[.i .i64 k, .i .i64 i, .s n, .sl lz false lt les, .sl kz false kt kes]] 0 0)), (7, .im (.i .i64 j))], [], H⟩) ?_ ⟨_, rfl⟩
    rintro j st hj ⟨H, rfl⟩
    simp -implicitDefEqProofs only [↓W_seq, go_sem, ↓reduceIte, Nat.reduceBEq, Nat.reduceAdd, Nat.reduceLeDiff, Nat.reduceEqDiff, reduceCtorEq, Int.reduceToNat, Int.reduceLE, Int.reduceLT, Int.reduceEq, Int.reduceNeg, Nat.reduceLT, Nat.reduceSub, Nat.reduceMul]
    refine kcd_dec (fun h1 => ?_) (fun h1 => ?_)
    · have hj1 : j < kes.length := by omega
      obtain ⟨rfl, a, r, ha, hr, hE⟩ := hks.at hkz hj1
      have hN' : a.nodes ≤ N := by have := Term.nodes_kid (k := k) (i := i) (n := n) (ls := ls) ha; omega
      simp -implicitDefEqProofs only [↓W_seq, go_sem, ↓reduceIte, Nat.reduceBEq, Nat.reduceAdd, Nat.reduceLeDiff, Nat.reduceEqDiff, reduceCtorEq, Int.reduceToNat, Int.reduceLE, Int.reduceLT, Int.reduceEq, Int.reduceNeg, Nat.reduceLT, Nat.reduceSub, Nat.reduceMul, hj1, hr, sub_all hE.length]
      repeat' (first | ((first | refine kgb_not (fun h => ?_) (fun h => ?_) | refine kcd_not (fun h => ?_) (fun h => ?_) | refine kdb_not (fun h => ?_) (fun h => ?_) | refine kgb_b (fun h => ?_) (fun h => ?_) | refine kcd_b (fun h => ?_) (fun h => ?_) | refine kdb_b (fun h => ?_) (fun h => ?_) | fail) <;> simp -implicitDefEqProofs only [↓W_seq, go_sem, ↓reduceIte, Nat.reduceBEq, Nat.reduceAdd, Nat.reduceLeDiff, Nat.reduceEqDiff, reduceCtorEq, Int.reduceToNat, Int.reduceLE, Int.reduceLT, Int.reduceEq, Int.reduceNeg, Nat.reduceLT, Nat.reduceSub, Nat.reduceMul, wrap_succ hj1 hkl, h]) | (first | exact ⟨_, rfl, _, rfl⟩ | exact rfl | exact ⟨_, rfl⟩ | exact ⟨_, _, rfl⟩ | exact ⟨_, _, _, rfl⟩ | exact ⟨hj1, rfl⟩ | exact ⟨hj1, _, rfl⟩ | exact ⟨hj1, _, _, rfl⟩) | (refine WC.pf (ih _ _ _ _ a r hN' hS0 hE) rfl rfl ?_; rintro _ ⟨mm, rfl⟩; simp -implicitDefEqProofs only [↓W_seq, go_sem, ↓reduceIte, Nat.reduceBEq, Nat.reduceAdd, Nat.reduceLeDiff, Nat.reduceEqDiff, reduceCtorEq, Int.reduceToNat, Int.reduceLE, Int.reduceLT, Int.reduceEq, Int.reduceNeg, Nat.reduceLT, Nat.reduceSub, Nat.reduceMul, wrap_succ hj1 hkl]) | fail)
    · simp -implicitDefEqProofs only [↓W_seq, go_sem, ↓reduceIte, Nat.reduceBEq, Nat.reduceAdd, Nat.reduceLeDiff, Nat.reduceEqDiff, reduceCtorEq, Int.reduceToNat, Int.reduceLE, Int.reduceLT, Int.reduceEq, Int.reduceNeg, Nat.reduceLT, Nat.reduceSub, Nat.reduceMul]
      (first | exact ⟨_, rfl, _, rfl⟩ | exact rfl | exact ⟨_, rfl⟩ | exact ⟨_, _, rfl⟩ | exact ⟨_, _, _, rfl⟩ | exact ⟨hj1, rfl⟩ | exact ⟨hj1, _, rfl⟩ | exact ⟨hj1, _, _, rfl⟩)
@[go_sem] theorem allIm_m (ds : List Imm) : allIm (ds.map .im) = some ds := by
  induction ds with
  | nil => rfl
  | cons d ds ih => rw [List.map_cons, allIm_cons, ih]; rfl
theorem f149 (ds : List Decl) (own : List ByteArray) (d : Decl) (r : List Imm) (t : Term) (s : List Imm) (v p : Int) (hS : ScopeEnc ds own d r) (h : t.Enc s) : PF cx 149 [.agg r, .agg s, .i .i64 v, .i .i64 p] IsI := by
  refine PF.intro (fn := Try.f149) Try.func149 rfl rfl ?_
  have hS0 := hS
  have h0 := h
  obtain ⟨ez, et, ees, oz, ot, oes, dr, rfl, hds, hez, hel, how, hoz, hol, hd⟩ := hS
  obtain ⟨t0, t1, t2, t3, t4, v0, v1, v2, v3, v4, cz, ct, ces, u0, u1, u2, u3, u4, rz, rt, res, fz, ft, fes, rfl, hdk, hdn, hdp, hT, hV, hdf, hcz, hcl, hC, hrp, hU, hrz, hrl, hR, hfz, hfl, hF, hTn⟩ := hd
  obtain ⟨k, i, n, ls, ks, lz, lt, les, kz, kt, kes, rfl, rfl, hk, hi, hn, hlz, hll, hl, hkz, hkl, hks⟩ := h.inv
  simp -implicitDefEqProofs only [↓W_seq, go_sem, ↓reduceIte, Nat.reduceBEq, Nat.reduceAdd, Nat.reduceLeDiff, Nat.reduceEqDiff, reduceCtorEq, Int.reduceToNat, Int.reduceLE, Int.reduceLT, Int.reduceEq, Int.reduceNeg, Nat.reduceLT, Nat.reduceSub, Nat.reduceMul]
  repeat' (first | ((first | refine kgb_not (fun h => ?_) (fun h => ?_) | refine kcd_not (fun h => ?_) (fun h => ?_) | refine kdb_not (fun h => ?_) (fun h => ?_) | refine kgb_b (fun h => ?_) (fun h => ?_) | refine kcd_b (fun h => ?_) (fun h => ?_) | refine kdb_b (fun h => ?_) (fun h => ?_) | fail) <;> simp -implicitDefEqProofs only [↓W_seq, go_sem, ↓reduceIte, Nat.reduceBEq, Nat.reduceAdd, Nat.reduceLeDiff, Nat.reduceEqDiff, reduceCtorEq, Int.reduceToNat, Int.reduceLE, Int.reduceLT, Int.reduceEq, Int.reduceNeg, Nat.reduceLT, Nat.reduceSub, Nat.reduceMul, h]) | (first | exact ⟨_, rfl, _, rfl⟩ | exact rfl | exact ⟨_, rfl⟩ | exact ⟨_, _, rfl⟩ | exact ⟨_, _, _, rfl⟩ | exact ⟨hj1, rfl⟩ | exact ⟨hj1, _, rfl⟩ | exact ⟨hj1, _, _, rfl⟩) | (refine WC.pf (f91 _ _ _ _ _ _ h0) rfl rfl ?_; rintro _ ⟨mm, rfl⟩; simp -implicitDefEqProofs only [↓W_seq, go_sem, ↓reduceIte, Nat.reduceBEq, Nat.reduceAdd, Nat.reduceLeDiff, Nat.reduceEqDiff, reduceCtorEq, Int.reduceToNat, Int.reduceLE, Int.reduceLT, Int.reduceEq, Int.reduceNeg, Nat.reduceLT, Nat.reduceSub, Nat.reduceMul]) | (refine WC.pf (f173 _ _ _ _ _ _ _ (Nat.le_refl _) hS0 h0) rfl rfl ?_; rintro _ ⟨mm, rfl⟩; simp -implicitDefEqProofs only [↓W_seq, go_sem, ↓reduceIte, Nat.reduceBEq, Nat.reduceAdd, Nat.reduceLeDiff, Nat.reduceEqDiff, reduceCtorEq, Int.reduceToNat, Int.reduceLE, Int.reduceLT, Int.reduceEq, Int.reduceNeg, Nat.reduceLT, Nat.reduceSub, Nat.reduceMul]) | fail)
/-- A list of terms. -/
def TermL (y : Imm) (ts : List Term) : Prop := ∃ es z t, y = .sl z false t es ∧ All2 Term.Enc ts es ∧ (z = 5 ∨ es = []) ∧ es.length ≤ lim
theorem f137 (t : Term) (r : List Imm) (h : t.Enc r) (hn : t.nodes ≤ lim) : PV cx 137 [.agg r] fun y => ∃ a s, y = .tup [a, .agg s] ∧ TermL a t.all.1 ∧ t.all.2.Enc s := by
  refine PV.intro (fn := Try.f137) Try.func137 rfl rfl ?_
  have h0 := h
  obtain ⟨k, i, n, ls, ks, lz, lt, les, kz, kt, kes, rfl, rfl, hk, hi, hn, hlz, hll, hl, hkz, hkl, hks⟩ := h.inv
  simp -implicitDefEqProofs only [↓W_seq, go_sem, ↓reduceIte, Nat.reduceBEq, Nat.reduceAdd, Nat.reduceLeDiff, Nat.reduceEqDiff, reduceCtorEq, Int.reduceToNat, Int.reduceLE, Int.reduceLT, Int.reduceEq, Int.reduceNeg, Nat.reduceLT, Nat.reduceSub, Nat.reduceMul]
  have hlim : lim = 1073741824 := rfl
  have hlen := Term.all_len (Term.mk k i n ls ks)
  refine WL.fall (fun m st => ∃ (u : Term) (r : List Imm) (pre : List Term) (es : List (List Imm)), u.Enc r ∧ m = u.nodes ∧ pre ++ u.all.1 = (Term.mk k i n ls ks).all.1 ∧ u.all.2 = (Term.mk k i n ls ks).all.2 ∧ All2 Term.Enc pre es ∧
    st = ⟨[(1, .ptr 0 1 0 0), (3, .ptr 1 1 0 0), (4, .sl 2 es.length 0 es.length)], [], [.row [r.map .im] 5 26, .row [[.im (.i .i64 0), .im (.i .i64 0), .im (.s ByteArray.empty), .im (.sl 1 false true []), .im (.sl 1 false true [])]] 5 26, .row (es.map (·.map .im)) 5 26]⟩) ?_ ⟨_, _, [], [], h0, rfl, rfl, rfl, trivial, rfl⟩
  rintro m st ⟨u, r, pre, es, hu, rfl, hp1, hp2, hpe, rfl⟩
  have hu0 := hu
  have hel : es.length < 1073741824 := by
    have h1 := congrArg List.length hp1
    rw [List.length_append, hpe.length] at h1
    omega
  obtain ⟨k2, i2, n2, ls2, ks2, lz2, lt2, les2, kz2, kt2, kes2, rfl, rfl, hk2, hi2, hn2, hlz2, hll2, hl2, hkz2, hkl2, hks2⟩ := hu.inv
  simp -implicitDefEqProofs only [↓W_seq, go_sem, ↓reduceIte, Nat.reduceBEq, Nat.reduceAdd, Nat.reduceLeDiff, Nat.reduceEqDiff, reduceCtorEq, Int.reduceToNat, Int.reduceLE, Int.reduceLT, Int.reduceEq, Int.reduceNeg, Nat.reduceLT, Nat.reduceSub, Nat.reduceMul]
  have hend : ∀ {q : Prop}, (Term.mk k2 i2 n2 ls2 ks2).all = ([], .mk k2 i2 n2 ls2 ks2) → ∃ d, view false viewDepth [.row [[.im (.i .i64 k2), .im (.i .i64 i2), .im (.s n2), .im (.sl lz2 false lt2 les2), .im (.sl kz2 false kt2 kes2)]] 5 26, .row [[.im (.i .i64 k2), .im (.i .i64 i2), .im (.s n2), .im (.sl lz2 false lt2 les2), .im (.sl kz2 false kt2 kes2)]] 5 26, .row (es.map (·.map .im)) 5 26] (.tup [.sl 2 es.length 0 es.length, .im (.agg [.i .i64 k2, .i .i64 i2, .s n2, .sl lz2 false lt2 les2, .sl kz2 false kt2 kes2])]) = some d ∧ ∃ a s, d = .tup [a, .agg s] ∧ TermL a (Term.mk k i n ls ks).all.1 ∧ (Term.mk k i n ls ks).all.2.Enc s := by
    intro q he
    rw [he] at hp1 hp2
    simp only [List.append_nil] at hp1
    refine ⟨_, view_tup2 (view_row (es := es) rfl rfl) (view_im _ _ _ _), _, _, rfl, ⟨es, 5, false, rfl, by rw [← hp1]; exact hpe, .inl rfl, by omega⟩, by rw [← hp2]; exact hu0⟩
  refine kgb_b (fun e1 => ?_) (fun e1 => ?_) <;> simp -implicitDefEqProofs only [↓W_seq, go_sem, ↓reduceIte, Nat.reduceBEq, Nat.reduceAdd, Nat.reduceLeDiff, Nat.reduceEqDiff, reduceCtorEq, Int.reduceToNat, Int.reduceLE, Int.reduceLT, Int.reduceEq, Int.reduceNeg, Nat.reduceLT, Nat.reduceSub, Nat.reduceMul, e1]
  · refine kcd_b (fun e2 => ?_) (fun e2 => ?_) <;> simp -implicitDefEqProofs only [↓W_seq, go_sem, ↓reduceIte, Nat.reduceBEq, Nat.reduceAdd, Nat.reduceLeDiff, Nat.reduceEqDiff, reduceCtorEq, Int.reduceToNat, Int.reduceLE, Int.reduceLT, Int.reduceEq, Int.reduceNeg, Nat.reduceLT, Nat.reduceSub, Nat.reduceMul, e2]
    · have h6 : k2 = 6 := of_decide_eq_true e1
      have h2 : kes2.length = 2 := by have := of_decide_eq_true e2; omega
      obtain ⟨a, b, r, s, rfl, rfl, ha, hb⟩ := hks2.two h2
      have hz : kz2 = 5 := by rcases hkz2 with h | h <;> simp_all
      subst hz h6
      rw [Term.all_pi] at hp1 hp2
      have hb5 := hb.length
      have ha5 := ha.length
      have hcap : es.length + 1 ≤ 4294967296 := by omega
      simp -implicitDefEqProofs only [↓W_seq, go_sem, ↓reduceIte, Nat.reduceBEq, Nat.reduceAdd, Nat.reduceLeDiff, Nat.reduceEqDiff, reduceCtorEq, Int.reduceToNat, Int.reduceLE, Int.reduceLT, Int.reduceEq, Int.reduceNeg, Nat.reduceLT, Nat.reduceSub, Nat.reduceMul, sub_all hb5, hb5, sub_all ha5, ha5, hcap]
      refine ⟨b.nodes, ?_, b, s, pre ++ [a], es ++ [r], hb, rfl, by simpa using hp1, hp2, hpe.snoc ha, by simp⟩
      rw [Term.nodes_mk]; simp only [Term.nodesL]; omega
    · have h2 : ¬ks2.length = 2 := by have := of_decide_eq_false e2; rw [hks2.length]; omega
      exact hend (q := True) (Term.all_n h2)
  · exact hend (q := True) (Term.all_k (of_decide_eq_false e1))
theorem f102 (d : Decl) (r : List Imm) (j : Nat) (h : d.Enc r) (hj : j < d.ctors.length) : PF cx 102 [.agg r, .i .i64 j] fun y => ∃ c : Ctor, d.ctors[j]? = some c ∧ y = .i .i64 (max 0 (IntKind.i64.wrap (c.type.all.1.length - d.fixed))) := by
  refine PF.intro (fn := Try.f102) Try.func102 rfl rfl ?_
  obtain ⟨t0, t1, t2, t3, t4, v0, v1, v2, v3, v4, cz, ct, ces, u0, u1, u2, u3, u4, rz, rt, res, fz, ft, fes, rfl, hdk, hdn, hdp, hT, hV, hdf, hcz, hcl, hC, hrp, hU, hrz, hrl, hR, hfz, hfl, hF, hTn⟩ := h
  have hj1 : j < ces.length := by rw [← hC.length]; exact hj
  obtain ⟨rfl, a, r, ha, hr, x0, x1, x2, x3, x4, rfl, hx, hX, hXn⟩ := hC.at hcz hj1
  simp -implicitDefEqProofs only [↓W_seq, go_sem, ↓reduceIte, Nat.reduceBEq, Nat.reduceAdd, Nat.reduceLeDiff, Nat.reduceEqDiff, reduceCtorEq, Int.reduceToNat, Int.reduceLE, Int.reduceLT, Int.reduceEq, Int.reduceNeg, Nat.reduceLT, Nat.reduceSub, Nat.reduceMul, hj1, hr]
  refine WC.pv (f137 _ _ hX hXn) rfl rfl rfl ?_
  rintro _ ⟨y, s, rfl, ⟨es, z, t, rfl, hes, hz, hl⟩, hs⟩
  have hs5 := hs.length
  simp -implicitDefEqProofs only [↓W_seq, go_sem, ↓reduceIte, Nat.reduceBEq, Nat.reduceAdd, Nat.reduceLeDiff, Nat.reduceEqDiff, reduceCtorEq, Int.reduceToNat, Int.reduceLE, Int.reduceLT, Int.reduceEq, Int.reduceNeg, Nat.reduceLT, Nat.reduceSub, Nat.reduceMul, hs5]
  exact ⟨_, rfl, a, ha, by rw [hes.length]⟩
theorem entry_ctor {d : Decl} {x : Int} {s : ByteArray} (h : (d.entry x s).kind = 4) : d.kind = 3 ∧ (d.entry x s).decl = x ∧ ∃ j : Nat, d.ctorAt s = some j ∧ (d.entry x s).item = j ∧ j < d.ctors.length := by
  unfold Decl.entry at h ⊢
  split at h; · simp at h
  rename_i h0
  rw [if_neg h0]
  split at h; · simp at h
  rename_i h1
  rw [if_neg h1]
  split at h; · simp at h
  rename_i h2
  rw [if_neg h2]
  split at h
  · rename_i h3
    rw [if_pos h3]
    split at h; · simp at h
    rename_i h4
    rw [if_neg h4]
    cases hc : d.ctorAt s with
    | none => rw [hc] at h; simp at h
    | some j =>
      obtain ⟨a, ha, _⟩ := first_lt hc
      exact ⟨h3, rfl, j, rfl, rfl, (List.getElem?_eq_some_iff.1 ha).1⟩
  · cases hc : d.funAt s with
    | none => rw [hc] at h; simp at h
    | some j => rw [hc] at h; simp at h
theorem findE_ctor {ds : List Decl} {s : ByteArray} (h : (findE ds s).2 = 0) (h4 : (findE ds s).1.kind = 4) : ∃ (i j : Nat) (d : Decl), ds[i]? = some d ∧ (findE ds s).1.decl = i ∧ (findE ds s).1.item = j ∧ j < d.ctors.length ∧ d.kind = 3 ∧ d.ctorAt s = some j := by
  classical
  unfold findE at h h4 ⊢
  cases hf : firstD ds s with
  | none => rw [hf] at h; simp at h
  | some i =>
    rw [hf] at h4
    obtain ⟨d, hd, _⟩ := first_lt hf
    simp only [hd, Option.map_some, Option.getD_some] at h4 ⊢
    obtain ⟨h3, h1, j, hj, hi, hl⟩ := entry_ctor h4
    exact ⟨i, j, d, hd, h1, hi, hl, h3, hj⟩
def zeroTree : Tree := .mk 0 zeroT 0 []
theorem zeroTree_enc : zeroTree.Enc [.i .i64 0, .i .i64 0, .i .i64 0, .s ByteArray.empty, .sl 1 false true [], .sl 1 false true [], .i .i64 0, .sl 1 false true []] := by
  unfold zeroTree
  rw [Tree.Enc]
  exact ⟨_, _, _, _, _, _, _, _, rfl, ⟨by omega, by omega⟩, ⟨by omega, by omega⟩, zeroT_enc, .inr rfl, Nat.zero_le _, by rw [Branch.Encs]; trivial⟩
@[go_sem] theorem sh_eq (f : Nat) : cx.shared f = memN f [82, 99, 106, 110, 120, 121, 122, 152, 159, 177, 178, 179, 181, 182, 184, 185, 190, 191, 202, 204, 205, 206, 210] :=
  (show cx.shared f = List.contains [82, 99, 106, 110, 120, 121, 122, 152, 159, 177, 178, 179, 181, 182, 184, 185, 190, 191, 202, 204, 205, 206, 210] f from rfl).trans (memN_eq _ _)
theorem f150 : ∀ (N : Nat) (ds : List Decl) (own : List ByteArray) (d : Decl) (r : List Imm) (t : Tree) (s : List Imm) (x y : Int), t.nodes ≤ N → ScopeEnc ds own d r → t.Enc s → PF cx 150 [.agg r, .agg s, .i .i64 x, .i .i64 y] IsI := by
  intro N
  induction N with
  | zero => intro _ _ _ _ t _ _ _ hN; have := t.nodes_pos; omega
  | succ N ih =>
    intro ds own d r t s x y hN hS h
    refine PF.intro (fn := Try.f150) Try.func150 rfl rfl ?_
    have hS0 := hS
    obtain ⟨ez, et, ees, oz, ot, oes, dr, rfl, hds, hez, hel, how, hoz, hol, hd⟩ := hS
    have hd0 := hd
    obtain ⟨t0, t1, t2, t3, t4, v0, v1, v2, v3, v4, cz, ct, ces, u0, u1, u2, u3, u4, rz, rt, res, fz, ft, fes, rfl, hdk, hdn, hdp, hT, hV, hdf, hcz, hcl, hC, hrp, hU, hrz, hrl, hR, hfz, hfl, hF, hTn⟩ := hd
    obtain ⟨k, b, v, brs, b0, b1, b2, b3, b4, z, ti, es, rfl, rfl, hk, hv, hb, hz, hl, hB⟩ := h.inv
    simp -implicitDefEqProofs only [↓W_seq, go_sem, ↓reduceIte, Nat.reduceBEq, Nat.reduceAdd, Nat.reduceLeDiff, Nat.reduceEqDiff, reduceCtorEq, Int.reduceToNat, Int.reduceLE, Int.reduceLT, Int.reduceEq, Int.reduceNeg, Nat.reduceLT, Nat.reduceSub, Nat.reduceMul]
    repeat' (first | ((first | refine kgb_not (fun h => ?_) (fun h => ?_) | refine kcd_not (fun h => ?_) (fun h => ?_) | refine kdb_not (fun h => ?_) (fun h => ?_) | refine kgb_b (fun h => ?_) (fun h => ?_) | refine kcd_b (fun h => ?_) (fun h => ?_) | refine kdb_b (fun h => ?_) (fun h => ?_) | fail) <;> simp -implicitDefEqProofs only [↓W_seq, go_sem, ↓reduceIte, Nat.reduceBEq, Nat.reduceAdd, Nat.reduceLeDiff, Nat.reduceEqDiff, reduceCtorEq, Int.reduceToNat, Int.reduceLE, Int.reduceLT, Int.reduceEq, Int.reduceNeg, Nat.reduceLT, Nat.reduceSub, Nat.reduceMul, h]) | (first | exact ⟨_, rfl, _, rfl⟩ | exact rfl | exact ⟨_, rfl⟩ | exact ⟨_, _, rfl⟩ | exact ⟨_, _, _, rfl⟩ | exact ⟨hj1, rfl⟩ | exact ⟨hj1, _, rfl⟩ | exact ⟨hj1, _, _, rfl⟩) | (refine WC.pf (f149 _ _ _ _ _ _ _ _ hS0 hb) rfl rfl ?_; rintro _ ⟨mm, rfl⟩; simp -implicitDefEqProofs only [↓W_seq, go_sem, ↓reduceIte, Nat.reduceBEq, Nat.reduceAdd, Nat.reduceLeDiff, Nat.reduceEqDiff, reduceCtorEq, Int.reduceToNat, Int.reduceLE, Int.reduceLT, Int.reduceEq, Int.reduceNeg, Nat.reduceLT, Nat.reduceSub, Nat.reduceMul]) | (refine WC.pf (f146b _ _ hb) rfl rfl ?_; rintro _ ⟨_ | _, rfl⟩ <;> simp -implicitDefEqProofs only [↓W_seq, go_sem, ↓reduceIte, Nat.reduceBEq, Nat.reduceAdd, Nat.reduceLeDiff, Nat.reduceEqDiff, reduceCtorEq, Int.reduceToNat, Int.reduceLE, Int.reduceLT, Int.reduceEq, Int.reduceNeg, Nat.reduceLT, Nat.reduceSub, Nat.reduceMul]) | fail)
    refine WL.upto es.length (fun j st => ∃ H, st = ⟨[(2, .im (.i .i64 x)), (3, .im (.i .i64 y)), (4, .im (.ip 25 false [.sl ez false et ees :: .sl oz false ot oes :: [.i .i64 d.kind, .s d.name, .i .i64 d.params, t0, t1, t2, t3, t4, v0, v1, v2, v3, v4, .i .i64 d.fixed, .sl cz false ct ces, .i .i64 d.recParams, u0, u1, u2, u3, u4, .sl rz false rt res, .sl fz false ft fes]] 0 0)), (5, .im (.ip 8 false [[.i .i64 k, b0, b1, b2, b3, b4, .i .i64 v, .sl z false ti es]] 0 0)), (9, .im (.i .i64 j))], [], H⟩) ?_ ⟨_, rfl⟩
    rintro j st hj ⟨H, rfl⟩
    simp -implicitDefEqProofs only [↓W_seq, go_sem, ↓reduceIte, Nat.reduceBEq, Nat.reduceAdd, Nat.reduceLeDiff, Nat.reduceEqDiff, reduceCtorEq, Int.reduceToNat, Int.reduceLE, Int.reduceLT, Int.reduceEq, Int.reduceNeg, Nat.reduceLT, Nat.reduceSub, Nat.reduceMul]
    refine kcd_dec (fun h1 => ?_) (fun h1 => ?_)
    · have hj1 : j < es.length := by omega
      obtain ⟨rfl, a, r, ha, hr, hE⟩ := hB.at hz hj1
      obtain ⟨n, a, u, w0, w1, w2, w3, w4, w5, w6, w7, rfl, rfl, hn, hu⟩ := hE.inv
      have hN' : u.nodes ≤ N := by have := Tree.nodes_kid (k := k) (v := v) (b := b) ha; omega
      simp -implicitDefEqProofs only [↓W_seq, go_sem, ↓reduceIte, Nat.reduceBEq, Nat.reduceAdd, Nat.reduceLeDiff, Nat.reduceEqDiff, reduceCtorEq, Int.reduceToNat, Int.reduceLE, Int.reduceLT, Int.reduceEq, Int.reduceNeg, Nat.reduceLT, Nat.reduceSub, Nat.reduceMul, hj1, hr]
      refine WC.pf (f24 _ _ _ _ _ hds hez hel (le4 hn)) rfl rfl ?_
      rintro _ ⟨r', rfl, x0, x1, x2, x3, x4, rfl, hx⟩
      simp -implicitDefEqProofs only [↓W_seq, go_sem, ↓reduceIte, Nat.reduceBEq, Nat.reduceAdd, Nat.reduceLeDiff, Nat.reduceEqDiff, reduceCtorEq, Int.reduceToNat, Int.reduceLE, Int.reduceLT, Int.reduceEq, Int.reduceNeg, Nat.reduceLT, Nat.reduceSub, Nat.reduceMul, hj1, hr]
      repeat' (first | ((first | refine kgb_not (fun h => ?_) (fun h => ?_) | refine kcd_not (fun h => ?_) (fun h => ?_) | refine kdb_not (fun h => ?_) (fun h => ?_) | refine kgb_b (fun h => ?_) (fun h => ?_) | refine kcd_b (fun h => ?_) (fun h => ?_) | refine kdb_b (fun h => ?_) (fun h => ?_) | fail) <;> simp -implicitDefEqProofs only [↓W_seq, go_sem, ↓reduceIte, Nat.reduceBEq, Nat.reduceAdd, Nat.reduceLeDiff, Nat.reduceEqDiff, reduceCtorEq, Int.reduceToNat, Int.reduceLE, Int.reduceLT, Int.reduceEq, Int.reduceNeg, Nat.reduceLT, Nat.reduceSub, Nat.reduceMul, wrap_succ hj1 hl, hj1, hr, h]) | (first | exact ⟨_, rfl, _, rfl⟩ | exact rfl | exact ⟨_, rfl⟩ | exact ⟨_, _, rfl⟩ | exact ⟨_, _, _, rfl⟩ | exact ⟨hj1, rfl⟩ | exact ⟨hj1, _, rfl⟩ | exact ⟨hj1, _, _, rfl⟩) | (refine WC.pf (f74 _ _ _ _ _ (Nat.le_refl _) hu zeroTree_enc) rfl rfl ?_; rintro _ ⟨_ | _, rfl⟩ <;> simp -implicitDefEqProofs only [↓W_seq, go_sem, ↓reduceIte, Nat.reduceBEq, Nat.reduceAdd, Nat.reduceLeDiff, Nat.reduceEqDiff, reduceCtorEq, Int.reduceToNat, Int.reduceLE, Int.reduceLT, Int.reduceEq, Int.reduceNeg, Nat.reduceLT, Nat.reduceSub, Nat.reduceMul, wrap_succ hj1 hl, hj1, hr]) | fail)
      have hf2 : (findE ds n).2 = 0 := of_decide_eq_true (by assumption)
      have hk4 : (findE ds n).1.kind = 4 := of_decide_eq_true (by assumption)
      obtain ⟨i', j', d', hd', hdec, hit, hlt, _, _⟩ := findE_ctor hf2 hk4
      have hi1 : i' < ees.length := by rw [← hds.length]; exact (List.getElem?_eq_some_iff.1 hd').1
      obtain ⟨rfl, d2, r2, hd2, hr2, hE2⟩ := hds.at hez hi1
      rw [hd'] at hd2
      cases hd2
      simp -implicitDefEqProofs only [↓W_seq, go_sem, ↓reduceIte, Nat.reduceBEq, Nat.reduceAdd, Nat.reduceLeDiff, Nat.reduceEqDiff, reduceCtorEq, Int.reduceToNat, Int.reduceLE, Int.reduceLT, Int.reduceEq, Int.reduceNeg, Nat.reduceLT, Nat.reduceSub, Nat.reduceMul, hdec, hit, hi1, hr2, sub_all hE2.length]
      repeat' (first | ((first | refine kgb_not (fun h => ?_) (fun h => ?_) | refine kcd_not (fun h => ?_) (fun h => ?_) | refine kdb_not (fun h => ?_) (fun h => ?_) | refine kgb_b (fun h => ?_) (fun h => ?_) | refine kcd_b (fun h => ?_) (fun h => ?_) | refine kdb_b (fun h => ?_) (fun h => ?_) | fail) <;> simp -implicitDefEqProofs only [↓W_seq, go_sem, ↓reduceIte, Nat.reduceBEq, Nat.reduceAdd, Nat.reduceLeDiff, Nat.reduceEqDiff, reduceCtorEq, Int.reduceToNat, Int.reduceLE, Int.reduceLT, Int.reduceEq, Int.reduceNeg, Nat.reduceLT, Nat.reduceSub, Nat.reduceMul, wrap_succ hj1 hl, hj1, hr, h]) | (first | exact ⟨_, rfl, _, rfl⟩ | exact rfl | exact ⟨_, rfl⟩ | exact ⟨_, _, rfl⟩ | exact ⟨_, _, _, rfl⟩ | exact ⟨hj1, rfl⟩ | exact ⟨hj1, _, rfl⟩ | exact ⟨hj1, _, _, rfl⟩) | (refine WC.pf (f102 _ _ _ hE2 hlt) rfl rfl ?_; rintro _ ⟨c, hc, rfl⟩ <;> simp -implicitDefEqProofs only [↓W_seq, go_sem, ↓reduceIte, Nat.reduceBEq, Nat.reduceAdd, Nat.reduceLeDiff, Nat.reduceEqDiff, reduceCtorEq, Int.reduceToNat, Int.reduceLE, Int.reduceLT, Int.reduceEq, Int.reduceNeg, Nat.reduceLT, Nat.reduceSub, Nat.reduceMul, wrap_succ hj1 hl, hj1, hr]) | (refine WC.pf (ih _ _ _ _ u _ _ _ hN' hS0 hu) rfl rfl ?_; rintro _ ⟨mm, rfl⟩; simp -implicitDefEqProofs only [↓W_seq, go_sem, ↓reduceIte, Nat.reduceBEq, Nat.reduceAdd, Nat.reduceLeDiff, Nat.reduceEqDiff, reduceCtorEq, Int.reduceToNat, Int.reduceLE, Int.reduceLT, Int.reduceEq, Int.reduceNeg, Nat.reduceLT, Nat.reduceSub, Nat.reduceMul, wrap_succ hj1 hl, hj1, hr]) | fail)
    · simp -implicitDefEqProofs only [↓W_seq, go_sem, ↓reduceIte, Nat.reduceBEq, Nat.reduceAdd, Nat.reduceLeDiff, Nat.reduceEqDiff, reduceCtorEq, Int.reduceToNat, Int.reduceLE, Int.reduceLT, Int.reduceEq, Int.reduceNeg, Nat.reduceLT, Nat.reduceSub, Nat.reduceMul]
      (first | exact ⟨_, rfl, _, rfl⟩ | exact rfl | exact ⟨_, rfl⟩ | exact ⟨_, _, rfl⟩ | exact ⟨_, _, _, rfl⟩ | exact ⟨hj1, rfl⟩ | exact ⟨hj1, _, rfl⟩ | exact ⟨hj1, _, _, rfl⟩)
theorem f116 (ds : List Decl) (es : List (List Imm)) (z : Nat) (q : Bool) (d : Decl) (r : List Imm) (h : All2 Decl.Enc ds es) (hz : z = 23 ∨ es = []) (hl : es.length ≤ lim) (hd : d.Enc r) : PF cx 116 [.sl z false q es, .agg r] IsI := by
  refine PF.intro (fn := Try.f116) Try.func116 rfl rfl ?_
  have h83 := f83 d r hd
  have hd0 := hd
  have hlim : lim = 1073741824 := rfl
  obtain ⟨t0, t1, t2, t3, t4, v0, v1, v2, v3, v4, cz, ct, ces, u0, u1, u2, u3, u4, rz, rt, res, fz, ft, fes, rfl, hdk, hdn, hdp, hT, hV, hdf, hcz, hcl, hC, hrp, hU, hrz, hrl, hR, hfz, hfl, hF, hTn⟩ := hd
  have hS : ∀ (own : List ByteArray) (oes : List (List Imm)) (oz : Nat) (ot : Bool), All2 EncS own oes → (oz = 1 ∨ oes = []) → oes.length ≤ 4 * lim → ScopeEnc ds own d (.sl z false q es :: .sl oz false ot oes :: [.i .i64 d.kind, .s d.name, .i .i64 d.params, t0, t1, t2, t3, t4, v0, v1, v2, v3, v4, .i .i64 d.fixed, .sl cz false ct ces, .i .i64 d.recParams, u0, u1, u2, u3, u4, .sl rz false rt res, .sl fz false ft fes]) :=
    fun own oes oz ot h1 h2 h3 => ⟨_, _, _, _, _, _, _, rfl, h, hz, hl, h1, h2, h3, hd0⟩
  have hS1 := hS [] [] 1 true trivial (.inr rfl) (by simp)
  rw [W_seq]
  simp -implicitDefEqProofs only [go_sem, ↓reduceIte, Nat.reduceBEq, Nat.reduceAdd, Nat.reduceLeDiff, Nat.reduceEqDiff, reduceCtorEq, Int.reduceToNat, Int.reduceLE, Int.reduceLT, Int.reduceEq, Int.reduceNeg, Nat.reduceLT, Nat.reduceSub, Nat.reduceMul]
  rw [W_seq]
  simp -implicitDefEqProofs only [go_sem, ↓reduceIte, Nat.reduceBEq, Nat.reduceAdd, Nat.reduceLeDiff, Nat.reduceEqDiff, reduceCtorEq, Int.reduceToNat, Int.reduceLE, Int.reduceLT, Int.reduceEq, Int.reduceNeg, Nat.reduceLT, Nat.reduceSub, Nat.reduceMul]
  refine W.cutseq (fun st => ∃ b : Fr, st = ⟨(3, .im (.ip 23 false [[.i .i64 d.kind, .s d.name, .i .i64 d.params, t0, t1, t2, t3, t4, v0, v1, v2, v3, v4, .i .i64 d.fixed, .sl cz false ct ces, .i .i64 d.recParams, u0, u1, u2, u3, u4, .sl rz false rt res, .sl fz false ft fes]] 0 0)) :: (5, .ptr 0 1 0 0) :: b, [], [.row [(.sl z false q es :: .sl 1 false true [] :: [.i .i64 d.kind, .s d.name, .i .i64 d.params, t0, t1, t2, t3, t4, v0, v1, v2, v3, v4, .i .i64 d.fixed, .sl cz false ct ces, .i .i64 d.recParams, u0, u1, u2, u3, u4, .sl rz false rt res, .sl fz false ft fes]).map .im] 25 215]⟩) ?_ ?_
  · simp -implicitDefEqProofs only [↓W_seq, go_sem, ↓reduceIte, Nat.reduceBEq, Nat.reduceAdd, Nat.reduceLeDiff, Nat.reduceEqDiff, reduceCtorEq, Int.reduceToNat, Int.reduceLE, Int.reduceLT, Int.reduceEq, Int.reduceNeg, Nat.reduceLT, Nat.reduceSub, Nat.reduceMul]
    repeat' (first | ((first | refine kgb_not (fun h => ?_) (fun h => ?_) | refine kcd_not (fun h => ?_) (fun h => ?_) | refine kdb_not (fun h => ?_) (fun h => ?_) | refine kgb_b (fun h => ?_) (fun h => ?_) | refine kcd_b (fun h => ?_) (fun h => ?_) | refine kdb_b (fun h => ?_) (fun h => ?_) | fail) <;> simp -implicitDefEqProofs only [↓W_seq, go_sem, ↓reduceIte, Nat.reduceBEq, Nat.reduceAdd, Nat.reduceLeDiff, Nat.reduceEqDiff, reduceCtorEq, Int.reduceToNat, Int.reduceLE, Int.reduceLT, Int.reduceEq, Int.reduceNeg, Nat.reduceLT, Nat.reduceSub, Nat.reduceMul, h]) | (first | exact ⟨_, rfl, _, rfl⟩ | exact rfl | exact ⟨_, rfl⟩ | exact ⟨_, _, rfl⟩ | exact ⟨_, _, _, rfl⟩ | exact ⟨hj1, rfl⟩ | exact ⟨hj1, _, rfl⟩ | exact ⟨hj1, _, _, rfl⟩) | (refine WC.pf (f149 _ _ _ _ _ _ _ _ hS1 hT) rfl rfl ?_; rintro _ ⟨mm, rfl⟩; simp -implicitDefEqProofs only [↓W_seq, go_sem, ↓reduceIte, Nat.reduceBEq, Nat.reduceAdd, Nat.reduceLeDiff, Nat.reduceEqDiff, reduceCtorEq, Int.reduceToNat, Int.reduceLE, Int.reduceLT, Int.reduceEq, Int.reduceNeg, Nat.reduceLT, Nat.reduceSub, Nat.reduceMul]) | fail)
  rintro _ ⟨b, rfl⟩
  simp -implicitDefEqProofs only [↓W_seq, go_sem, ↓reduceIte, Nat.reduceBEq, Nat.reduceAdd, Nat.reduceLeDiff, Nat.reduceEqDiff, reduceCtorEq, Int.reduceToNat, Int.reduceLE, Int.reduceLT, Int.reduceEq, Int.reduceNeg, Nat.reduceLT, Nat.reduceSub, Nat.reduceMul]
  refine kcd_b (fun e1 => ?_) (fun e1 => ?_) <;> simp -implicitDefEqProofs only [↓W_seq, go_sem, ↓reduceIte, Nat.reduceBEq, Nat.reduceAdd, Nat.reduceLeDiff, Nat.reduceEqDiff, reduceCtorEq, Int.reduceToNat, Int.reduceLE, Int.reduceLT, Int.reduceEq, Int.reduceNeg, Nat.reduceLT, Nat.reduceSub, Nat.reduceMul, e1]
  · repeat' (first | ((first | refine kgb_not (fun h => ?_) (fun h => ?_) | refine kcd_not (fun h => ?_) (fun h => ?_) | refine kdb_not (fun h => ?_) (fun h => ?_) | refine kgb_b (fun h => ?_) (fun h => ?_) | refine kcd_b (fun h => ?_) (fun h => ?_) | refine kdb_b (fun h => ?_) (fun h => ?_) | fail) <;> simp -implicitDefEqProofs only [↓W_seq, go_sem, ↓reduceIte, Nat.reduceBEq, Nat.reduceAdd, Nat.reduceLeDiff, Nat.reduceEqDiff, reduceCtorEq, Int.reduceToNat, Int.reduceLE, Int.reduceLT, Int.reduceEq, Int.reduceNeg, Nat.reduceLT, Nat.reduceSub, Nat.reduceMul, h]) | (first | exact ⟨_, rfl, _, rfl⟩ | exact rfl | exact ⟨_, rfl⟩ | exact ⟨_, _, rfl⟩ | exact ⟨_, _, _, rfl⟩ | exact ⟨hj1, rfl⟩ | exact ⟨hj1, _, rfl⟩ | exact ⟨hj1, _, _, rfl⟩) | (refine WC.pf (f149 _ _ _ _ _ _ _ _ hS1 hV) rfl rfl ?_; rintro _ ⟨mm, rfl⟩; simp -implicitDefEqProofs only [↓W_seq, go_sem, ↓reduceIte, Nat.reduceBEq, Nat.reduceAdd, Nat.reduceLeDiff, Nat.reduceEqDiff, reduceCtorEq, Int.reduceToNat, Int.reduceLE, Int.reduceLT, Int.reduceEq, Int.reduceNeg, Nat.reduceLT, Nat.reduceSub, Nat.reduceMul]) | fail)
  refine kcd_b (fun e2 => ?_) (fun e2 => ?_) <;> simp -implicitDefEqProofs only [↓W_seq, go_sem, ↓reduceIte, Nat.reduceBEq, Nat.reduceAdd, Nat.reduceLeDiff, Nat.reduceEqDiff, reduceCtorEq, Int.reduceToNat, Int.reduceLE, Int.reduceLT, Int.reduceEq, Int.reduceNeg, Nat.reduceLT, Nat.reduceSub, Nat.reduceMul, e2]
  · repeat' (first | ((first | refine kgb_not (fun h => ?_) (fun h => ?_) | refine kcd_not (fun h => ?_) (fun h => ?_) | refine kdb_not (fun h => ?_) (fun h => ?_) | refine kgb_b (fun h => ?_) (fun h => ?_) | refine kcd_b (fun h => ?_) (fun h => ?_) | refine kdb_b (fun h => ?_) (fun h => ?_) | fail) <;> simp -implicitDefEqProofs only [↓W_seq, go_sem, ↓reduceIte, Nat.reduceBEq, Nat.reduceAdd, Nat.reduceLeDiff, Nat.reduceEqDiff, reduceCtorEq, Int.reduceToNat, Int.reduceLE, Int.reduceLT, Int.reduceEq, Int.reduceNeg, Nat.reduceLT, Nat.reduceSub, Nat.reduceMul, h]) | (first | exact ⟨_, rfl, _, rfl⟩ | exact rfl | exact ⟨_, rfl⟩ | exact ⟨_, _, rfl⟩ | exact ⟨_, _, _, rfl⟩ | exact ⟨hj1, rfl⟩ | exact ⟨hj1, _, rfl⟩ | exact ⟨hj1, _, _, rfl⟩) | (refine WC.pf (f149 _ _ _ _ _ _ _ _ hS1 hV) rfl rfl ?_; rintro _ ⟨mm, rfl⟩; simp -implicitDefEqProofs only [↓W_seq, go_sem, ↓reduceIte, Nat.reduceBEq, Nat.reduceAdd, Nat.reduceLeDiff, Nat.reduceEqDiff, reduceCtorEq, Int.reduceToNat, Int.reduceLE, Int.reduceLT, Int.reduceEq, Int.reduceNeg, Nat.reduceLT, Nat.reduceSub, Nat.reduceMul]) | fail)
  have e1 := of_decide_eq_false e1
  have e2 := of_decide_eq_false e2
  refine kcd_b (fun e3 => ?_) (fun e3 => ?_) <;> simp -implicitDefEqProofs only [↓W_seq, go_sem, ↓reduceIte, Nat.reduceBEq, Nat.reduceAdd, Nat.reduceLeDiff, Nat.reduceEqDiff, reduceCtorEq, Int.reduceToNat, Int.reduceLE, Int.reduceLT, Int.reduceEq, Int.reduceNeg, Nat.reduceLT, Nat.reduceSub, Nat.reduceMul, e3]
  · have e3 := of_decide_eq_true e3
    have hnl : d.names.length = d.ctors.length + 2 := by unfold Decl.names; rw [if_neg (by omega), if_pos e3]; simp
    have hS2 := hS [d.name] [[.s d.name]] 1 true ⟨rfl, trivial⟩ (.inl rfl) (by simp; omega)
    refine WL.upto ces.length (fun j st => st = ⟨[(3, .im (.ip 23 false [[.i .i64 d.kind, .s d.name, .i .i64 d.params, t0, t1, t2, t3, t4, v0, v1, v2, v3, v4, .i .i64 d.fixed, .sl cz false ct ces, .i .i64 d.recParams, u0, u1, u2, u3, u4, .sl rz false rt res, .sl fz false ft fes]] 0 0)), (5, .ptr 0 1 0 0), (7, .im (.i .i64 j))], [], [.row [(.sl z false q es :: .sl 1 false true [[.s d.name]] :: [.i .i64 d.kind, .s d.name, .i .i64 d.params, t0, t1, t2, t3, t4, v0, v1, v2, v3, v4, .i .i64 d.fixed, .sl cz false ct ces, .i .i64 d.recParams, u0, u1, u2, u3, u4, .sl rz false rt res, .sl fz false ft fes]).map .im] 25 215]⟩) ?_ rfl
    rintro j st hj rfl
    simp -implicitDefEqProofs only [↓W_seq, go_sem, ↓reduceIte, Nat.reduceBEq, Nat.reduceAdd, Nat.reduceLeDiff, Nat.reduceEqDiff, reduceCtorEq, Int.reduceToNat, Int.reduceLE, Int.reduceLT, Int.reduceEq, Int.reduceNeg, Nat.reduceLT, Nat.reduceSub, Nat.reduceMul]
    refine kcd_dec (fun h1 => ?_) (fun h1 => ?_)
    · have hj1 : j < ces.length := by omega
      obtain ⟨rfl, a, r, ha, hr, x0, x1, x2, x3, x4, rfl, hx, hX, hXn⟩ := hC.at hcz hj1
      simp -implicitDefEqProofs only [↓W_seq, go_sem, ↓reduceIte, Nat.reduceBEq, Nat.reduceAdd, Nat.reduceLeDiff, Nat.reduceEqDiff, reduceCtorEq, Int.reduceToNat, Int.reduceLE, Int.reduceLT, Int.reduceEq, Int.reduceNeg, Nat.reduceLT, Nat.reduceSub, Nat.reduceMul, hj1, hr]
      repeat' (first | ((first | refine kgb_not (fun h => ?_) (fun h => ?_) | refine kcd_not (fun h => ?_) (fun h => ?_) | refine kdb_not (fun h => ?_) (fun h => ?_) | refine kgb_b (fun h => ?_) (fun h => ?_) | refine kcd_b (fun h => ?_) (fun h => ?_) | refine kdb_b (fun h => ?_) (fun h => ?_) | fail) <;> simp -implicitDefEqProofs only [↓W_seq, go_sem, ↓reduceIte, Nat.reduceBEq, Nat.reduceAdd, Nat.reduceLeDiff, Nat.reduceEqDiff, reduceCtorEq, Int.reduceToNat, Int.reduceLE, Int.reduceLT, Int.reduceEq, Int.reduceNeg, Nat.reduceLT, Nat.reduceSub, Nat.reduceMul, wrap_succ hj1 hcl, hj1, hr, h]) | (first | exact ⟨_, rfl, _, rfl⟩ | exact rfl | exact ⟨_, rfl⟩ | exact ⟨_, _, rfl⟩ | exact ⟨_, _, _, rfl⟩ | exact ⟨hj1, rfl⟩ | exact ⟨hj1, _, rfl⟩ | exact ⟨hj1, _, _, rfl⟩) | (refine WC.pf (f149 _ _ _ _ _ _ _ _ hS2 hX) rfl rfl ?_; rintro _ ⟨mm, rfl⟩; simp -implicitDefEqProofs only [↓W_seq, go_sem, ↓reduceIte, Nat.reduceBEq, Nat.reduceAdd, Nat.reduceLeDiff, Nat.reduceEqDiff, reduceCtorEq, Int.reduceToNat, Int.reduceLE, Int.reduceLT, Int.reduceEq, Int.reduceNeg, Nat.reduceLT, Nat.reduceSub, Nat.reduceMul, wrap_succ hj1 hcl, hj1, hr]) | fail)
    simp -implicitDefEqProofs only [↓W_seq, go_sem, ↓reduceIte, Nat.reduceBEq, Nat.reduceAdd, Nat.reduceLeDiff, Nat.reduceEqDiff, reduceCtorEq, Int.reduceToNat, Int.reduceLE, Int.reduceLT, Int.reduceEq, Int.reduceNeg, Nat.reduceLT, Nat.reduceSub, Nat.reduceMul]
    refine WC.pv h83 rfl rfl rfl ?_
    rintro _ ⟨ns, nz, nt, rfl, hns, hnz, hnle, hnn⟩
    have hn2 : 2 ≤ ns.length := by rw [← hns.length, hnl]; omega
    have hnz1 : nz = 1 := by
      rcases hnz with h | h
      · exact h
      · subst h; simp at hn2
    subst hnz1
    have hw : IntKind.i64.wrap ((ns.length : Int) - 1) = ((ns.length - 1 : Nat) : Int) := by rw [wrap_id] <;> omega
    have hle : ns.length - 1 ≤ ns.length := by omega
    simp -implicitDefEqProofs only [↓W_seq, go_sem, ↓reduceIte, Nat.reduceBEq, Nat.reduceAdd, Nat.reduceLeDiff, Nat.reduceEqDiff, reduceCtorEq, Int.reduceToNat, Int.reduceLE, Int.reduceLT, Int.reduceEq, Int.reduceNeg, Nat.reduceLT, Nat.reduceSub, Nat.reduceMul, hw, hle]
    have hS3 := hS _ _ 1 (nt && ns.length - 1 == ns.length) (hns.take (ns.length - 1)) (.inl rfl) (by simp only [List.length_take]; omega)
    refine WC.pf (f149 _ _ _ _ _ _ 0 d.recParams hS3 hU) rfl rfl ?_
    rintro _ ⟨mm, rfl⟩
    simp -implicitDefEqProofs only [↓W_seq, go_sem, ↓reduceIte, Nat.reduceBEq, Nat.reduceAdd, Nat.reduceLeDiff, Nat.reduceEqDiff, reduceCtorEq, Int.reduceToNat, Int.reduceLE, Int.reduceLT, Int.reduceEq, Int.reduceNeg, Nat.reduceLT, Nat.reduceSub, Nat.reduceMul]
    refine kcd_not (fun h2 => ?_) (fun h2 => ?_) <;> simp -implicitDefEqProofs only [↓W_seq, go_sem, ↓reduceIte, Nat.reduceBEq, Nat.reduceAdd, Nat.reduceLeDiff, Nat.reduceEqDiff, reduceCtorEq, Int.reduceToNat, Int.reduceLE, Int.reduceLT, Int.reduceEq, Int.reduceNeg, Nat.reduceLT, Nat.reduceSub, Nat.reduceMul, h2]
    rotate_left
    · (first | exact ⟨_, rfl, _, rfl⟩ | exact rfl | exact ⟨_, rfl⟩ | exact ⟨_, _, rfl⟩ | exact ⟨_, _, _, rfl⟩ | exact ⟨hj1, rfl⟩ | exact ⟨hj1, _, rfl⟩ | exact ⟨hj1, _, _, rfl⟩)
    have hS4 := hS _ _ 1 nt hns (.inl rfl) (by omega)
    refine WL.upto res.length (fun j st => st = ⟨[(3, .im (.ip 23 false [[.i .i64 d.kind, .s d.name, .i .i64 d.params, t0, t1, t2, t3, t4, v0, v1, v2, v3, v4, .i .i64 d.fixed, .sl cz false ct ces, .i .i64 d.recParams, u0, u1, u2, u3, u4, .sl rz false rt res, .sl fz false ft fes]] 0 0)), (5, .ptr 0 1 0 0), (11, .im (.i .i64 j))], [], [.row [(.sl z false q es :: .sl 1 false nt ns :: [.i .i64 d.kind, .s d.name, .i .i64 d.params, t0, t1, t2, t3, t4, v0, v1, v2, v3, v4, .i .i64 d.fixed, .sl cz false ct ces, .i .i64 d.recParams, u0, u1, u2, u3, u4, .sl rz false rt res, .sl fz false ft fes]).map .im] 25 215]⟩) ?_ rfl
    rintro j st hj rfl
    simp -implicitDefEqProofs only [↓W_seq, go_sem, ↓reduceIte, Nat.reduceBEq, Nat.reduceAdd, Nat.reduceLeDiff, Nat.reduceEqDiff, reduceCtorEq, Int.reduceToNat, Int.reduceLE, Int.reduceLT, Int.reduceEq, Int.reduceNeg, Nat.reduceLT, Nat.reduceSub, Nat.reduceMul]
    refine kcd_dec (fun h1 => ?_) (fun h1 => ?_)
    · have hj1 : j < res.length := by omega
      obtain ⟨rfl, a, r, ha, hr, hX⟩ := hR.at hrz hj1
      simp -implicitDefEqProofs only [↓W_seq, go_sem, ↓reduceIte, Nat.reduceBEq, Nat.reduceAdd, Nat.reduceLeDiff, Nat.reduceEqDiff, reduceCtorEq, Int.reduceToNat, Int.reduceLE, Int.reduceLT, Int.reduceEq, Int.reduceNeg, Nat.reduceLT, Nat.reduceSub, Nat.reduceMul, hj1, hr, sub_all hX.length]
      repeat' (first | ((first | refine kgb_not (fun h => ?_) (fun h => ?_) | refine kcd_not (fun h => ?_) (fun h => ?_) | refine kdb_not (fun h => ?_) (fun h => ?_) | refine kgb_b (fun h => ?_) (fun h => ?_) | refine kcd_b (fun h => ?_) (fun h => ?_) | refine kdb_b (fun h => ?_) (fun h => ?_) | fail) <;> simp -implicitDefEqProofs only [↓W_seq, go_sem, ↓reduceIte, Nat.reduceBEq, Nat.reduceAdd, Nat.reduceLeDiff, Nat.reduceEqDiff, reduceCtorEq, Int.reduceToNat, Int.reduceLE, Int.reduceLT, Int.reduceEq, Int.reduceNeg, Nat.reduceLT, Nat.reduceSub, Nat.reduceMul, wrap_succ hj1 hrl, hj1, hr, h]) | (first | exact ⟨_, rfl, _, rfl⟩ | exact rfl | exact ⟨_, rfl⟩ | exact ⟨_, _, rfl⟩ | exact ⟨_, _, _, rfl⟩ | exact ⟨hj1, rfl⟩ | exact ⟨hj1, _, rfl⟩ | exact ⟨hj1, _, _, rfl⟩) | (refine WC.pf (f149 _ _ _ _ _ _ _ _ hS4 hX) rfl rfl ?_; rintro _ ⟨mm, rfl⟩; simp -implicitDefEqProofs only [↓W_seq, go_sem, ↓reduceIte, Nat.reduceBEq, Nat.reduceAdd, Nat.reduceLeDiff, Nat.reduceEqDiff, reduceCtorEq, Int.reduceToNat, Int.reduceLE, Int.reduceLT, Int.reduceEq, Int.reduceNeg, Nat.reduceLT, Nat.reduceSub, Nat.reduceMul, wrap_succ hj1 hrl, hj1, hr]) | fail)
    simp -implicitDefEqProofs only [↓W_seq, go_sem, ↓reduceIte, Nat.reduceBEq, Nat.reduceAdd, Nat.reduceLeDiff, Nat.reduceEqDiff, reduceCtorEq, Int.reduceToNat, Int.reduceLE, Int.reduceLT, Int.reduceEq, Int.reduceNeg, Nat.reduceLT, Nat.reduceSub, Nat.reduceMul]
    (first | exact ⟨_, rfl, _, rfl⟩ | exact rfl | exact ⟨_, rfl⟩ | exact ⟨_, _, rfl⟩ | exact ⟨_, _, _, rfl⟩ | exact ⟨hj1, rfl⟩ | exact ⟨hj1, _, rfl⟩ | exact ⟨hj1, _, _, rfl⟩)
  refine kcd_b (fun e4 => ?_) (fun e4 => ?_) <;> simp -implicitDefEqProofs only [↓W_seq, go_sem, ↓reduceIte, Nat.reduceBEq, Nat.reduceAdd, Nat.reduceLeDiff, Nat.reduceEqDiff, reduceCtorEq, Int.reduceToNat, Int.reduceLE, Int.reduceLT, Int.reduceEq, Int.reduceNeg, Nat.reduceLT, Nat.reduceSub, Nat.reduceMul, e4]
  · refine WL.upto fes.length (fun j st => st = ⟨[(3, .im (.ip 23 false [[.i .i64 d.kind, .s d.name, .i .i64 d.params, t0, t1, t2, t3, t4, v0, v1, v2, v3, v4, .i .i64 d.fixed, .sl cz false ct ces, .i .i64 d.recParams, u0, u1, u2, u3, u4, .sl rz false rt res, .sl fz false ft fes]] 0 0)), (5, .ptr 0 1 0 0), (13, .im (.i .i64 j))], [], [.row [(.sl z false q es :: .sl 1 false true [] :: [.i .i64 d.kind, .s d.name, .i .i64 d.params, t0, t1, t2, t3, t4, v0, v1, v2, v3, v4, .i .i64 d.fixed, .sl cz false ct ces, .i .i64 d.recParams, u0, u1, u2, u3, u4, .sl rz false rt res, .sl fz false ft fes]).map .im] 25 215]⟩) ?_ rfl
    rintro j st hj rfl
    simp -implicitDefEqProofs only [↓W_seq, go_sem, ↓reduceIte, Nat.reduceBEq, Nat.reduceAdd, Nat.reduceLeDiff, Nat.reduceEqDiff, reduceCtorEq, Int.reduceToNat, Int.reduceLE, Int.reduceLT, Int.reduceEq, Int.reduceNeg, Nat.reduceLT, Nat.reduceSub, Nat.reduceMul]
    refine kcd_dec (fun h1 => ?_) (fun h1 => ?_)
    · have hj1 : j < fes.length := by omega
      obtain ⟨rfl, a, r, ha, hr, x0, x1, x2, x3, x4, y0, y1, y2, y3, y4, y5, y6, y7, rfl, hx, hX, hy, hY⟩ := hF.at hfz hj1
      simp -implicitDefEqProofs only [↓W_seq, go_sem, ↓reduceIte, Nat.reduceBEq, Nat.reduceAdd, Nat.reduceLeDiff, Nat.reduceEqDiff, reduceCtorEq, Int.reduceToNat, Int.reduceLE, Int.reduceLT, Int.reduceEq, Int.reduceNeg, Nat.reduceLT, Nat.reduceSub, Nat.reduceMul, hj1, hr]
      repeat' (first | ((first | refine kgb_not (fun h => ?_) (fun h => ?_) | refine kcd_not (fun h => ?_) (fun h => ?_) | refine kdb_not (fun h => ?_) (fun h => ?_) | refine kgb_b (fun h => ?_) (fun h => ?_) | refine kcd_b (fun h => ?_) (fun h => ?_) | refine kdb_b (fun h => ?_) (fun h => ?_) | fail) <;> simp -implicitDefEqProofs only [↓W_seq, go_sem, ↓reduceIte, Nat.reduceBEq, Nat.reduceAdd, Nat.reduceLeDiff, Nat.reduceEqDiff, reduceCtorEq, Int.reduceToNat, Int.reduceLE, Int.reduceLT, Int.reduceEq, Int.reduceNeg, Nat.reduceLT, Nat.reduceSub, Nat.reduceMul, wrap_succ hj1 hfl, hj1, hr, h]) | (first | exact ⟨_, rfl, _, rfl⟩ | exact rfl | exact ⟨_, rfl⟩ | exact ⟨_, _, rfl⟩ | exact ⟨_, _, _, rfl⟩ | exact ⟨hj1, rfl⟩ | exact ⟨hj1, _, rfl⟩ | exact ⟨hj1, _, _, rfl⟩) | (refine WC.pf (f149 _ _ _ _ _ _ _ _ hS1 hX) rfl rfl ?_; rintro _ ⟨mm, rfl⟩; simp -implicitDefEqProofs only [↓W_seq, go_sem, ↓reduceIte, Nat.reduceBEq, Nat.reduceAdd, Nat.reduceLeDiff, Nat.reduceEqDiff, reduceCtorEq, Int.reduceToNat, Int.reduceLE, Int.reduceLT, Int.reduceEq, Int.reduceNeg, Nat.reduceLT, Nat.reduceSub, Nat.reduceMul, wrap_succ hj1 hfl, hj1, hr]) | fail)
    simp -implicitDefEqProofs only [↓W_seq, go_sem, ↓reduceIte, Nat.reduceBEq, Nat.reduceAdd, Nat.reduceLeDiff, Nat.reduceEqDiff, reduceCtorEq, Int.reduceToNat, Int.reduceLE, Int.reduceLT, Int.reduceEq, Int.reduceNeg, Nat.reduceLT, Nat.reduceSub, Nat.reduceMul]
    refine WC.pv h83 rfl rfl rfl ?_
    rintro _ ⟨ns, nz, nt, rfl, hns, hnz, hnle, hnn⟩
    simp -implicitDefEqProofs only [↓W_seq, go_sem, ↓reduceIte, Nat.reduceBEq, Nat.reduceAdd, Nat.reduceLeDiff, Nat.reduceEqDiff, reduceCtorEq, Int.reduceToNat, Int.reduceLE, Int.reduceLT, Int.reduceEq, Int.reduceNeg, Nat.reduceLT, Nat.reduceSub, Nat.reduceMul]
    have hS4 := hS _ _ nz nt hns hnz (by omega)
    refine WL.upto fes.length (fun j st => st = ⟨[(3, .im (.ip 23 false [[.i .i64 d.kind, .s d.name, .i .i64 d.params, t0, t1, t2, t3, t4, v0, v1, v2, v3, v4, .i .i64 d.fixed, .sl cz false ct ces, .i .i64 d.recParams, u0, u1, u2, u3, u4, .sl rz false rt res, .sl fz false ft fes]] 0 0)), (5, .ptr 0 1 0 0), (15, .im (.i .i64 j))], [], [.row [(.sl z false q es :: .sl nz false nt ns :: [.i .i64 d.kind, .s d.name, .i .i64 d.params, t0, t1, t2, t3, t4, v0, v1, v2, v3, v4, .i .i64 d.fixed, .sl cz false ct ces, .i .i64 d.recParams, u0, u1, u2, u3, u4, .sl rz false rt res, .sl fz false ft fes]).map .im] 25 215]⟩) ?_ rfl
    rintro j st hj rfl
    simp -implicitDefEqProofs only [↓W_seq, go_sem, ↓reduceIte, Nat.reduceBEq, Nat.reduceAdd, Nat.reduceLeDiff, Nat.reduceEqDiff, reduceCtorEq, Int.reduceToNat, Int.reduceLE, Int.reduceLT, Int.reduceEq, Int.reduceNeg, Nat.reduceLT, Nat.reduceSub, Nat.reduceMul]
    refine kcd_dec (fun h1 => ?_) (fun h1 => ?_)
    · have hj1 : j < fes.length := by omega
      obtain ⟨rfl, a, r, ha, hr, x0, x1, x2, x3, x4, y0, y1, y2, y3, y4, y5, y6, y7, rfl, hx, hX, hy, hY⟩ := hF.at hfz hj1
      simp -implicitDefEqProofs only [↓W_seq, go_sem, ↓reduceIte, Nat.reduceBEq, Nat.reduceAdd, Nat.reduceLeDiff, Nat.reduceEqDiff, reduceCtorEq, Int.reduceToNat, Int.reduceLE, Int.reduceLT, Int.reduceEq, Int.reduceNeg, Nat.reduceLT, Nat.reduceSub, Nat.reduceMul, hj1, hr]
      repeat' (first | ((first | refine kgb_not (fun h => ?_) (fun h => ?_) | refine kcd_not (fun h => ?_) (fun h => ?_) | refine kdb_not (fun h => ?_) (fun h => ?_) | refine kgb_b (fun h => ?_) (fun h => ?_) | refine kcd_b (fun h => ?_) (fun h => ?_) | refine kdb_b (fun h => ?_) (fun h => ?_) | fail) <;> simp -implicitDefEqProofs only [↓W_seq, go_sem, ↓reduceIte, Nat.reduceBEq, Nat.reduceAdd, Nat.reduceLeDiff, Nat.reduceEqDiff, reduceCtorEq, Int.reduceToNat, Int.reduceLE, Int.reduceLT, Int.reduceEq, Int.reduceNeg, Nat.reduceLT, Nat.reduceSub, Nat.reduceMul, wrap_succ hj1 hfl, hj1, hr, h]) | (first | exact ⟨_, rfl, _, rfl⟩ | exact rfl | exact ⟨_, rfl⟩ | exact ⟨_, _, rfl⟩ | exact ⟨_, _, _, rfl⟩ | exact ⟨hj1, rfl⟩ | exact ⟨hj1, _, rfl⟩ | exact ⟨hj1, _, _, rfl⟩) | (refine WC.pf (f150 _ _ _ _ _ _ _ _ _ (Nat.le_refl _) hS4 hY) rfl rfl ?_; rintro _ ⟨mm, rfl⟩; simp -implicitDefEqProofs only [↓W_seq, go_sem, ↓reduceIte, Nat.reduceBEq, Nat.reduceAdd, Nat.reduceLeDiff, Nat.reduceEqDiff, reduceCtorEq, Int.reduceToNat, Int.reduceLE, Int.reduceLT, Int.reduceEq, Int.reduceNeg, Nat.reduceLT, Nat.reduceSub, Nat.reduceMul, wrap_succ hj1 hfl, hj1, hr]) | fail)
    simp -implicitDefEqProofs only [↓W_seq, go_sem, ↓reduceIte, Nat.reduceBEq, Nat.reduceAdd, Nat.reduceLeDiff, Nat.reduceEqDiff, reduceCtorEq, Int.reduceToNat, Int.reduceLE, Int.reduceLT, Int.reduceEq, Int.reduceNeg, Nat.reduceLT, Nat.reduceSub, Nat.reduceMul]
    (first | exact ⟨_, rfl, _, rfl⟩ | exact rfl | exact ⟨_, rfl⟩ | exact ⟨_, _, rfl⟩ | exact ⟨_, _, _, rfl⟩ | exact ⟨hj1, rfl⟩ | exact ⟨hj1, _, rfl⟩ | exact ⟨hj1, _, _, rfl⟩)
  · (first | exact ⟨_, rfl, _, rfl⟩ | exact rfl | exact ⟨_, rfl⟩ | exact ⟨_, _, rfl⟩ | exact ⟨_, _, _, rfl⟩ | exact ⟨hj1, rfl⟩ | exact ⟨hj1, _, rfl⟩ | exact ⟨hj1, _, _, rfl⟩)
end Go.Proofs.Ytnbbhbbhgcipjaa.Am

namespace Go.Proofs.Ytnbbhbbhgcipjaa.Am
attribute [local irreducible] W WO WD WL WR WC WOp W1 WDf kcall kdfr kpn ob eb kval kvh kH kn0 kmp kvc kvc0 kca kpk kgb kgd kcd kcl kbl kres kmt wseq kseq kblock kreg kdn kdE kbd kcr kdm kdb kdg kdo kfin klp
theorem f70 (ds : List Decl) (es : List (List Imm)) (z : Nat) (q : Bool) (d : Decl) (r : List Imm) (h : All2 Decl.Enc ds es) (hz : z = 23 ∨ es = []) (hl : es.length ≤ lim) (hd : d.Enc r) : PF cx 70 [.sl z false q es, .agg r] fun y => ∃ n : Int, y = .i .i64 n ∧ (n = 0 → d.cnt) := by
  refine PF.intro (fn := Try.f70) Try.func70 rfl rfl ?_
  have h113 := f113 d r hd
  have h114 := f114 d r hd
  have h115 := f115 ds es z q d r h hz hl hd
  have h116 := f116 ds es z q d r h hz hl hd
  obtain ⟨t0, t1, t2, t3, t4, v0, v1, v2, v3, v4, cz, ct, ces, u0, u1, u2, u3, u4, rz, rt, res, fz, ft, fes, rfl, hdk, hdn, hdp, hT, hV, hdf, hcz, hcl, hC, hrp, hU, hrz, hrl, hR, hfz, hfl, hF, hTn⟩ := hd
  simp -implicitDefEqProofs only [↓W_seq, go_sem, ↓reduceIte, Nat.reduceBEq, Nat.reduceAdd, Nat.reduceLeDiff, Nat.reduceEqDiff, reduceCtorEq, Int.reduceToNat, Int.reduceLE, Int.reduceLT, Int.reduceEq, Int.reduceNeg, Nat.reduceLT, Nat.reduceSub, Nat.reduceMul]
  repeat' (first | ((first | refine kgb_not (fun h => ?_) (fun h => ?_) | refine kcd_not (fun h => ?_) (fun h => ?_) | refine kdb_not (fun h => ?_) (fun h => ?_) | refine kgb_b (fun h => ?_) (fun h => ?_) | refine kcd_b (fun h => ?_) (fun h => ?_) | refine kdb_b (fun h => ?_) (fun h => ?_) | fail) <;> simp -implicitDefEqProofs only [↓W_seq, go_sem, ↓reduceIte, Nat.reduceBEq, Nat.reduceAdd, Nat.reduceLeDiff, Nat.reduceEqDiff, reduceCtorEq, Int.reduceToNat, Int.reduceLE, Int.reduceLT, Int.reduceEq, Int.reduceNeg, Nat.reduceLT, Nat.reduceSub, Nat.reduceMul, h]) | (first | exact ⟨_, rfl, _, rfl⟩ | exact rfl | exact ⟨_, rfl⟩ | exact ⟨_, _, rfl⟩ | exact ⟨_, _, _, rfl⟩ | exact ⟨hj1, rfl⟩ | exact ⟨hj1, _, rfl⟩ | exact ⟨hj1, _, _, rfl⟩) | (exact ⟨_, rfl, _, rfl, fun h => absurd h (by decide)⟩) | (refine WC.pf (h113) rfl rfl ?_; rintro _ ⟨_ | _, rfl⟩ <;> simp -implicitDefEqProofs only [↓W_seq, go_sem, ↓reduceIte, Nat.reduceBEq, Nat.reduceAdd, Nat.reduceLeDiff, Nat.reduceEqDiff, reduceCtorEq, Int.reduceToNat, Int.reduceLE, Int.reduceLT, Int.reduceEq, Int.reduceNeg, Nat.reduceLT, Nat.reduceSub, Nat.reduceMul]) | fail)
  refine WC.pf h114 rfl rfl ?_
  rintro _ ⟨n, rfl, hn⟩
  simp -implicitDefEqProofs only [↓W_seq, go_sem, ↓reduceIte, Nat.reduceBEq, Nat.reduceAdd, Nat.reduceLeDiff, Nat.reduceEqDiff, reduceCtorEq, Int.reduceToNat, Int.reduceLE, Int.reduceLT, Int.reduceEq, Int.reduceNeg, Nat.reduceLT, Nat.reduceSub, Nat.reduceMul]
  refine kcd_not (fun h2 => ?_) (fun h2 => ?_) <;> simp -implicitDefEqProofs only [↓W_seq, go_sem, ↓reduceIte, Nat.reduceBEq, Nat.reduceAdd, Nat.reduceLeDiff, Nat.reduceEqDiff, reduceCtorEq, Int.reduceToNat, Int.reduceLE, Int.reduceLT, Int.reduceEq, Int.reduceNeg, Nat.reduceLT, Nat.reduceSub, Nat.reduceMul, h2]
  rotate_left
  · exact ⟨_, rfl, _, rfl, fun h => absurd h (of_decide_eq_false h2)⟩
  have hc := hn (of_decide_eq_true h2)
  repeat' (first | ((first | refine kgb_not (fun h => ?_) (fun h => ?_) | refine kcd_not (fun h => ?_) (fun h => ?_) | refine kdb_not (fun h => ?_) (fun h => ?_) | refine kgb_b (fun h => ?_) (fun h => ?_) | refine kcd_b (fun h => ?_) (fun h => ?_) | refine kdb_b (fun h => ?_) (fun h => ?_) | fail) <;> simp -implicitDefEqProofs only [↓W_seq, go_sem, ↓reduceIte, Nat.reduceBEq, Nat.reduceAdd, Nat.reduceLeDiff, Nat.reduceEqDiff, reduceCtorEq, Int.reduceToNat, Int.reduceLE, Int.reduceLT, Int.reduceEq, Int.reduceNeg, Nat.reduceLT, Nat.reduceSub, Nat.reduceMul, h]) | (first | exact ⟨_, rfl, _, rfl⟩ | exact rfl | exact ⟨_, rfl⟩ | exact ⟨_, _, rfl⟩ | exact ⟨_, _, _, rfl⟩ | exact ⟨hj1, rfl⟩ | exact ⟨hj1, _, rfl⟩ | exact ⟨hj1, _, _, rfl⟩) | (exact ⟨_, rfl, _, rfl, fun _ => hc⟩) | (refine WC.pf (h115) rfl rfl ?_; rintro _ ⟨mm, rfl⟩; simp -implicitDefEqProofs only [↓W_seq, go_sem, ↓reduceIte, Nat.reduceBEq, Nat.reduceAdd, Nat.reduceLeDiff, Nat.reduceEqDiff, reduceCtorEq, Int.reduceToNat, Int.reduceLE, Int.reduceLT, Int.reduceEq, Int.reduceNeg, Nat.reduceLT, Nat.reduceSub, Nat.reduceMul]) | (refine WC.pf (h116) rfl rfl ?_; rintro _ ⟨mm, rfl⟩; simp -implicitDefEqProofs only [↓W_seq, go_sem, ↓reduceIte, Nat.reduceBEq, Nat.reduceAdd, Nat.reduceLeDiff, Nat.reduceEqDiff, reduceCtorEq, Int.reduceToNat, Int.reduceLE, Int.reduceLT, Int.reduceEq, Int.reduceNeg, Nat.reduceLT, Nat.reduceSub, Nat.reduceMul]) | fail)
theorem f21 (ds : List Decl) (es : List (List Imm)) (z : Nat) (q : Bool) (h : All2 Decl.Enc ds es) (hz : z = 23 ∨ es = []) (hl : es.length ≤ lim) : PF cx 21 [.sl z false q es] fun y => ∃ a n : Int, y = .tup [.i .i64 a, .i .i64 n] ∧ (n = 0 → ∀ d ∈ ds, d.cnt) := by
  refine PF.intro (fn := Try.f21) Try.func21 rfl rfl ?_
  simp -implicitDefEqProofs only [↓W_seq, go_sem, ↓reduceIte, Nat.reduceBEq, Nat.reduceAdd, Nat.reduceLeDiff, Nat.reduceEqDiff, reduceCtorEq, Int.reduceToNat, Int.reduceLE, Int.reduceLT, Int.reduceEq, Int.reduceNeg, Nat.reduceLT, Nat.reduceSub, Nat.reduceMul]
  refine kcd_b (fun h0 => ?_) (fun h0 => ?_) <;> simp -implicitDefEqProofs only [↓W_seq, go_sem, ↓reduceIte, Nat.reduceBEq, Nat.reduceAdd, Nat.reduceLeDiff, Nat.reduceEqDiff, reduceCtorEq, Int.reduceToNat, Int.reduceLE, Int.reduceLT, Int.reduceEq, Int.reduceNeg, Nat.reduceLT, Nat.reduceSub, Nat.reduceMul, h0]
  · exact ⟨_, rfl, _, _, rfl, fun h => absurd h (by decide)⟩
  refine WL.upto es.length (fun j st => (∀ i, i < j → ∀ d : Decl, ds[i]? = some d → d.cnt) ∧ st = ⟨[(0, .im (.sl z false q es)), (4, .im (.i .i64 j))], [], []⟩) ?_ ⟨by omega, rfl⟩
  rintro j st hj ⟨hI, rfl⟩
  simp -implicitDefEqProofs only [↓W_seq, go_sem, ↓reduceIte, Nat.reduceBEq, Nat.reduceAdd, Nat.reduceLeDiff, Nat.reduceEqDiff, reduceCtorEq, Int.reduceToNat, Int.reduceLE, Int.reduceLT, Int.reduceEq, Int.reduceNeg, Nat.reduceLT, Nat.reduceSub, Nat.reduceMul]
  refine kcd_dec (fun h1 => ?_) (fun h1 => ?_)
  · have hj1 : j < es.length := by omega
    obtain ⟨rfl, d, r, hd, hr, hE⟩ := h.at hz hj1
    have hle : j ≤ es.length := by omega
    simp -implicitDefEqProofs only [↓W_seq, go_sem, ↓reduceIte, Nat.reduceBEq, Nat.reduceAdd, Nat.reduceLeDiff, Nat.reduceEqDiff, reduceCtorEq, Int.reduceToNat, Int.reduceLE, Int.reduceLT, Int.reduceEq, Int.reduceNeg, Nat.reduceLT, Nat.reduceSub, Nat.reduceMul, hj1, hr, hle, sub_all hE.length]
    refine WC.pf (f70 _ _ 23 (q && j == es.length) d r (h.take j) (.inl rfl) (by simp only [List.length_take]; omega) hE) rfl rfl ?_
    rintro _ ⟨n, rfl, hn⟩
    simp -implicitDefEqProofs only [↓W_seq, go_sem, ↓reduceIte, Nat.reduceBEq, Nat.reduceAdd, Nat.reduceLeDiff, Nat.reduceEqDiff, reduceCtorEq, Int.reduceToNat, Int.reduceLE, Int.reduceLT, Int.reduceEq, Int.reduceNeg, Nat.reduceLT, Nat.reduceSub, Nat.reduceMul]
    refine kcd_not (fun h2 => ?_) (fun h2 => ?_) <;> simp -implicitDefEqProofs only [↓W_seq, go_sem, ↓reduceIte, Nat.reduceBEq, Nat.reduceAdd, Nat.reduceLeDiff, Nat.reduceEqDiff, reduceCtorEq, Int.reduceToNat, Int.reduceLE, Int.reduceLT, Int.reduceEq, Int.reduceNeg, Nat.reduceLT, Nat.reduceSub, Nat.reduceMul, h2, wrap_succ hj1 hl]
    · intro i hi c hc
      rcases Nat.lt_succ_iff_lt_or_eq.1 hi with hi | rfl
      · exact hI i hi c hc
      · rw [hd] at hc; cases hc; exact hn (of_decide_eq_true h2)
    · exact ⟨_, rfl, _, _, rfl, fun h => absurd h (of_decide_eq_false h2)⟩
  · simp -implicitDefEqProofs only [↓W_seq, go_sem, ↓reduceIte, Nat.reduceBEq, Nat.reduceAdd, Nat.reduceLeDiff, Nat.reduceEqDiff, reduceCtorEq, Int.reduceToNat, Int.reduceLE, Int.reduceLT, Int.reduceEq, Int.reduceNeg, Nat.reduceLT, Nat.reduceSub, Nat.reduceMul]
    refine ⟨_, rfl, _, _, rfl, fun _ d hd => ?_⟩
    obtain ⟨i, hi⟩ := List.getElem?_of_mem hd
    exact hI i (by have := (List.getElem?_eq_some_iff.1 hi).1; rw [h.length] at this; omega) d hi
theorem f22 (ds : List Decl) (es : List (List Imm)) (z : Nat) (q : Bool) (h : All2 Decl.Enc ds es) (hz : z = 23 ∨ es = []) (hl : es.length ≤ lim) : PF cx 22 [.sl z false q es] fun y => ∃ b : Bool, y = .b b ∧ (b = true → ∀ d ∈ ds, d.cnt) := by
  refine PF.intro (fn := Try.f22) Try.func22 rfl rfl ?_
  simp -implicitDefEqProofs only [↓W_seq, go_sem, ↓reduceIte, Nat.reduceBEq, Nat.reduceAdd, Nat.reduceLeDiff, Nat.reduceEqDiff, reduceCtorEq, Int.reduceToNat, Int.reduceLE, Int.reduceLT, Int.reduceEq, Int.reduceNeg, Nat.reduceLT, Nat.reduceSub, Nat.reduceMul]
  refine WC.pf (f18 ds es z q h hz hl) rfl rfl ?_
  rintro _ ⟨_ | _, rfl⟩ <;> simp -implicitDefEqProofs only [↓W_seq, go_sem, ↓reduceIte, Nat.reduceBEq, Nat.reduceAdd, Nat.reduceLeDiff, Nat.reduceEqDiff, reduceCtorEq, Int.reduceToNat, Int.reduceLE, Int.reduceLT, Int.reduceEq, Int.reduceNeg, Nat.reduceLT, Nat.reduceSub, Nat.reduceMul]
  · exact ⟨_, rfl, _, rfl, fun h => by cases h⟩
  refine WC.pf (f21 ds es z q h hz hl) rfl rfl ?_
  rintro _ ⟨a, n, rfl, hn⟩
  simp -implicitDefEqProofs only [↓W_seq, go_sem, ↓reduceIte, Nat.reduceBEq, Nat.reduceAdd, Nat.reduceLeDiff, Nat.reduceEqDiff, reduceCtorEq, Int.reduceToNat, Int.reduceLE, Int.reduceLT, Int.reduceEq, Int.reduceNeg, Nat.reduceLT, Nat.reduceSub, Nat.reduceMul]
  exact ⟨_, rfl, _, rfl, fun h => hn (of_decide_eq_true h)⟩
theorem f11 (ds : List Decl) (es : List (List Imm)) (z : Nat) (q : Bool) (ts : List Term) (fs : List (List Imm)) (w : Nat) (p : Bool) (h : All2 Decl.Enc ds es) (hz : z = 23 ∨ es = []) (hl : es.length ≤ lim)
    (ht : All2 Term.Enc ts fs) (hw : w = 5 ∨ fs = []) (hf : fs.length ≤ lim) : PF cx 11 [.sl z false q es, .sl w false p fs] fun y => ∃ b : Bool, y = .b b ∧ (b = true → ∀ d ∈ ds, d.cnt) := by
  refine PF.intro (fn := Try.f11) Try.func11 rfl rfl ?_
  simp -implicitDefEqProofs only [↓W_seq, go_sem, ↓reduceIte, Nat.reduceBEq, Nat.reduceAdd, Nat.reduceLeDiff, Nat.reduceEqDiff, reduceCtorEq, Int.reduceToNat, Int.reduceLE, Int.reduceLT, Int.reduceEq, Int.reduceNeg, Nat.reduceLT, Nat.reduceSub, Nat.reduceMul]
  refine WC.pf (f44 _ ts fs w p 60 (Nat.lt_succ_self _) ht hw hf) rfl rfl ?_
  rintro _ ⟨m, rfl⟩
  simp -implicitDefEqProofs only [↓W_seq, go_sem, ↓reduceIte, Nat.reduceBEq, Nat.reduceAdd, Nat.reduceLeDiff, Nat.reduceEqDiff, reduceCtorEq, Int.reduceToNat, Int.reduceLE, Int.reduceLT, Int.reduceEq, Int.reduceNeg, Nat.reduceLT, Nat.reduceSub, Nat.reduceMul]
  refine kgb_b (fun h0 => ?_) (fun h0 => ?_) <;> simp -implicitDefEqProofs only [↓W_seq, go_sem, ↓reduceIte, Nat.reduceBEq, Nat.reduceAdd, Nat.reduceLeDiff, Nat.reduceEqDiff, reduceCtorEq, Int.reduceToNat, Int.reduceLE, Int.reduceLT, Int.reduceEq, Int.reduceNeg, Nat.reduceLT, Nat.reduceSub, Nat.reduceMul, h0]
  rotate_left
  · exact ⟨_, rfl, _, rfl, fun h => by cases h⟩
  refine WC.pf (f45 ts fs w p ht hw hf) rfl rfl ?_
  rintro _ ⟨_ | _, rfl⟩ <;> simp -implicitDefEqProofs only [↓W_seq, go_sem, ↓reduceIte, Nat.reduceBEq, Nat.reduceAdd, Nat.reduceLeDiff, Nat.reduceEqDiff, reduceCtorEq, Int.reduceToNat, Int.reduceLE, Int.reduceLT, Int.reduceEq, Int.reduceNeg, Nat.reduceLT, Nat.reduceSub, Nat.reduceMul]
  · exact ⟨_, rfl, _, rfl, fun h => by cases h⟩
  refine WC.pf (f22 ds es z q h hz hl) rfl rfl ?_
  rintro _ ⟨_ | _, rfl, hb⟩ <;> simp -implicitDefEqProofs only [↓W_seq, go_sem, ↓reduceIte, Nat.reduceBEq, Nat.reduceAdd, Nat.reduceLeDiff, Nat.reduceEqDiff, reduceCtorEq, Int.reduceToNat, Int.reduceLE, Int.reduceLT, Int.reduceEq, Int.reduceNeg, Nat.reduceLT, Nat.reduceSub, Nat.reduceMul]
  · exact ⟨_, rfl, _, rfl, fun h => by cases h⟩
  refine WC.pf (f46 f47 rfl ts fs w p ht hw hf) rfl rfl ?_
  rintro _ ⟨m, rfl⟩
  simp -implicitDefEqProofs only [↓W_seq, go_sem, ↓reduceIte, Nat.reduceBEq, Nat.reduceAdd, Nat.reduceLeDiff, Nat.reduceEqDiff, reduceCtorEq, Int.reduceToNat, Int.reduceLE, Int.reduceLT, Int.reduceEq, Int.reduceNeg, Nat.reduceLT, Nat.reduceSub, Nat.reduceMul]
  exact ⟨_, rfl, _, rfl, fun _ => hb rfl⟩
end Go.Proofs.Ytnbbhbbhgcipjaa.Am

namespace Go.Proofs.Ytnbbhbbhgcipjaa.Am
theorem WC.sh {cx : Cx} {f : FuncId} {args : List AV} {H : AHeap} {Q : AV → AHeap → Prop} (hs : cx.shared f = true) (h : FN cx f args H fun v H' => ∃ d, v = .im d ∧ Q (.im d) (tomb H.length H')) : WC cx (.fn f args) H Q := by
  obtain ⟨v, H', ⟨k0, h0⟩, d, rfl, hq⟩ := h
  refine ⟨.im d, _, ⟨k0, fun k hk => acallX_of ?_⟩, hq⟩
  unfold acall
  simp only [viaView, hs, if_true]
  rw [h0 k hk]
/-- A call that panics, in the caller's heap. -/
theorem WC.shp {cx : Cx} {f : FuncId} {args : List AV} {H : AHeap} {Q : AV → AHeap → Prop} (hs : cx.shared f = true) (h : FN cx f args H fun v H' => (∃ d, v = .im d ∧ Q (.im d) (tomb H.length H')) ∨ ∃ d, v = panV d ∧ Q (panV d) (tomb H.length H')) : WC cx (.fn f args) H Q := by
  obtain ⟨v, H', ⟨k0, h0⟩, h⟩ := h
  rcases h with ⟨d, rfl, hq⟩ | ⟨d, rfl, hq⟩
  · refine ⟨.im d, _, ⟨k0, fun k hk => acallX_of ?_⟩, hq⟩
    unfold acall
    simp only [viaView, hs, if_true]
    rw [h0 k hk]
  · refine ⟨panV d, _, ⟨k0, fun k hk => ?_⟩, hq⟩
    unfold acallX acall acallP
    simp only [viaView, hs, if_true]
    rw [h0 k hk]
    rfl
/-- A call on data that can be viewed, and panics. -/
def PX (cx : Cx) (f : FuncId) (ds : List Imm) (R E : Imm → Prop) : Prop := FN cx f (ds.map .im) [] fun v G => (∃ d, view false viewDepth G v = some d ∧ R d) ∨ ∃ d, v = panV d ∧ d.clean = true ∧ E d
theorem WC.px {cx : Cx} {f : FuncId} {ds : List Imm} {args : List AV} {H : AHeap} {R E : Imm → Prop} {Q : AV → AHeap → Prop} (h : PX cx f ds R E) (hs : cx.shared f = false) (ho : cx.own f = false) (ha : views H args = some ds) (hR : ∀ d, R d → (args.all AV.isIm || d.flatR || d.clean) = true ∧ Q (.im d) H) (hE : ∀ d, E d → Q (panV d) H) : WC cx (.fn f args) H Q := by
  obtain ⟨v, G, ⟨k0, h0⟩, h⟩ := h
  rcases h with ⟨d, hv, hd⟩ | ⟨d, rfl, hc, hd⟩
  · obtain ⟨h1, h2⟩ := hR d hd
    refine ⟨.im d, H, ⟨k0, fun k hk => acallX_of ?_⟩, h2⟩
    unfold acall
    simp only [viaView, hs, Bool.false_eq_true, if_false, ha]
    rw [h0 k hk]
    simp only [ho]
    unfold pack
    rw [rowOf_f]
    simp [hv, h1]
  · refine ⟨panV d, H, ⟨k0, fun k hk => ?_⟩, hE d hd⟩
    unfold acallX acall acallP
    simp only [viaView, hs, Bool.false_eq_true, if_false, ha]
    rw [h0 k hk]
    simp only [ho]
    have : pack false H.length G (panV d) = none := by
      unfold pack
      rw [rowOf_f]
      simp [panV, view, viewDepth]
    rw [this]
    simp [panV, isPan, hc]
theorem kres_0 {R : AV → AHeap → Prop} {H : AHeap} : kres R H [] = R (.im (.tup [])) H := rfl
attribute [go_sem] kres_0
/-! Loops over functions -/
def RN (cx : Cx) (l : Nat) (args : List AV) (H : AHeap) (Q : AV → AHeap → Prop) : Prop :=
  ∃ v H', (∃ k0, ∀ k, k0 ≤ k → acallF cx k (.round l args) H = some (v, H')) ∧ Q v H'
theorem WC.round {cx : Cx} {l : Nat} {args : List AV} {H : AHeap} {Q : AV → AHeap → Prop} (h : RN cx l args H fun v H' => ∃ d, v = .im d ∧ Q (.im d) (tomb H.length H')) : WC cx (.round l args) H Q := by
  obtain ⟨v, H', ⟨k0, h0⟩, d, rfl, hq⟩ := h
  refine ⟨.im d, _, ⟨k0, fun k hk => acallX_of ?_⟩, hq⟩
  unfold acall
  dsimp only
  rw [h0 k hk]
/-- A round that panics. -/
theorem WC.roundp {cx : Cx} {l : Nat} {args : List AV} {H : AHeap} {Q : AV → AHeap → Prop} (h : RN cx l args H fun v H' => (∃ d, v = .im d ∧ Q (.im d) (tomb H.length H')) ∨ ∃ d, v = panV d ∧ Q (panV d) (tomb H.length H')) : WC cx (.round l args) H Q := by
  obtain ⟨v, H', ⟨k0, h0⟩, h⟩ := h
  rcases h with ⟨d, rfl, hq⟩ | ⟨d, rfl, hq⟩
  · refine ⟨.im d, _, ⟨k0, fun k hk => acallX_of ?_⟩, hq⟩
    unfold acall
    dsimp only
    rw [h0 k hk]
  · refine ⟨panV d, _, ⟨k0, fun k hk => ?_⟩, hq⟩
    unfold acallX acall acallP
    dsimp only
    rw [h0 k hk]
    rfl
/-- How a round ends. -/
def kround (l : Nat) (Q : AV → AHeap → Prop) (e : Ex) (st : St) : Prop := ob (endRoundA l (some (e, st))) fun r => Q r.1 r.2
def ksend (v : AV) (Q : AV → AHeap → Prop) (H : AHeap) : Prop := Q v H
theorem ksend_eq (v : AV) (Q : AV → AHeap → Prop) (H : AHeap) : ksend v Q H = Q v H := rfl
theorem kround_nrm (l : Nat) (Q : AV → AHeap → Prop) (st : St) : kround l Q .nrm st = ob (setEnd st.H l .ready none) (ksend (.im (.b true)) Q) := by
  unfold kround endRoundA ksend; rw [ob_map]
theorem kround_ret (l : Nat) (Q : AV → AHeap → Prop) (st : St) : kround l Q .ret st = ob (setEnd st.H l .done (some .ret)) (ksend (.im (.b false)) Q) := by
  unfold kround endRoundA ksend; rw [ob_map]
theorem kround_pan (l : Nat) (Q : AV → AHeap → Prop) (d : Imm) (fr : Fr) (H : AHeap) : kround l Q (.pan d) ⟨fr, [], H⟩ = Q (panV d) H := by
  unfold kround endRoundA; simp [ob_some]
theorem RN.intro {cx : Cx} {l : Nat} {args : List AV} {H : AHeap} {Q : AV → AHeap → Prop} {p0 : Option Jmp} {fn : FuncId} {fr : Fr} {params : List Tmp} {a b : Code} {d0 : Nat} (hl : H[l]? = some (.loop .ready p0 fn fr params a b d0)) (ha : args.length = params.length)
    (h : W cx fn (some l) a ⟨(params.zip args).reverse ++ fr, [], H⟩ fun e st => e = .nrm ∧ ∃ p' fn' fr' ps' a' b' d', st.H[l]? = some (.loop .ready p' fn' fr' ps' a' b' d') ∧
      W cx fn (some l) b ⟨st.fr, st.ds, st.H.set l (.loop .busy p' fn' fr' ps' a' b' d')⟩ (kround l Q)) : RN cx l args H Q := by
  obtain ⟨e, st1, ⟨k0, h0⟩, rfl, p', fn', fr', ps', a', b', d', hl', h⟩ := W.sound h
  obtain ⟨e2, st2, ⟨k1, h1⟩, ⟨v, H'⟩, hr, hq⟩ := W.sound h
  refine ⟨v, H', ⟨max k0 k1 + 1, fun k hk => ?_⟩, hq⟩
  obtain ⟨k, rfl⟩ : ∃ k', k = k' + 1 := ⟨k - 1, by omega⟩
  unfold acallF
  simp only [hl, ha, if_true]
  rw [h0 k (by omega)]
  dsimp only
  rw [hl']
  dsimp only
  rw [h1 k (by omega)]
  exact hr
def jmpEx : Option Jmp → Ex
  | none => .nrm
  | some .ret => .ret
  | some (.exit i) => .exit i
theorem WR.introP {cx : Cx} {fn : FuncId} {f : Operand} {ps : Array Tmp} {a b : Code} {fr : Fr} {ds : List Dfr} {H : AHeap} {Q : Ex → St → Prop} {g : FuncId} {args : List AV} (hc : callee (ev fr f) [.fn (.yield (H.length + 1)) []] = some (.fn g args))
    (h : FN cx g args (H ++ [.dfr false, .loop .ready none fn fr ps.toList a b H.length]) fun v H' => (isPan v = none ∧ ∃ s p fn' fr' ps' a' b' d', H'[H.length + 1]? = some (.loop s p fn' fr' ps' a' b' d') ∧ s ≠ .busy ∧
      Q (jmpEx p) ⟨fr, .mark H.length :: ds, H'.set (H.length + 1) (.loop .exhausted p fn' fr' ps' a' b' d')⟩) ∨ ∃ d, v = panV d ∧ Q (.pan d) ⟨fr, .mark H.length :: ds, H'⟩) : WR cx fn none f ps a b ⟨fr, ds, H⟩ Q := by
  obtain ⟨v, H', ⟨k0, h0⟩, h⟩ := h
  rcases h with ⟨hp, s, p, fn', fr', ps', a', b', d', hl, hs, hq⟩ | ⟨d, rfl, hq⟩
  · refine ⟨jmpEx p, _, ⟨k0, fun k hk => ?_⟩, hq⟩
    unfold aexec
    simp only [enterLoop, hc]
    rw [h0 k hk]
    simp only [hp, hl, hs, if_false]
    cases p with
    | none => rfl
    | some j => cases j <;> rfl
  · refine ⟨.pan d, _, ⟨k0, fun k hk => ?_⟩, hq⟩
    unfold aexec
    simp only [enterLoop, hc]
    rw [h0 k hk]
    rfl
theorem WR.intro {cx : Cx} {fn : FuncId} {f : Operand} {ps : Array Tmp} {a b : Code} {fr : Fr} {ds : List Dfr} {H : AHeap} {Q : Ex → St → Prop} {g : FuncId} {args : List AV} (hc : callee (ev fr f) [.fn (.yield (H.length + 1)) []] = some (.fn g args))
    (h : FN cx g args (H ++ [.dfr false, .loop .ready none fn fr ps.toList a b H.length]) fun v H' => isPan v = none ∧ ∃ s p fn' fr' ps' a' b' d', H'[H.length + 1]? = some (.loop s p fn' fr' ps' a' b' d') ∧ s ≠ .busy ∧
      Q (jmpEx p) ⟨fr, .mark H.length :: ds, H'.set (H.length + 1) (.loop .exhausted p fn' fr' ps' a' b' d')⟩) : WR cx fn none f ps a b ⟨fr, ds, H⟩ Q := WR.introP hc (h.mono fun _ _ h => .inl h)
/-- The end of a function that has blocks for deferred calls. -/
def kcol (cx : Cx) (rs : List ResultVar) (R : AV → AHeap → Prop) (fr : Fr) (H : AHeap) : Prop := ob (aresult cx.P fr H rs) (kres R H)
theorem kfin_ds (cx : Cx) (rs : List ResultVar) (R : AV → AHeap → Prop) (fr : Fr) (d : Dfr) (ds : List Dfr) (H : AHeap) : kfin cx rs R .ret ⟨fr, d :: ds, H⟩ = ob (acolls (d :: ds) H) (kcol cx rs R fr) := by
  unfold kfin kcol kres; rfl
theorem kfin_all (cx : Cx) (rs : List ResultVar) (R : AV → AHeap → Prop) (fr : Fr) (ds : List Dfr) (H : AHeap) : kfin cx rs R .ret ⟨fr, ds, H⟩ = ob (acolls ds H) (kcol cx rs R fr) := by
  unfold kfin kcol kres; rfl
theorem kcol_eq (cx : Cx) (rs : List ResultVar) (R : AV → AHeap → Prop) (fr : Fr) (H : AHeap) : kcol cx rs R fr H = ob (aresult cx.P fr H rs) (kres R H) := rfl
theorem acolls_run : ∀ (ds : List Nat) (H : AHeap), ds.Nodup → (∀ l ∈ ds, 2 ≤ l ∧ H[l]? = some (.dfr false)) → ∃ H', acolls (ds.map .mark) H = some H' ∧ H'[0]? = H[0]? ∧ H'[1]? = H[1]?
  | [], H, _, _ => ⟨H, rfl, rfl, rfl⟩
  | l :: ds, H, hn, h => by
    obtain ⟨h2, hl⟩ := h l (by simp)
    rw [List.nodup_cons] at hn
    obtain ⟨H', h1, h3, h4⟩ := acolls_run ds (H.set l (.dfr true)) hn.2 fun m hm => by
      refine ⟨(h m (by simp [hm])).1, ?_⟩
      rw [List.getElem?_set_ne (fun e : l = m => hn.1 (by rw [e]; exact hm))]
      exact (h m (by simp [hm])).2
    refine ⟨H', ?_, ?_, ?_⟩
    · rw [List.map_cons]; unfold acolls; rw [hl]; exact h1
    · rw [h3, List.getElem?_set_ne (by omega)]
    · rw [h4, List.getElem?_set_ne (by omega)]
attribute [go_sem ↓] kround_nrm kround_ret kround_pan ksend_eq
end Go.Proofs.Ytnbbhbbhgcipjaa.Am

namespace Go.Proofs.Ytnbbhbbhgcipjaa.Am
attribute [local irreducible] W WO WD WL WR WC WOp W1 WDf kcall kdfr kpn ob eb kval kvh kH kn0 kmp kvc kvc0 kca kpk kgb kgd kcd kcl kbl kres kmt wseq kseq kblock kreg kdn kdE kbd kcr kdm kdb kdg kdo kfin klp kround ksend kcol RN
theorem f133 (vs us : List (Int × Int)) (es fs : List (List Imm)) (z w : Nat) (q p : Bool) (h : All2 EncV vs es) (hz : z = 2 ∨ es = []) (hl : es.length ≤ lim) (h' : All2 EncV us fs) (hz' : w = 2 ∨ fs = []) (hl' : fs.length ≤ lim) : PF cx 133 [.sl z false q es, .sl w false p fs] (EqB (vs = us)) := by
  refine PF.intro (fn := Try.f133) Try.func133 rfl rfl ?_
  simp -implicitDefEqProofs only [↓W_seq, go_sem, ↓reduceIte, Nat.reduceBEq, Nat.reduceAdd, Nat.reduceLeDiff, Nat.reduceEqDiff, reduceCtorEq, Int.reduceToNat, Int.reduceLE, Int.reduceLT, Int.reduceEq, Int.reduceNeg, Nat.reduceLT, Nat.reduceSub, Nat.reduceMul]
  refine kcd_not (fun h2 => ?_) (fun h2 => ?_) <;> simp -implicitDefEqProofs only [↓W_seq, go_sem, ↓reduceIte, Nat.reduceBEq, Nat.reduceAdd, Nat.reduceLeDiff, Nat.reduceEqDiff, reduceCtorEq, Int.reduceToNat, Int.reduceLE, Int.reduceLT, Int.reduceEq, Int.reduceNeg, Nat.reduceLT, Nat.reduceSub, Nat.reduceMul, h2]
  rotate_left
  · refine ⟨_, rfl, .f fun e => ?_⟩
    subst e
    exact of_decide_eq_false h2 (by rw [← h.length, ← h'.length])
  have hlen : es.length = fs.length := by have := of_decide_eq_true h2; omega
  refine WL.upto es.length (fun j st => (∀ i, i < j → vs[i]? = us[i]?) ∧ st = ⟨[(0, .im (.sl z false q es)), (1, .im (.sl w false p fs)), (12, .im (.i .i64 es.length)), (13, .im (.i .i64 j))], [], []⟩) ?_ ⟨by omega, rfl⟩
  rintro j st hj ⟨hI, rfl⟩
  simp -implicitDefEqProofs only [↓W_seq, go_sem, ↓reduceIte, Nat.reduceBEq, Nat.reduceAdd, Nat.reduceLeDiff, Nat.reduceEqDiff, reduceCtorEq, Int.reduceToNat, Int.reduceLE, Int.reduceLT, Int.reduceEq, Int.reduceNeg, Nat.reduceLT, Nat.reduceSub, Nat.reduceMul]
  refine kcd_dec (fun h1 => ?_) (fun h1 => ?_)
  · have hj1 : j < es.length := by omega
    have hj2 : j < fs.length := by omega
    obtain ⟨rfl, a, r, ha, hr, hE, _, _⟩ := h.at hz hj1
    obtain ⟨rfl, a', r', ha', hr', hE', _, _⟩ := h'.at hz' hj2
    subst hE hE'
    simp -implicitDefEqProofs only [↓W_seq, go_sem, ↓reduceIte, Nat.reduceBEq, Nat.reduceAdd, Nat.reduceLeDiff, Nat.reduceEqDiff, reduceCtorEq, Int.reduceToNat, Int.reduceLE, Int.reduceLT, Int.reduceEq, Int.reduceNeg, Nat.reduceLT, Nat.reduceSub, Nat.reduceMul, hj1, hr, hj2, hr']
    refine kcd_not (fun h3 => ?_) (fun h3 => ?_) <;> simp -implicitDefEqProofs only [↓W_seq, go_sem, ↓reduceIte, Nat.reduceBEq, Nat.reduceAdd, Nat.reduceLeDiff, Nat.reduceEqDiff, reduceCtorEq, Int.reduceToNat, Int.reduceLE, Int.reduceLT, Int.reduceEq, Int.reduceNeg, Nat.reduceLT, Nat.reduceSub, Nat.reduceMul, h3, wrap_succ hj1 hl]
    · refine fun i hi => ?_
      rcases Nat.lt_succ_iff_lt_or_eq.1 hi with hi | rfl
      · exact hI i hi
      · have := of_decide_eq_true h3
        rw [ha, ha', Prod.ext this.1 this.2]
    · refine ⟨_, rfl, .f fun e => ?_⟩
      subst e
      rw [ha] at ha'
      cases ha'
      exact of_decide_eq_false h3 ⟨rfl, rfl⟩
  · simp -implicitDefEqProofs only [↓W_seq, go_sem, ↓reduceIte, Nat.reduceBEq, Nat.reduceAdd, Nat.reduceLeDiff, Nat.reduceEqDiff, reduceCtorEq, Int.reduceToNat, Int.reduceLE, Int.reduceLT, Int.reduceEq, Int.reduceNeg, Nat.reduceLT, Nat.reduceSub, Nat.reduceMul]
    refine ⟨_, rfl, .t ?_⟩
    exact ext_get (by rw [h.length, h'.length, hlen]) (by rw [h.length]; intro i hi; exact hI i (by omega))
theorem f96 (l m : Level) (r s : List Imm) (h : l.Enc r) (h' : m.Enc s) : PF cx 96 [.agg r, .agg s] (EqB (l = m)) := by
  refine PF.intro (fn := Try.f96) Try.func96 rfl rfl ?_
  obtain ⟨z, t, es, rfl, hc, hz, hl, hv⟩ := h
  obtain ⟨z', t', es', rfl, hc', hz', hl', hv'⟩ := h'
  simp -implicitDefEqProofs only [↓W_seq, go_sem, ↓reduceIte, Nat.reduceBEq, Nat.reduceAdd, Nat.reduceLeDiff, Nat.reduceEqDiff, reduceCtorEq, Int.reduceToNat, Int.reduceLE, Int.reduceLT, Int.reduceEq, Int.reduceNeg, Nat.reduceLT, Nat.reduceSub, Nat.reduceMul]
  refine kgb_b (fun e1 => ?_) (fun e1 => ?_) <;> simp -implicitDefEqProofs only [↓W_seq, go_sem, ↓reduceIte, Nat.reduceBEq, Nat.reduceAdd, Nat.reduceLeDiff, Nat.reduceEqDiff, reduceCtorEq, Int.reduceToNat, Int.reduceLE, Int.reduceLT, Int.reduceEq, Int.reduceNeg, Nat.reduceLT, Nat.reduceSub, Nat.reduceMul, e1]
  · refine WC.pf (f133 _ _ _ _ _ _ _ _ hv hz hl hv' hz' hl') rfl rfl ?_
    rintro _ ⟨b, rfl, hb⟩
    simp -implicitDefEqProofs only [↓W_seq, go_sem, ↓reduceIte, Nat.reduceBEq, Nat.reduceAdd, Nat.reduceLeDiff, Nat.reduceEqDiff, reduceCtorEq, Int.reduceToNat, Int.reduceLE, Int.reduceLT, Int.reduceEq, Int.reduceNeg, Nat.reduceLT, Nat.reduceSub, Nat.reduceMul]
    refine ⟨_, rfl, b, rfl, hb.trans ⟨fun e => ?_, fun e => by rw [e]⟩⟩
    have := of_decide_eq_true e1
    cases l; cases m; simp_all
  · exact ⟨_, rfl, .f fun e => of_decide_eq_false e1 (by rw [e])⟩
theorem f95 {g : FuncId} (hg : ∀ (l m : Level) (r s : List Imm), l.Enc r → m.Enc s → PF cx g [.agg r, .agg s] (EqB (l = m))) (hs : cx.shared g = false) (ls ms : List Level) (es fs : List (List Imm)) (z w : Nat) (q p : Bool) (h : All2 Level.Enc ls es) (hz : z = 2 ∨ es = []) (hl : es.length ≤ lim) (h' : All2 Level.Enc ms fs) (hz' : w = 2 ∨ fs = []) (hl' : fs.length ≤ lim) :
    PF cx 95 [.sl z false q es, .sl w false p fs, .fn g []] (EqB (ls = ms)) := by
  refine PF.intro (fn := Try.f95) Try.func95 rfl rfl ?_
  simp -implicitDefEqProofs only [↓W_seq, go_sem, ↓reduceIte, Nat.reduceBEq, Nat.reduceAdd, Nat.reduceLeDiff, Nat.reduceEqDiff, reduceCtorEq, Int.reduceToNat, Int.reduceLE, Int.reduceLT, Int.reduceEq, Int.reduceNeg, Nat.reduceLT, Nat.reduceSub, Nat.reduceMul]
  refine kcd_not (fun h2 => ?_) (fun h2 => ?_) <;> simp -implicitDefEqProofs only [↓W_seq, go_sem, ↓reduceIte, Nat.reduceBEq, Nat.reduceAdd, Nat.reduceLeDiff, Nat.reduceEqDiff, reduceCtorEq, Int.reduceToNat, Int.reduceLE, Int.reduceLT, Int.reduceEq, Int.reduceNeg, Nat.reduceLT, Nat.reduceSub, Nat.reduceMul, h2]
  rotate_left
  · refine ⟨_, rfl, .f fun e => ?_⟩
    subst e
    exact of_decide_eq_false h2 (by rw [← h.length, ← h'.length])
  have hlen : es.length = fs.length := by have := of_decide_eq_true h2; omega
  refine WL.upto es.length (fun j st => (∀ i, i < j → ls[i]? = ms[i]?) ∧ ∃ H, st = ⟨[(1, .im (.sl w false p fs)), (2, .im (.fn g [])), (15, .im (.sl z false q es)), (16, .im (.i .i64 es.length)), (17, .im (.i .i64 j))], [], H⟩) ?_ ⟨by omega, _, rfl⟩
  rintro j st hj ⟨hI, H, rfl⟩
  simp -implicitDefEqProofs only [↓W_seq, go_sem, ↓reduceIte, Nat.reduceBEq, Nat.reduceAdd, Nat.reduceLeDiff, Nat.reduceEqDiff, reduceCtorEq, Int.reduceToNat, Int.reduceLE, Int.reduceLT, Int.reduceEq, Int.reduceNeg, Nat.reduceLT, Nat.reduceSub, Nat.reduceMul]
  refine kcd_dec (fun h1 => ?_) (fun h1 => ?_)
  · have hj1 : j < es.length := by omega
    have hj2 : j < fs.length := by omega
    obtain ⟨rfl, a, r, ha, hr, hE⟩ := h.at hz hj1
    obtain ⟨rfl, a', r', ha', hr', hE'⟩ := h'.at hz' hj2
    have hE0 := hE
    have hE0' := hE'
    obtain ⟨z1, t1, es1, rfl, _⟩ := hE
    obtain ⟨z2, t2, es2, rfl, _⟩ := hE'
    simp -implicitDefEqProofs only [↓W_seq, go_sem, ↓reduceIte, Nat.reduceBEq, Nat.reduceAdd, Nat.reduceLeDiff, Nat.reduceEqDiff, reduceCtorEq, Int.reduceToNat, Int.reduceLE, Int.reduceLT, Int.reduceEq, Int.reduceNeg, Nat.reduceLT, Nat.reduceSub, Nat.reduceMul, hj1, hr, hj2, hr']
    refine WC.pf (hg a a' _ _ hE0 hE0') rfl hs ?_
    rintro _ ⟨b, rfl, hb⟩
    simp -implicitDefEqProofs only [↓W_seq, go_sem, ↓reduceIte, Nat.reduceBEq, Nat.reduceAdd, Nat.reduceLeDiff, Nat.reduceEqDiff, reduceCtorEq, Int.reduceToNat, Int.reduceLE, Int.reduceLT, Int.reduceEq, Int.reduceNeg, Nat.reduceLT, Nat.reduceSub, Nat.reduceMul]
    refine kcd_not (fun h3 => ?_) (fun h3 => ?_) <;> simp -implicitDefEqProofs only [↓W_seq, go_sem, ↓reduceIte, Nat.reduceBEq, Nat.reduceAdd, Nat.reduceLeDiff, Nat.reduceEqDiff, reduceCtorEq, Int.reduceToNat, Int.reduceLE, Int.reduceLT, Int.reduceEq, Int.reduceNeg, Nat.reduceLT, Nat.reduceSub, Nat.reduceMul, h3, wrap_succ hj1 hl]
    · refine ⟨fun i hi => ?_, _, rfl⟩
      rcases Nat.lt_succ_iff_lt_or_eq.1 hi with hi | rfl
      · exact hI i hi
      · rw [ha, ha', hb.1 h3]
    · refine ⟨_, rfl, .f fun e => ?_⟩
      subst e
      rw [ha] at ha'
      cases ha'
      rw [h3] at hb
      exact absurd (hb.2 rfl) (by simp)
  · simp -implicitDefEqProofs only [↓W_seq, go_sem, ↓reduceIte, Nat.reduceBEq, Nat.reduceAdd, Nat.reduceLeDiff, Nat.reduceEqDiff, reduceCtorEq, Int.reduceToNat, Int.reduceLE, Int.reduceLT, Int.reduceEq, Int.reduceNeg, Nat.reduceLT, Nat.reduceSub, Nat.reduceMul]
    refine ⟨_, rfl, .t ?_⟩
    exact ext_get (by rw [h.length, h'.length, hlen]) (by rw [h.length]; intro i hi; exact hI i (by omega))
theorem f97 {g : FuncId} (ls ms : List Term) (hg : ∀ l ∈ ls, ∀ (m : Term) (r s : List Imm), l.Enc r → m.Enc s → PF cx g [.agg r, .agg s] (EqB (l = m))) (hs : cx.shared g = false) (es fs : List (List Imm)) (z w : Nat) (q p : Bool) (h : All2 Term.Enc ls es) (hz : z = 5 ∨ es = []) (hl : es.length ≤ lim) (h' : All2 Term.Enc ms fs) (hz' : w = 5 ∨ fs = []) (hl' : fs.length ≤ lim) :
    PF cx 97 [.sl z false q es, .sl w false p fs, .fn g []] (EqB (ls = ms)) := by
  refine PF.intro (fn := Try.f97) Try.func97 rfl rfl ?_
  simp -implicitDefEqProofs only [↓W_seq, go_sem, ↓reduceIte, Nat.reduceBEq, Nat.reduceAdd, Nat.reduceLeDiff, Nat.reduceEqDiff, reduceCtorEq, Int.reduceToNat, Int.reduceLE, Int.reduceLT, Int.reduceEq, Int.reduceNeg, Nat.reduceLT, Nat.reduceSub, Nat.reduceMul]
  refine kcd_not (fun h2 => ?_) (fun h2 => ?_) <;> simp -implicitDefEqProofs only [↓W_seq, go_sem, ↓reduceIte, Nat.reduceBEq, Nat.reduceAdd, Nat.reduceLeDiff, Nat.reduceEqDiff, reduceCtorEq, Int.reduceToNat, Int.reduceLE, Int.reduceLT, Int.reduceEq, Int.reduceNeg, Nat.reduceLT, Nat.reduceSub, Nat.reduceMul, h2]
  rotate_left
  · refine ⟨_, rfl, .f fun e => ?_⟩
    subst e
    exact of_decide_eq_false h2 (by rw [← h.length, ← h'.length])
  have hlen : es.length = fs.length := by have := of_decide_eq_true h2; omega
  refine WL.upto es.length (fun j st => (∀ i, i < j → ls[i]? = ms[i]?) ∧ ∃ H, st = ⟨[(1, .im (.sl w false p fs)), (2, .im (.fn g [])), (15, .im (.sl z false q es)), (16, .im (.i .i64 es.length)), (17, .im (.i .i64 j))], [], H⟩) ?_ ⟨by omega, _, rfl⟩
  rintro j st hj ⟨hI, H, rfl⟩
  simp -implicitDefEqProofs only [↓W_seq, go_sem, ↓reduceIte, Nat.reduceBEq, Nat.reduceAdd, Nat.reduceLeDiff, Nat.reduceEqDiff, reduceCtorEq, Int.reduceToNat, Int.reduceLE, Int.reduceLT, Int.reduceEq, Int.reduceNeg, Nat.reduceLT, Nat.reduceSub, Nat.reduceMul]
  refine kcd_dec (fun h1 => ?_) (fun h1 => ?_)
  · have hj1 : j < es.length := by omega
    have hj2 : j < fs.length := by omega
    obtain ⟨rfl, a, r, ha, hr, hE⟩ := h.at hz hj1
    obtain ⟨rfl, a', r', ha', hr', hE'⟩ := h'.at hz' hj2
    have hE0 := hE
    have hE0' := hE'
    obtain ⟨k, i, n, ls, ks, lz, lt, les, kz, kt, kes, rfl, rfl, hk, hi, hn, hlz, hll, hl, hkz, hkl, hks⟩ := hE.inv
    obtain ⟨k2, i2, n2, ls2, ks2, lz2, lt2, les2, kz2, kt2, kes2, rfl, rfl, hk2, hi2, hn2, hlz2, hll2, hl2, hkz2, hkl2, hks2⟩ := hE'.inv
    simp -implicitDefEqProofs only [↓W_seq, go_sem, ↓reduceIte, Nat.reduceBEq, Nat.reduceAdd, Nat.reduceLeDiff, Nat.reduceEqDiff, reduceCtorEq, Int.reduceToNat, Int.reduceLE, Int.reduceLT, Int.reduceEq, Int.reduceNeg, Nat.reduceLT, Nat.reduceSub, Nat.reduceMul, hj1, hr, hj2, hr']
    refine WC.pf (hg _ (List.mem_of_getElem? ha) _ _ _ hE0 hE0') rfl hs ?_
    rintro _ ⟨b, rfl, hb⟩
    simp -implicitDefEqProofs only [↓W_seq, go_sem, ↓reduceIte, Nat.reduceBEq, Nat.reduceAdd, Nat.reduceLeDiff, Nat.reduceEqDiff, reduceCtorEq, Int.reduceToNat, Int.reduceLE, Int.reduceLT, Int.reduceEq, Int.reduceNeg, Nat.reduceLT, Nat.reduceSub, Nat.reduceMul]
    refine kcd_not (fun h3 => ?_) (fun h3 => ?_) <;> simp -implicitDefEqProofs only [↓W_seq, go_sem, ↓reduceIte, Nat.reduceBEq, Nat.reduceAdd, Nat.reduceLeDiff, Nat.reduceEqDiff, reduceCtorEq, Int.reduceToNat, Int.reduceLE, Int.reduceLT, Int.reduceEq, Int.reduceNeg, Nat.reduceLT, Nat.reduceSub, Nat.reduceMul, h3, wrap_succ hj1 ‹es.length ≤ lim›]
    · refine ⟨fun i hi => ?_, _, rfl⟩
      rcases Nat.lt_succ_iff_lt_or_eq.1 hi with hi | rfl
      · exact hI i hi
      · rw [ha, ha', hb.1 h3]
    · refine ⟨_, rfl, .f fun e => ?_⟩
      subst e
      rw [ha] at ha'
      cases ha'
      rw [h3] at hb
      exact absurd (hb.2 rfl) (by simp)
  · simp -implicitDefEqProofs only [↓W_seq, go_sem, ↓reduceIte, Nat.reduceBEq, Nat.reduceAdd, Nat.reduceLeDiff, Nat.reduceEqDiff, reduceCtorEq, Int.reduceToNat, Int.reduceLE, Int.reduceLT, Int.reduceEq, Int.reduceNeg, Nat.reduceLT, Nat.reduceSub, Nat.reduceMul]
    refine ⟨_, rfl, .t ?_⟩
    exact ext_get (by rw [h.length, h'.length, hlen]) (by rw [h.length]; intro i hi; exact hI i (by omega))
theorem f54 : ∀ (N : Nat) (t u : Term) (r s : List Imm), t.nodes ≤ N → t.Enc r → u.Enc s → PF cx 54 [.agg r, .agg s] (EqB (t = u)) := by
  intro N
  induction N with
  | zero => intro t u r s hN; have := t.nodes_pos; omega
  | succ N ih =>
    intro t u r s hN h g
    refine PF.intro (fn := Try.f54) Try.func54 rfl rfl ?_
    obtain ⟨k, i, n, ls, ks, lz, lt, les, kz, kt, kes, rfl, rfl, hk, hi, hn, hlz, hll, hl, hkz, hkl, hks⟩ := h.inv
    obtain ⟨k2, i2, n2, ls2, ks2, lz2, lt2, les2, kz2, kt2, kes2, rfl, rfl, hk2, hi2, hn2, hlz2, hll2, hl2, hkz2, hkl2, hks2⟩ := g.inv
    simp -implicitDefEqProofs only [↓W_seq, go_sem, ↓reduceIte, Nat.reduceBEq, Nat.reduceAdd, Nat.reduceLeDiff, Nat.reduceEqDiff, reduceCtorEq, Int.reduceToNat, Int.reduceLE, Int.reduceLT, Int.reduceEq, Int.reduceNeg, Nat.reduceLT, Nat.reduceSub, Nat.reduceMul]
    refine kgb_b (fun e1 => ?_) (fun e1 => ?_) <;> simp -implicitDefEqProofs only [↓W_seq, go_sem, ↓reduceIte, Nat.reduceBEq, Nat.reduceAdd, Nat.reduceLeDiff, Nat.reduceEqDiff, reduceCtorEq, Int.reduceToNat, Int.reduceLE, Int.reduceLT, Int.reduceEq, Int.reduceNeg, Nat.reduceLT, Nat.reduceSub, Nat.reduceMul, e1]
    rotate_left
    · exact ⟨_, rfl, .f fun e => of_decide_eq_false e1 (by injection e)⟩
    refine kgb_b (fun e2 => ?_) (fun e2 => ?_) <;> simp -implicitDefEqProofs only [↓W_seq, go_sem, ↓reduceIte, Nat.reduceBEq, Nat.reduceAdd, Nat.reduceLeDiff, Nat.reduceEqDiff, reduceCtorEq, Int.reduceToNat, Int.reduceLE, Int.reduceLT, Int.reduceEq, Int.reduceNeg, Nat.reduceLT, Nat.reduceSub, Nat.reduceMul, e2]
    rotate_left
    · exact ⟨_, rfl, .f fun e => of_decide_eq_false e2 (by injection e)⟩
    refine kgb_b (fun e3 => ?_) (fun e3 => ?_) <;> simp -implicitDefEqProofs only [↓W_seq, go_sem, ↓reduceIte, Nat.reduceBEq, Nat.reduceAdd, Nat.reduceLeDiff, Nat.reduceEqDiff, reduceCtorEq, Int.reduceToNat, Int.reduceLE, Int.reduceLT, Int.reduceEq, Int.reduceNeg, Nat.reduceLT, Nat.reduceSub, Nat.reduceMul, e3]
    rotate_left
    · exact ⟨_, rfl, .f fun e => of_decide_eq_false e3 (by injection e)⟩
    refine WC.pf (f95 f96 rfl _ _ _ _ _ _ _ _ hl hlz hll hl2 hlz2 hll2) rfl rfl ?_
    rintro _ ⟨b, rfl, hb⟩
    simp -implicitDefEqProofs only [↓W_seq, go_sem, ↓reduceIte, Nat.reduceBEq, Nat.reduceAdd, Nat.reduceLeDiff, Nat.reduceEqDiff, reduceCtorEq, Int.reduceToNat, Int.reduceLE, Int.reduceLT, Int.reduceEq, Int.reduceNeg, Nat.reduceLT, Nat.reduceSub, Nat.reduceMul]
    refine kgb_b (fun e4 => ?_) (fun e4 => ?_) <;> simp -implicitDefEqProofs only [↓W_seq, go_sem, ↓reduceIte, Nat.reduceBEq, Nat.reduceAdd, Nat.reduceLeDiff, Nat.reduceEqDiff, reduceCtorEq, Int.reduceToNat, Int.reduceLE, Int.reduceLT, Int.reduceEq, Int.reduceNeg, Nat.reduceLT, Nat.reduceSub, Nat.reduceMul, e4]
    rotate_left
    · rw [e4] at hb; exact ⟨_, rfl, .f fun e => absurd (hb.2 (by injection e)) (by simp)⟩
    refine WC.pf (f97 ks ks2 (fun a ha m r s hr hs => ih a m r s (by obtain ⟨j, hj⟩ := List.getElem?_of_mem ha; have := Term.nodes_kid (k := k) (i := i) (n := n) (ls := ls) hj; omega) hr hs) rfl _ _ _ _ _ _ hks hkz hkl hks2 hkz2 hkl2) rfl rfl ?_
    rintro _ ⟨c, rfl, hc⟩
    simp -implicitDefEqProofs only [↓W_seq, go_sem, ↓reduceIte, Nat.reduceBEq, Nat.reduceAdd, Nat.reduceLeDiff, Nat.reduceEqDiff, reduceCtorEq, Int.reduceToNat, Int.reduceLE, Int.reduceLT, Int.reduceEq, Int.reduceNeg, Nat.reduceLT, Nat.reduceSub, Nat.reduceMul]
    refine ⟨_, rfl, c, rfl, hc.trans ⟨fun e => ?_, fun e => by injection e⟩⟩
    rw [e, hb.1 e4, of_decide_eq_true e1, of_decide_eq_true e2, of_decide_eq_true e3]
theorem f98 (t : Term) (r : List Imm) (h : t.Enc r) (hn : t.nodes ≤ lim) : PV cx 98 [.agg r] fun y => ∃ a s, y = .tup [a, .agg s] ∧ TermL a t.all.1 ∧ t.all.2.Enc s := by
  refine PV.intro (fn := Try.f98) Try.func98 rfl rfl ?_
  have h0 := h
  obtain ⟨k, i, n, ls, ks, lz, lt, les, kz, kt, kes, rfl, rfl, hk, hi, hn, hlz, hll, hl, hkz, hkl, hks⟩ := h.inv
  simp -implicitDefEqProofs only [↓W_seq, go_sem, ↓reduceIte, Nat.reduceBEq, Nat.reduceAdd, Nat.reduceLeDiff, Nat.reduceEqDiff, reduceCtorEq, Int.reduceToNat, Int.reduceLE, Int.reduceLT, Int.reduceEq, Int.reduceNeg, Nat.reduceLT, Nat.reduceSub, Nat.reduceMul]
  have hlim : lim = 1073741824 := rfl
  have hlen := Term.all_len (Term.mk k i n ls ks)
  refine WL.fall (fun m st => ∃ (u : Term) (r : List Imm) (pre : List Term) (es : List (List Imm)), u.Enc r ∧ m = u.nodes ∧ pre ++ u.all.1 = (Term.mk k i n ls ks).all.1 ∧ u.all.2 = (Term.mk k i n ls ks).all.2 ∧ All2 Term.Enc pre es ∧
    st = ⟨[(1, .ptr 0 1 0 0), (3, .ptr 1 1 0 0), (4, .sl 2 es.length 0 es.length)], [], [.row [r.map .im] 5 26, .row [[.im (.i .i64 0), .im (.i .i64 0), .im (.s ByteArray.empty), .im (.sl 1 false true []), .im (.sl 1 false true [])]] 5 26, .row (es.map (·.map .im)) 5 26]⟩) ?_ ⟨_, _, [], [], h0, rfl, rfl, rfl, trivial, rfl⟩
  rintro m st ⟨u, r, pre, es, hu, rfl, hp1, hp2, hpe, rfl⟩
  have hu0 := hu
  have hel : es.length < 1073741824 := by
    have h1 := congrArg List.length hp1
    rw [List.length_append, hpe.length] at h1
    omega
  obtain ⟨k2, i2, n2, ls2, ks2, lz2, lt2, les2, kz2, kt2, kes2, rfl, rfl, hk2, hi2, hn2, hlz2, hll2, hl2, hkz2, hkl2, hks2⟩ := hu.inv
  simp -implicitDefEqProofs only [↓W_seq, go_sem, ↓reduceIte, Nat.reduceBEq, Nat.reduceAdd, Nat.reduceLeDiff, Nat.reduceEqDiff, reduceCtorEq, Int.reduceToNat, Int.reduceLE, Int.reduceLT, Int.reduceEq, Int.reduceNeg, Nat.reduceLT, Nat.reduceSub, Nat.reduceMul]
  have hend : ∀ {q : Prop}, (Term.mk k2 i2 n2 ls2 ks2).all = ([], .mk k2 i2 n2 ls2 ks2) → ∃ d, view false viewDepth [.row [[.im (.i .i64 k2), .im (.i .i64 i2), .im (.s n2), .im (.sl lz2 false lt2 les2), .im (.sl kz2 false kt2 kes2)]] 5 26, .row [[.im (.i .i64 k2), .im (.i .i64 i2), .im (.s n2), .im (.sl lz2 false lt2 les2), .im (.sl kz2 false kt2 kes2)]] 5 26, .row (es.map (·.map .im)) 5 26] (.tup [.sl 2 es.length 0 es.length, .im (.agg [.i .i64 k2, .i .i64 i2, .s n2, .sl lz2 false lt2 les2, .sl kz2 false kt2 kes2])]) = some d ∧ ∃ a s, d = .tup [a, .agg s] ∧ TermL a (Term.mk k i n ls ks).all.1 ∧ (Term.mk k i n ls ks).all.2.Enc s := by
    intro q he
    rw [he] at hp1 hp2
    simp only [List.append_nil] at hp1
    refine ⟨_, view_tup2 (view_row (es := es) rfl rfl) (view_im _ _ _ _), _, _, rfl, ⟨es, 5, false, rfl, by rw [← hp1]; exact hpe, .inl rfl, by omega⟩, by rw [← hp2]; exact hu0⟩
  refine kgb_b (fun e1 => ?_) (fun e1 => ?_) <;> simp -implicitDefEqProofs only [↓W_seq, go_sem, ↓reduceIte, Nat.reduceBEq, Nat.reduceAdd, Nat.reduceLeDiff, Nat.reduceEqDiff, reduceCtorEq, Int.reduceToNat, Int.reduceLE, Int.reduceLT, Int.reduceEq, Int.reduceNeg, Nat.reduceLT, Nat.reduceSub, Nat.reduceMul, e1]
  · refine kcd_b (fun e2 => ?_) (fun e2 => ?_) <;> simp -implicitDefEqProofs only [↓W_seq, go_sem, ↓reduceIte, Nat.reduceBEq, Nat.reduceAdd, Nat.reduceLeDiff, Nat.reduceEqDiff, reduceCtorEq, Int.reduceToNat, Int.reduceLE, Int.reduceLT, Int.reduceEq, Int.reduceNeg, Nat.reduceLT, Nat.reduceSub, Nat.reduceMul, e2]
    · have h6 : k2 = 6 := of_decide_eq_true e1
      have h2 : kes2.length = 2 := by have := of_decide_eq_true e2; omega
      obtain ⟨a, b, r, s, rfl, rfl, ha, hb⟩ := hks2.two h2
      have hz : kz2 = 5 := by rcases hkz2 with h | h <;> simp_all
      subst hz h6
      rw [Term.all_pi] at hp1 hp2
      have hb5 := hb.length
      have ha5 := ha.length
      have hcap : es.length + 1 ≤ 4294967296 := by omega
      simp -implicitDefEqProofs only [↓W_seq, go_sem, ↓reduceIte, Nat.reduceBEq, Nat.reduceAdd, Nat.reduceLeDiff, Nat.reduceEqDiff, reduceCtorEq, Int.reduceToNat, Int.reduceLE, Int.reduceLT, Int.reduceEq, Int.reduceNeg, Nat.reduceLT, Nat.reduceSub, Nat.reduceMul, sub_all hb5, hb5, sub_all ha5, ha5, hcap]
      refine ⟨b.nodes, ?_, b, s, pre ++ [a], es ++ [r], hb, rfl, by simpa using hp1, hp2, hpe.snoc ha, by simp⟩
      rw [Term.nodes_mk]; simp only [Term.nodesL]; omega
    · have h2 : ¬ks2.length = 2 := by have := of_decide_eq_false e2; rw [hks2.length]; omega
      exact hend (q := True) (Term.all_n h2)
  · exact hend (q := True) (Term.all_k (of_decide_eq_false e1))
theorem f99 (A B : AObj) (es : List (List Imm)) (h5 : ∀ r ∈ es, r.length = 5) (hl : es.length ≤ lim) : FN cx 99 [.sl 2 es.length 0 es.length] [A, B, .row (es.map (·.map .im)) 5 26] fun v H => v = .im (.tup []) ∧ H = [A, B, .row (es.reverse.map (·.map .im)) 5 26] := by
  refine FN.intro (fn := Try.f99) Try.func99 rfl rfl ?_
  have hlim : lim = 1073741824 := rfl
  simp -implicitDefEqProofs only [↓W_seq, go_sem, ↓reduceIte, Nat.reduceBEq, Nat.reduceAdd, Nat.reduceLeDiff, Nat.reduceEqDiff, reduceCtorEq, Int.reduceToNat, Int.reduceLE, Int.reduceLT, Int.reduceEq, Int.reduceNeg, Nat.reduceLT, Nat.reduceSub, Nat.reduceMul, List.length_map]
  refine WL.fall (fun m st => ∃ (i : Nat) (x : Int) (R : List (List Imm)), m = es.length - i ∧ x = es.length - 1 - i ∧ R.length = es.length ∧ (∀ k, k < es.length → R[k]? = if k < i ∨ es.length ≤ k + i then es[es.length - 1 - k]? else es[k]?) ∧
    st = ⟨[(0, .sl 2 es.length 0 es.length), (2, .im (.i .i64 i)), (3, .im (.i .i64 x))], [], [A, B, .row (R.map (·.map .im)) 5 26]⟩) ?_ (n := es.length - 0) ⟨0, _, es, rfl, by rw [wrap_id] <;> omega, rfl, fun k hk => by rw [if_neg (by omega)], rfl⟩
  rintro m st ⟨i, x, R, rfl, hx, hR, hI, rfl⟩
  simp -implicitDefEqProofs only [↓W_seq, go_sem, ↓reduceIte, Nat.reduceBEq, Nat.reduceAdd, Nat.reduceLeDiff, Nat.reduceEqDiff, reduceCtorEq, Int.reduceToNat, Int.reduceLE, Int.reduceLT, Int.reduceEq, Int.reduceNeg, Nat.reduceLT, Nat.reduceSub, Nat.reduceMul, List.length_map, hR]
  refine kcd_dec (fun h1 => ?_) (fun h1 => ?_)
  · obtain ⟨j, rfl⟩ : ∃ j : Nat, x = j := ⟨x.toNat, by omega⟩
    have hij : i < j := by omega
    have hjn : j < es.length := by omega
    have hin : i < es.length := by omega
    obtain ⟨ri, hri⟩ : ∃ r, es[i]? = some r := ⟨_, List.getElem?_eq_getElem hin⟩
    obtain ⟨rj, hrj⟩ : ∃ r, es[j]? = some r := ⟨_, List.getElem?_eq_getElem hjn⟩
    have hi5 := h5 ri (List.mem_of_getElem? hri)
    have hj5 := h5 rj (List.mem_of_getElem? hrj)
    have hRi : R[i]? = some ri := by rw [hI i hin, if_neg (by omega), hri]
    have hRj : R[j]? = some rj := by rw [hI j hjn, if_neg (by omega), hrj]
    have hmi : (List.map (fun x : List Imm => List.map AV.im x) R)[i]? = some (ri.map .im) := by rw [List.getElem?_map, hRi]; rfl
    have hmj : (List.map (fun x : List Imm => List.map AV.im x) R)[j]? = some (rj.map .im) := by rw [List.getElem?_map, hRj]; rfl
    have hsi : ∀ x, ((List.map (fun x : List Imm => List.map AV.im x) R).set i x)[j]? = some (rj.map .im) := fun x => by rw [List.getElem?_set_ne (by omega), hmj]
    have hdi : List.drop 5 (List.map AV.im ri) = [] := List.drop_eq_nil_of_le (by simp [hi5])
    have hdj : List.drop 5 (List.map AV.im rj) = [] := List.drop_eq_nil_of_le (by simp [hj5])
    have hs5i : sub (List.map AV.im ri) 0 5 = some (ri.map .im) := sub_all (by simp [hi5])
    have hs5j : sub (List.map AV.im rj) 0 5 = some (rj.map .im) := sub_all (by simp [hj5])
    have hw1 : IntKind.i64.wrap ((i : Int) + 1) = ((i + 1 : Nat) : Int) := by rw [wrap_id] <;> omega
    have hw2 : IntKind.i64.wrap ((j : Int) - 1) = (j : Int) - 1 := by rw [wrap_id] <;> omega
    simp -implicitDefEqProofs only [↓W_seq, go_sem, ↓reduceIte, Nat.reduceBEq, Nat.reduceAdd, Nat.reduceLeDiff, Nat.reduceEqDiff, reduceCtorEq, Int.reduceToNat, Int.reduceLE, Int.reduceLT, Int.reduceEq, Int.reduceNeg, Nat.reduceLT, Nat.reduceSub, Nat.reduceMul, List.length_map, List.length_set, hR, hmi, hmj, hsi, hdi, hdj, hs5i, hs5j, hi5, hj5, hin, hjn, hw1, hw2]
    refine ⟨es.length - (i + 1), by omega, i + 1, (j : Int) - 1, (R.set i rj).set j ri, rfl, by omega, by simp [hR], fun k hk => ?_, by simp [List.map_set]⟩
    rw [List.getElem?_set, List.getElem?_set, List.length_set, hR]
    by_cases hkj : j = k
    · subst hkj
      rw [if_pos rfl, if_pos hjn, if_pos (.inr (by omega)), ← hri]
      congr 1; omega
    · rw [if_neg hkj]
      by_cases hki : i = k
      · subst hki
        rw [if_pos rfl, if_pos hin, if_pos (.inl (by omega)), ← hrj]
        congr 1; omega
      · rw [if_neg hki, hI k hk]
        by_cases hc : k < i ∨ es.length ≤ k + i
        · rw [if_pos hc, if_pos (by omega)]
        · rw [if_neg hc, if_neg (by omega)]
  · simp -implicitDefEqProofs only [↓W_seq, go_sem, ↓reduceIte, Nat.reduceBEq, Nat.reduceAdd, Nat.reduceLeDiff, Nat.reduceEqDiff, reduceCtorEq, Int.reduceToNat, Int.reduceLE, Int.reduceLT, Int.reduceEq, Int.reduceNeg, Nat.reduceLT, Nat.reduceSub, Nat.reduceMul]
    have : R = es.reverse := by
      apply ext_get
      · rw [List.length_reverse, hR]
      · intro k hk
        rw [hR] at hk
        rw [hI k hk, List.getElem?_reverse hk]
        split
        · rfl
        · congr 1; omega
    rw [this]
theorem tomb3 (A B C A' B' C' : AObj) : tomb (List.length [A', B', C']) [A, B, C] = [A, B, C] := rfl
/-- A term's head and arguments. -/
def Term.spine : Term → Term × List Term
  | .mk k i n ls [a, b] => if k = 4 then (a.spine.1, a.spine.2 ++ [b]) else (.mk k i n ls [a, b], [])
  | t => (t, [])
theorem Term.spine_app (i : Int) (n : ByteArray) (ls : List Level) (a b : Term) : (Term.mk 4 i n ls [a, b]).spine = (a.spine.1, a.spine.2 ++ [b]) := by rw [Term.spine]; simp
theorem Term.spine_k {k i : Int} {n : ByteArray} {ls : List Level} {ks : List Term} (h : ¬k = 4) : (Term.mk k i n ls ks).spine = (.mk k i n ls ks, []) := by
  rcases ks with _ | ⟨a, _ | ⟨b, _ | ⟨c, l⟩⟩⟩ <;> simp [Term.spine, h]
theorem Term.spine_n {k i : Int} {n : ByteArray} {ls : List Level} {ks : List Term} (h : ¬ks.length = 2) : (Term.mk k i n ls ks).spine = (.mk k i n ls ks, []) := by
  rcases ks with _ | ⟨a, _ | ⟨b, _ | ⟨c, l⟩⟩⟩ <;> simp [Term.spine] at h ⊢
theorem Term.spine_len (t : Term) : t.spine.2.length < t.nodes := by
  match t with
  | .mk k i n ls [a, b] =>
    by_cases hk : k = 4
    · subst hk
      rw [Term.spine_app, Term.nodes_mk]
      have := Term.spine_len a
      simp only [Term.nodesL, List.length_append, List.length_cons, List.length_nil]; omega
    · rw [Term.spine_k hk, Term.nodes_mk]; exact Nat.lt_of_lt_of_le Nat.zero_lt_one (Nat.le_add_right _ _)
  | .mk k i n ls [] => rw [Term.spine_n (by simp), Term.nodes_mk]; exact Nat.lt_of_lt_of_le Nat.zero_lt_one (Nat.le_add_right _ _)
  | .mk k i n ls [a] => rw [Term.spine_n (by simp), Term.nodes_mk]; exact Nat.lt_of_lt_of_le Nat.zero_lt_one (Nat.le_add_right _ _)
  | .mk k i n ls (a :: b :: c :: l) => rw [Term.spine_n (by simp), Term.nodes_mk]; exact Nat.lt_of_lt_of_le Nat.zero_lt_one (Nat.le_add_right _ _)
theorem All2.rev {α β : Type} {R : α → β → Prop} : ∀ {l : List α} {m : List β}, All2 R l m → All2 R l.reverse m.reverse
  | [], [], _ => trivial
  | _ :: _, _ :: _, h => by simp only [List.reverse_cons]; exact (All2.rev h.2).snoc h.1
  | [], _ :: _, h => h.elim
  | _ :: _, [], h => h.elim
theorem f56 (t : Term) (r : List Imm) (h : t.Enc r) (hn : t.nodes ≤ lim) : PV cx 56 [.agg r] fun y => ∃ a s, y = .tup [.agg s, a] ∧ TermL a t.spine.2 ∧ t.spine.1.Enc s := by
  refine PV.intro (fn := Try.f56) Try.func56 rfl rfl ?_
  have h0 := h
  obtain ⟨k, i, n, ls, ks, lz, lt, les, kz, kt, kes, rfl, rfl, hk, hi, hn, hlz, hll, hl, hkz, hkl, hks⟩ := h.inv
  simp -implicitDefEqProofs only [↓W_seq, go_sem, ↓reduceIte, Nat.reduceBEq, Nat.reduceAdd, Nat.reduceLeDiff, Nat.reduceEqDiff, reduceCtorEq, Int.reduceToNat, Int.reduceLE, Int.reduceLT, Int.reduceEq, Int.reduceNeg, Nat.reduceLT, Nat.reduceSub, Nat.reduceMul]
  have hlim : lim = 1073741824 := rfl
  have hlen := Term.spine_len (Term.mk k i n ls ks)
  refine WL.fall (fun m st => ∃ (u : Term) (r : List Imm) (pre : List Term) (es : List (List Imm)), u.Enc r ∧ m = u.nodes ∧ u.spine.2 ++ pre.reverse = (Term.mk k i n ls ks).spine.2 ∧ u.spine.1 = (Term.mk k i n ls ks).spine.1 ∧ All2 Term.Enc pre es ∧
    st = ⟨[(1, .ptr 0 1 0 0), (2, .ptr 1 1 0 0), (4, .sl 2 es.length 0 es.length)], [], [.row [r.map .im] 5 26, .row [[.im (.i .i64 0), .im (.i .i64 0), .im (.s ByteArray.empty), .im (.sl 1 false true []), .im (.sl 1 false true [])]] 5 26, .row (es.map (·.map .im)) 5 26]⟩) ?_ ⟨_, _, [], [], h0, rfl, by simp, rfl, trivial, rfl⟩
  rintro m st ⟨u, r, pre, es, hu, rfl, hp1, hp2, hpe, rfl⟩
  have hu0 := hu
  have hel : es.length < 1073741824 := by
    have h1 := congrArg List.length hp1
    rw [List.length_append, List.length_reverse, hpe.length] at h1
    omega
  have h5 : ∀ r ∈ es, r.length = 5 := fun r hr => by
    obtain ⟨i, hi⟩ := List.getElem?_of_mem hr
    obtain ⟨a, _, ha⟩ := hpe.get hi
    exact ha.length
  obtain ⟨k2, i2, n2, ls2, ks2, lz2, lt2, les2, kz2, kt2, kes2, rfl, rfl, hk2, hi2, hn2, hlz2, hll2, hl2, hkz2, hkl2, hks2⟩ := hu.inv
  simp -implicitDefEqProofs only [↓W_seq, go_sem, ↓reduceIte, Nat.reduceBEq, Nat.reduceAdd, Nat.reduceLeDiff, Nat.reduceEqDiff, reduceCtorEq, Int.reduceToNat, Int.reduceLE, Int.reduceLT, Int.reduceEq, Int.reduceNeg, Nat.reduceLT, Nat.reduceSub, Nat.reduceMul]
  refine kgb_b (fun e1 => ?_) (fun e1 => ?_) <;> simp -implicitDefEqProofs only [↓W_seq, go_sem, ↓reduceIte, Nat.reduceBEq, Nat.reduceAdd, Nat.reduceLeDiff, Nat.reduceEqDiff, reduceCtorEq, Int.reduceToNat, Int.reduceLE, Int.reduceLT, Int.reduceEq, Int.reduceNeg, Nat.reduceLT, Nat.reduceSub, Nat.reduceMul, e1]
  · refine kcd_b (fun e2 => ?_) (fun e2 => ?_) <;> simp -implicitDefEqProofs only [↓W_seq, go_sem, ↓reduceIte, Nat.reduceBEq, Nat.reduceAdd, Nat.reduceLeDiff, Nat.reduceEqDiff, reduceCtorEq, Int.reduceToNat, Int.reduceLE, Int.reduceLT, Int.reduceEq, Int.reduceNeg, Nat.reduceLT, Nat.reduceSub, Nat.reduceMul, e2]
    · have h6 : k2 = 4 := of_decide_eq_true e1
      have h2 : kes2.length = 2 := by have := of_decide_eq_true e2; omega
      obtain ⟨a, b, r, s, rfl, rfl, ha, hb⟩ := hks2.two h2
      have hz : kz2 = 5 := by rcases hkz2 with h | h <;> simp_all
      subst hz h6
      rw [Term.spine_app] at hp1 hp2
      have hb5 := hb.length
      have ha5 := ha.length
      have hcap : es.length + 1 ≤ 4294967296 := by omega
      simp -implicitDefEqProofs only [↓W_seq, go_sem, ↓reduceIte, Nat.reduceBEq, Nat.reduceAdd, Nat.reduceLeDiff, Nat.reduceEqDiff, reduceCtorEq, Int.reduceToNat, Int.reduceLE, Int.reduceLT, Int.reduceEq, Int.reduceNeg, Nat.reduceLT, Nat.reduceSub, Nat.reduceMul, sub_all hb5, hb5, sub_all ha5, ha5, hcap]
      refine ⟨a.nodes, ?_, a, r, pre ++ [b], es ++ [s], ha, rfl, by simpa using hp1, hp2, hpe.snoc hb, by simp⟩
      rw [Term.nodes_mk]; simp only [Term.nodesL]; omega
    · have h2 : ¬ks2.length = 2 := by have := of_decide_eq_false e2; rw [hks2.length]; omega
      have he := Term.spine_n (k := k2) (i := i2) (n := n2) (ls := ls2) h2
      rw [he] at hp1 hp2
      simp only [List.nil_append] at hp1
      refine WC.sh rfl ((f99 _ _ es h5 (by omega)).mono ?_)
      rintro _ _ ⟨rfl, rfl⟩
      refine ⟨_, rfl, ?_⟩
      rw [tomb3]
      simp -implicitDefEqProofs only [↓W_seq, go_sem, ↓reduceIte, Nat.reduceBEq, Nat.reduceAdd, Nat.reduceLeDiff, Nat.reduceEqDiff, reduceCtorEq, Int.reduceToNat, Int.reduceLE, Int.reduceLT, Int.reduceEq, Int.reduceNeg, Nat.reduceLT, Nat.reduceSub, Nat.reduceMul]
      refine ⟨_, view_tup2 (view_im _ _ _ _) (view_row (es := es.reverse) rfl (by simp)), _, _, rfl, ⟨es.reverse, 5, false, rfl, ?_, .inl rfl, by rw [List.length_reverse]; omega⟩, by rw [← hp2]; exact hu0⟩
      rw [← hp1]; exact hpe.rev
  · have he := Term.spine_k (i := i2) (n := n2) (ls := ls2) (ks := ks2) (of_decide_eq_false e1)
    rw [he] at hp1 hp2
    simp only [List.nil_append] at hp1
    refine WC.sh rfl ((f99 _ _ es h5 (by omega)).mono ?_)
    rintro _ _ ⟨rfl, rfl⟩
    refine ⟨_, rfl, ?_⟩
    rw [tomb3]
    simp -implicitDefEqProofs only [↓W_seq, go_sem, ↓reduceIte, Nat.reduceBEq, Nat.reduceAdd, Nat.reduceLeDiff, Nat.reduceEqDiff, reduceCtorEq, Int.reduceToNat, Int.reduceLE, Int.reduceLT, Int.reduceEq, Int.reduceNeg, Nat.reduceLT, Nat.reduceSub, Nat.reduceMul]
    refine ⟨_, view_tup2 (view_im _ _ _ _) (view_row (es := es.reverse) rfl (by simp)), _, _, rfl, ⟨es.reverse, 5, false, rfl, ?_, .inl rfl, by rw [List.length_reverse]; omega⟩, by rw [← hp2]; exact hu0⟩
    rw [← hp1]; exact hpe.rev
end Go.Proofs.Ytnbbhbbhgcipjaa.Am
