/-
  Chapter 7: what is the same as itself.
  Chapter 7: what the environment says of a name.
-/
import Derived.Test.YtnbbhbbhgcipjaaMj
import Derived.Test.YtnbbhbbhgcipjaaMk
import Derived.Test.YtnbbhbbhgcipjaaMTabs2
import Derived.Test.YtnbbhbbhgcipjaaMAwake7
set_option linter.unusedVariables false
set_option linter.unnecessarySimpa false
set_option linter.unusedSimpArgs false
set_option linter.unusedSectionVars false
namespace Go.Proofs.Ytnbbhbbhgcipjaa.Am
attribute [local irreducible] W WO WD WL WR WC WOp W1 WDf kcall kdfr kpn ob eb kval kvh kH kn0 kmp kvc kvc0 kca kpk kgb kgd kcd kcl kbl kres kmt wseq kseq kblock kreg kdn kdE kbd kcr kdm kdb kdg kdo kfin klp kround ksend kcol RN
theorem f58r {t : Term} {r s : List Imm} (h : t.Enc r) (g : t.Enc s) : PF cx 58 [.agg r, .agg s] fun y => y = .b true :=
  (f58 _ t t r s (Nat.le_refl _) h g).mono fun y ⟨b, e, hb⟩ => by rw [e, hb.2 rfl]
theorem f117r {ls : List Term} {es fs : List (List Imm)} {z z' : Nat} {q q' b : Bool} (h : All2 Term.Enc ls es) (hz : z = 5 ∨ es = []) (hl : es.length ≤ lim) (h' : All2 Term.Enc ls fs) (hz' : z' = 5 ∨ fs = []) (hl' : fs.length ≤ lim) :
    PF cx 117 [.sl z b q es, .sl z' false q' fs] fun y => y = .b true :=
  (f117 ls ls es fs z z' q q' h hz hl h' hz' hl').mono fun y ⟨b, e, hb⟩ => by rw [e, hb.2 rfl]
theorem f27 (e : Entry) (r s : List Imm) (h : e.Enc r) (g : e.Enc s) : PF cx 27 [.agg r, .agg s] fun y => y = .b true := by
  refine PF.intro (fn := Try.f27) Try.func27 rfl rfl ?_
  obtain ⟨t0, t1, t2, t3, t4, rfl, hT⟩ := h
  obtain ⟨u0, u1, u2, u3, u4, rfl, hU⟩ := g
  simp -implicitDefEqProofs only [↓W_seq, go_sem, ↓reduceIte, Nat.reduceBEq, Nat.reduceAdd, Nat.reduceLeDiff, Nat.reduceEqDiff, reduceCtorEq, Int.reduceToNat, Int.reduceLE, Int.reduceLT, Int.reduceEq, Int.reduceNeg, Nat.reduceLT, Nat.reduceSub, Nat.reduceMul]
  refine WC.pf (f58r hT hU) rfl rfl ?_
  rintro _ rfl
  simp -implicitDefEqProofs only [↓W_seq, go_sem, ↓reduceIte, Nat.reduceBEq, Nat.reduceAdd, Nat.reduceLeDiff, Nat.reduceEqDiff, reduceCtorEq, Int.reduceToNat, Int.reduceLE, Int.reduceLT, Int.reduceEq, Int.reduceNeg, Nat.reduceLT, Nat.reduceSub, Nat.reduceMul]
  exact ⟨_, rfl, rfl⟩
theorem f73 (n : Int) (t : Term) (t0 t1 t2 t3 t4 u0 u1 u2 u3 u4 : Imm) (ts : List Term) (es fs : List (List Imm)) (z w : Nat) (q p : Bool) (hT : t.Enc [t0, t1, t2, t3, t4]) (hU : t.Enc [u0, u1, u2, u3, u4]) (h : All2 Term.Enc ts es) (hz : z = 5 ∨ es = []) (hl : es.length ≤ lim)
    (g : All2 Term.Enc ts fs) (hw : w = 5 ∨ fs = []) (hl' : fs.length ≤ lim) : PF cx 73 [.agg [.i .i64 n, t0, t1, t2, t3, t4, .sl z false q es], .agg [.i .i64 n, u0, u1, u2, u3, u4, .sl w false p fs]] fun y => y = .b true := by
  refine PF.intro (fn := Try.f73) Try.func73 rfl rfl ?_
  simp -implicitDefEqProofs only [↓W_seq, go_sem, ↓reduceIte, Nat.reduceBEq, Nat.reduceAdd, Nat.reduceLeDiff, Nat.reduceEqDiff, reduceCtorEq, Int.reduceToNat, Int.reduceLE, Int.reduceLT, Int.reduceEq, Int.reduceNeg, Nat.reduceLT, Nat.reduceSub, Nat.reduceMul]
  refine WC.pf (f58r hT hU) rfl rfl ?_
  rintro _ rfl
  simp -implicitDefEqProofs only [↓W_seq, go_sem, ↓reduceIte, Nat.reduceBEq, Nat.reduceAdd, Nat.reduceLeDiff, Nat.reduceEqDiff, reduceCtorEq, Int.reduceToNat, Int.reduceLE, Int.reduceLT, Int.reduceEq, Int.reduceNeg, Nat.reduceLT, Nat.reduceSub, Nat.reduceMul]
  refine WC.pf (f117r h hz hl g hw hl') rfl rfl ?_
  rintro _ rfl
  simp -implicitDefEqProofs only [↓W_seq, go_sem, ↓reduceIte, Nat.reduceBEq, Nat.reduceAdd, Nat.reduceLeDiff, Nat.reduceEqDiff, reduceCtorEq, Int.reduceToNat, Int.reduceLE, Int.reduceLT, Int.reduceEq, Int.reduceNeg, Nat.reduceLT, Nat.reduceSub, Nat.reduceMul]
  exact ⟨_, rfl, rfl⟩
theorem f74r : ∀ (N : Nat) (t : Tree) (r s : List Imm), t.nodes ≤ N → t.Enc r → t.Enc s → PF cx 74 [.agg r, .agg s] fun y => y = .b true := by
  intro N
  induction N with
  | zero => intro t r s hN; have := t.nodes_pos; omega
  | succ N ih =>
    intro t r s hN h g
    refine PF.intro (fn := Try.f74) Try.func74 rfl rfl ?_
    obtain ⟨k, b, v, brs, b0, b1, b2, b3, b4, z, ti, es, rfl, rfl, hk, hv, hb, hz, hl, hB⟩ := h.inv
    obtain ⟨k', b', v', brs', b0', b1', b2', b3', b4', z', ti', es', heq, rfl, hk', hv', hb', hz', hl', hB'⟩ := g.inv
    cases heq
    simp -implicitDefEqProofs only [↓W_seq, go_sem, ↓reduceIte, Nat.reduceBEq, Nat.reduceAdd, Nat.reduceLeDiff, Nat.reduceEqDiff, reduceCtorEq, Int.reduceToNat, Int.reduceLE, Int.reduceLT, Int.reduceEq, Int.reduceNeg, Nat.reduceLT, Nat.reduceSub, Nat.reduceMul]
    refine WC.pf (f58r hb hb') rfl rfl ?_
    rintro _ rfl
    have hlen : es.length = es'.length := by rw [← hB.length, ← hB'.length]
    have hlen' : (es'.length : Int) = es.length := by rw [hlen]
    simp -implicitDefEqProofs only [↓W_seq, go_sem, ↓reduceIte, Nat.reduceBEq, Nat.reduceAdd, Nat.reduceLeDiff, Nat.reduceEqDiff, reduceCtorEq, Int.reduceToNat, Int.reduceLE, Int.reduceLT, Int.reduceEq, Int.reduceNeg, Nat.reduceLT, Nat.reduceSub, Nat.reduceMul, hlen']
    refine WL.upto es.length (fun j st => ∃ H, st = ⟨[(2, .im (.ip 8 false [[.i .i64 k, b0, b1, b2, b3, b4, .i .i64 v, .sl z false ti es]] 0 0)), (3, .im (.ip 8 false [[.i .i64 k, b0', b1', b2', b3', b4', .i .i64 v, .sl z' false ti' es']] 0 0)), (5, .im (.i .i64 j))], [], H⟩) ?_ ⟨_, rfl⟩
    rintro j st hj ⟨H, rfl⟩
    simp -implicitDefEqProofs only [↓W_seq, go_sem, ↓reduceIte, Nat.reduceBEq, Nat.reduceAdd, Nat.reduceLeDiff, Nat.reduceEqDiff, reduceCtorEq, Int.reduceToNat, Int.reduceLE, Int.reduceLT, Int.reduceEq, Int.reduceNeg, Nat.reduceLT, Nat.reduceSub, Nat.reduceMul]
    refine kcd_dec (fun h1 => ?_) (fun h1 => ?_)
    · have hj1 : j < es.length := by omega
      have hj2 : j < es'.length := by omega
      obtain ⟨rfl, a, r, ha, hr, hE⟩ := hB.at hz hj1
      obtain ⟨n, c, u, t0, t1, t2, t3, t4, t5, t6, t7, rfl, rfl, hn, hu⟩ := hE.inv
      obtain ⟨rfl, a', r', ha', hr', hE'⟩ := hB'.at hz' hj2
      rw [ha] at ha'
      obtain ⟨n', c', u', t0', t1', t2', t3', t4', t5', t6', t7', heq, rfl, hn', hu'⟩ := hE'.inv
      cases ha'
      cases heq
      have hN' : u.nodes ≤ N := by have := Tree.nodes_kid (k := k) (v := v) (b := b) ha; omega
      simp -implicitDefEqProofs only [↓W_seq, go_sem, ↓reduceIte, Nat.reduceBEq, Nat.reduceAdd, Nat.reduceLeDiff, Nat.reduceEqDiff, reduceCtorEq, Int.reduceToNat, Int.reduceLE, Int.reduceLT, Int.reduceEq, Int.reduceNeg, Nat.reduceLT, Nat.reduceSub, Nat.reduceMul, hj1, hr, hj2, hr']
      refine WC.pf (ih u _ _ hN' hu hu') rfl rfl ?_
      rintro _ rfl
      simp -implicitDefEqProofs only [↓W_seq, go_sem, ↓reduceIte, Nat.reduceBEq, Nat.reduceAdd, Nat.reduceLeDiff, Nat.reduceEqDiff, reduceCtorEq, Int.reduceToNat, Int.reduceLE, Int.reduceLT, Int.reduceEq, Int.reduceNeg, Nat.reduceLT, Nat.reduceSub, Nat.reduceMul, wrap_succ hj1 hl]
      exact ⟨_, rfl⟩
    · simp -implicitDefEqProofs only [↓W_seq, go_sem, ↓reduceIte, Nat.reduceBEq, Nat.reduceAdd, Nat.reduceLeDiff, Nat.reduceEqDiff, reduceCtorEq, Int.reduceToNat, Int.reduceLE, Int.reduceLT, Int.reduceEq, Int.reduceNeg, Nat.reduceLT, Nat.reduceSub, Nat.reduceMul]
      exact ⟨_, rfl, rfl⟩
set_option maxRecDepth 100000 in
theorem f28 (d : Decl) (r s : List Imm) (h : d.Enc r) (g : d.Enc s) : PF cx 28 [.agg r, .agg s] fun y => y = .b true := by
  refine PF.intro (fn := Try.f28) Try.func28 rfl rfl ?_
  obtain ⟨t0, t1, t2, t3, t4, v0, v1, v2, v3, v4, cz, ct, ces, u0, u1, u2, u3, u4, rz, rt, res, fz, ft, fes, rfl, hdk, hdn, hdp, hT, hV, hdf, hcz, hcl, hC, hrp, hU, hrz, hrl, hR, hfz, hfl, hF, hTn⟩ := h
  obtain ⟨t0', t1', t2', t3', t4', v0', v1', v2', v3', v4', cz', ct', ces', u0', u1', u2', u3', u4', rz', rt', res', fz', ft', fes', rfl, hdk', hdn', hdp', hT', hV', hdf', hcz', hcl', hC', hrp', hU', hrz', hrl', hR', hfz', hfl', hF', hTn'⟩ := g
  simp -implicitDefEqProofs only [↓W_seq, go_sem, ↓reduceIte, Nat.reduceBEq, Nat.reduceAdd, Nat.reduceLeDiff, Nat.reduceEqDiff, reduceCtorEq, Int.reduceToNat, Int.reduceLE, Int.reduceLT, Int.reduceEq, Int.reduceNeg, Nat.reduceLT, Nat.reduceSub, Nat.reduceMul]
  refine WC.pf (f58r hT hT') rfl rfl ?_
  rintro _ rfl
  simp -implicitDefEqProofs only [↓W_seq, go_sem, ↓reduceIte, Nat.reduceBEq, Nat.reduceAdd, Nat.reduceLeDiff, Nat.reduceEqDiff, reduceCtorEq, Int.reduceToNat, Int.reduceLE, Int.reduceLT, Int.reduceEq, Int.reduceNeg, Nat.reduceLT, Nat.reduceSub, Nat.reduceMul]
  refine WC.pf (f58r hV hV') rfl rfl ?_
  rintro _ rfl
  have e1 : ces.length = ces'.length := by rw [← hC.length, ← hC'.length]
  have e2 : fes.length = fes'.length := by rw [← hF.length, ← hF'.length]
  have e1' : (ces'.length : Int) = ces.length := by rw [e1]
  have e2' : (fes'.length : Int) = fes.length := by rw [e2]
  simp -implicitDefEqProofs only [↓W_seq, go_sem, ↓reduceIte, Nat.reduceBEq, Nat.reduceAdd, Nat.reduceLeDiff, Nat.reduceEqDiff, reduceCtorEq, Int.reduceToNat, Int.reduceLE, Int.reduceLT, Int.reduceEq, Int.reduceNeg, Nat.reduceLT, Nat.reduceSub, Nat.reduceMul, e1', e2']
  refine WC.pf (f73 _ _ _ _ _ _ _ _ _ _ _ _ _ _ _ _ _ _ _ hU hU' hR hrz hrl hR' hrz' hrl') rfl rfl ?_
  rintro _ rfl
  simp -implicitDefEqProofs only [↓W_seq, go_sem, ↓reduceIte, Nat.reduceBEq, Nat.reduceAdd, Nat.reduceLeDiff, Nat.reduceEqDiff, reduceCtorEq, Int.reduceToNat, Int.reduceLE, Int.reduceLT, Int.reduceEq, Int.reduceNeg, Nat.reduceLT, Nat.reduceSub, Nat.reduceMul]
  refine WL.upto ces.length (fun j st => st = ⟨[(2, .im (.ip 23 false [[.i .i64 d.kind, .s d.name, .i .i64 d.params, t0, t1, t2, t3, t4, v0, v1, v2, v3, v4, .i .i64 d.fixed, .sl cz false ct ces, .i .i64 d.recParams, u0, u1, u2, u3, u4, .sl rz false rt res, .sl fz false ft fes]] 0 0)), (3, .im (.ip 23 false [[.i .i64 d.kind, .s d.name, .i .i64 d.params, t0', t1', t2', t3', t4', v0', v1', v2', v3', v4', .i .i64 d.fixed, .sl cz' false ct' ces', .i .i64 d.recParams, u0', u1', u2', u3', u4', .sl rz' false rt' res', .sl fz' false ft' fes']] 0 0)), (5, .im (.i .i64 j))], [], []⟩) ?_ rfl
  rintro j st hj rfl
  simp -implicitDefEqProofs only [↓W_seq, go_sem, ↓reduceIte, Nat.reduceBEq, Nat.reduceAdd, Nat.reduceLeDiff, Nat.reduceEqDiff, reduceCtorEq, Int.reduceToNat, Int.reduceLE, Int.reduceLT, Int.reduceEq, Int.reduceNeg, Nat.reduceLT, Nat.reduceSub, Nat.reduceMul]
  refine kcd_dec (fun h1 => ?_) (fun h1 => ?_)
  · have hj1 : j < ces.length := by omega
    have hj2 : j < ces'.length := by omega
    obtain ⟨rfl, a, r, ha, hr, x0, x1, x2, x3, x4, rfl, hx, hX, hXn⟩ := hC.at hcz hj1
    obtain ⟨rfl, a', r', ha', hr', w0, w1, w2, w3, w4, rfl, hw, hW, hWn⟩ := hC'.at hcz' hj2
    rw [ha] at ha'
    cases ha'
    simp -implicitDefEqProofs only [↓W_seq, go_sem, ↓reduceIte, Nat.reduceBEq, Nat.reduceAdd, Nat.reduceLeDiff, Nat.reduceEqDiff, reduceCtorEq, Int.reduceToNat, Int.reduceLE, Int.reduceLT, Int.reduceEq, Int.reduceNeg, Nat.reduceLT, Nat.reduceSub, Nat.reduceMul, hj1, hr, hj2, hr']
    refine WC.pf (f58r hX hW) rfl rfl ?_
    rintro _ rfl
    simp -implicitDefEqProofs only [↓W_seq, go_sem, ↓reduceIte, Nat.reduceBEq, Nat.reduceAdd, Nat.reduceLeDiff, Nat.reduceEqDiff, reduceCtorEq, Int.reduceToNat, Int.reduceLE, Int.reduceLT, Int.reduceEq, Int.reduceNeg, Nat.reduceLT, Nat.reduceSub, Nat.reduceMul, wrap_succ hj1 hcl]
    first | done | exact ⟨hj1, rfl⟩ | exact rfl
  simp -implicitDefEqProofs only [↓W_seq, go_sem, ↓reduceIte, Nat.reduceBEq, Nat.reduceAdd, Nat.reduceLeDiff, Nat.reduceEqDiff, reduceCtorEq, Int.reduceToNat, Int.reduceLE, Int.reduceLT, Int.reduceEq, Int.reduceNeg, Nat.reduceLT, Nat.reduceSub, Nat.reduceMul]
  refine WL.upto fes.length (fun j st => ∃ H, st = ⟨[(2, .im (.ip 23 false [[.i .i64 d.kind, .s d.name, .i .i64 d.params, t0, t1, t2, t3, t4, v0, v1, v2, v3, v4, .i .i64 d.fixed, .sl cz false ct ces, .i .i64 d.recParams, u0, u1, u2, u3, u4, .sl rz false rt res, .sl fz false ft fes]] 0 0)), (3, .im (.ip 23 false [[.i .i64 d.kind, .s d.name, .i .i64 d.params, t0', t1', t2', t3', t4', v0', v1', v2', v3', v4', .i .i64 d.fixed, .sl cz' false ct' ces', .i .i64 d.recParams, u0', u1', u2', u3', u4', .sl rz' false rt' res', .sl fz' false ft' fes']] 0 0)), (6, .im (.i .i64 j))], [], H⟩) ?_ ⟨_, rfl⟩
  rintro j st hj ⟨H, rfl⟩
  simp -implicitDefEqProofs only [↓W_seq, go_sem, ↓reduceIte, Nat.reduceBEq, Nat.reduceAdd, Nat.reduceLeDiff, Nat.reduceEqDiff, reduceCtorEq, Int.reduceToNat, Int.reduceLE, Int.reduceLT, Int.reduceEq, Int.reduceNeg, Nat.reduceLT, Nat.reduceSub, Nat.reduceMul]
  refine kcd_dec (fun h1 => ?_) (fun h1 => ?_)
  · have hj1 : j < fes.length := by omega
    have hj2 : j < fes'.length := by omega
    obtain ⟨rfl, a, r, ha, hr, x0, x1, x2, x3, x4, y0, y1, y2, y3, y4, y5, y6, y7, rfl, hx, hX, hy, hY⟩ := hF.at hfz hj1
    obtain ⟨rfl, a', r', ha', hr', w0, w1, w2, w3, w4, v0, v1, v2, v3, v4, v5, v6, v7, rfl, hw, hW, hv, hY'⟩ := hF'.at hfz' hj2
    rw [ha] at ha'
    cases ha'
    simp -implicitDefEqProofs only [↓W_seq, go_sem, ↓reduceIte, Nat.reduceBEq, Nat.reduceAdd, Nat.reduceLeDiff, Nat.reduceEqDiff, reduceCtorEq, Int.reduceToNat, Int.reduceLE, Int.reduceLT, Int.reduceEq, Int.reduceNeg, Nat.reduceLT, Nat.reduceSub, Nat.reduceMul, hj1, hr, hj2, hr']
    refine WC.pf (f58r hX hW) rfl rfl ?_
    rintro _ rfl
    simp -implicitDefEqProofs only [↓W_seq, go_sem, ↓reduceIte, Nat.reduceBEq, Nat.reduceAdd, Nat.reduceLeDiff, Nat.reduceEqDiff, reduceCtorEq, Int.reduceToNat, Int.reduceLE, Int.reduceLT, Int.reduceEq, Int.reduceNeg, Nat.reduceLT, Nat.reduceSub, Nat.reduceMul, hj1, hr, hj2, hr']
    refine WC.pf (f74r _ _ _ _ (Nat.le_refl _) hY hY') rfl rfl ?_
    rintro _ rfl
    simp -implicitDefEqProofs only [↓W_seq, go_sem, ↓reduceIte, Nat.reduceBEq, Nat.reduceAdd, Nat.reduceLeDiff, Nat.reduceEqDiff, reduceCtorEq, Int.reduceToNat, Int.reduceLE, Int.reduceLT, Int.reduceEq, Int.reduceNeg, Nat.reduceLT, Nat.reduceSub, Nat.reduceMul, wrap_succ hj1 hfl]
    first | exact ⟨hj1, _, rfl⟩ | exact ⟨_, rfl⟩
  simp -implicitDefEqProofs only [↓W_seq, go_sem, ↓reduceIte, Nat.reduceBEq, Nat.reduceAdd, Nat.reduceLeDiff, Nat.reduceEqDiff, reduceCtorEq, Int.reduceToNat, Int.reduceLE, Int.reduceLT, Int.reduceEq, Int.reduceNeg, Nat.reduceLT, Nat.reduceSub, Nat.reduceMul]
  exact ⟨_, rfl, rfl⟩
end Go.Proofs.Ytnbbhbbhgcipjaa.Am

namespace Go.Proofs.Ytnbbhbbhgcipjaa.Am
theorem bin_bb (x y : Operand) (b : Bool) : bin2 cx.P .eql 4 x y (.im (.b b)) (.im (.b b)) = some (.im (.b true)) := by
  refine bin_of (a' := .bool b) (b' := .bool b) (v := .bool true) rfl rfl ?_ rfl
  cases b
  · kernel_rfl
  · kernel_rfl
attribute [local irreducible] W WO WD WL WR WC WOp W1 WDf kcall kdfr kpn ob eb kval kvh kH kn0 kmp kvc kvc0 kca kpk kgb kgd kcd kcl kbl kres kmt wseq kseq kblock kreg kdn kdE kbd kcr kdm kdb kdg kdo kfin klp kround ksend kcol RN
theorem f7 (ds : List Decl) (es : List (List Imm)) (z : Nat) (q : Bool) (s : ByteArray) (h : All2 Decl.Enc ds es) (hz : z = 23 ∨ es = []) (hl : es.length ≤ lim) :
    PF cx 7 [.sl z false q es, .s s] fun y => y = .b true := by
  refine PF.intro (fn := Try.f7) Try.func7 rfl rfl ?_
  have hlim : lim = 1073741824 := rfl
  simp -implicitDefEqProofs only [↓W_seq, go_sem, ↓reduceIte, Nat.reduceBEq, Nat.reduceAdd, Nat.reduceLeDiff, Nat.reduceEqDiff, reduceCtorEq, Int.reduceToNat, Int.reduceLE, Int.reduceLT, Int.reduceEq, Int.reduceNeg, Nat.reduceLT, Nat.reduceSub, Nat.reduceMul]
  refine WC.pf (f22 ds es z q h hz hl) rfl rfl ?_
  rintro _ ⟨b, rfl, hb⟩
  have key : (200 : Int) < s.size ∨ ¬(200 : Int) < s.size := Classical.em _
  cases b with
  | false =>
    simp -implicitDefEqProofs only [↓W_seq, go_sem, ↓reduceIte, Nat.reduceBEq, Nat.reduceAdd, Nat.reduceLeDiff, Nat.reduceEqDiff, reduceCtorEq, Int.reduceToNat, Int.reduceLE, Int.reduceLT, Int.reduceEq, Int.reduceNeg, Nat.reduceLT, Nat.reduceSub, Nat.reduceMul]
    refine WC.pf f19 rfl rfl ?_
    rintro _ rfl
    simp -implicitDefEqProofs only [↓W_seq, go_sem, ↓reduceIte, Nat.reduceBEq, Nat.reduceAdd, Nat.reduceLeDiff, Nat.reduceEqDiff, reduceCtorEq, Int.reduceToNat, Int.reduceLE, Int.reduceLT, Int.reduceEq, Int.reduceNeg, Nat.reduceLT, Nat.reduceSub, Nat.reduceMul]
    exact ⟨_, rfl, rfl⟩
  | true =>
    simp -implicitDefEqProofs only [↓W_seq, go_sem, ↓reduceIte, Nat.reduceBEq, Nat.reduceAdd, Nat.reduceLeDiff, Nat.reduceEqDiff, reduceCtorEq, Int.reduceToNat, Int.reduceLE, Int.reduceLT, Int.reduceEq, Int.reduceNeg, Nat.reduceLT, Nat.reduceSub, Nat.reduceMul]
    refine kcd_dec (fun h1 => ?_) (fun h1 => ?_) <;> simp -implicitDefEqProofs only [↓W_seq, go_sem, ↓reduceIte, Nat.reduceBEq, Nat.reduceAdd, Nat.reduceLeDiff, Nat.reduceEqDiff, reduceCtorEq, Int.reduceToNat, Int.reduceLE, Int.reduceLT, Int.reduceEq, Int.reduceNeg, Nat.reduceLT, Nat.reduceSub, Nat.reduceMul]
    · refine WC.pf f19 rfl rfl ?_
      rintro _ rfl
      simp -implicitDefEqProofs only [↓W_seq, go_sem, ↓reduceIte, Nat.reduceBEq, Nat.reduceAdd, Nat.reduceLeDiff, Nat.reduceEqDiff, reduceCtorEq, Int.reduceToNat, Int.reduceLE, Int.reduceLT, Int.reduceEq, Int.reduceNeg, Nat.reduceLT, Nat.reduceSub, Nat.reduceMul]
      exact ⟨_, rfl, rfl⟩
    have hs : s.size ≤ 4 * lim := by omega
    refine WC.pf (f23 ds es z q s h hz hl) rfl rfl ?_
    rintro _ ⟨er, rfl, hE1⟩
    obtain ⟨x0, x1, x2, x3, x4, rfl, hX⟩ := id hE1
    simp -implicitDefEqProofs only [↓W_seq, go_sem, ↓reduceIte, Nat.reduceBEq, Nat.reduceAdd, Nat.reduceLeDiff, Nat.reduceEqDiff, reduceCtorEq, Int.reduceToNat, Int.reduceLE, Int.reduceLT, Int.reduceEq, Int.reduceNeg, Nat.reduceLT, Nat.reduceSub, Nat.reduceMul]
    refine WC.pf (f24 ds es z q s h hz hl hs) rfl rfl ?_
    rintro _ ⟨er2, rfl, hE2⟩
    obtain ⟨y0, y1, y2, y3, y4, rfl, hY⟩ := id hE2
    simp -implicitDefEqProofs only [↓W_seq, go_sem, ↓reduceIte, Nat.reduceBEq, Nat.reduceAdd, Nat.reduceLeDiff, Nat.reduceEqDiff, reduceCtorEq, Int.reduceToNat, Int.reduceLE, Int.reduceLT, Int.reduceEq, Int.reduceNeg, Nat.reduceLT, Nat.reduceSub, Nat.reduceMul]
    refine WC.pf (f25 ds es z q s h hz hl) rfl rfl ?_
    rintro _ ⟨r1, j1, b1, rfl, hr1⟩
    have hd : ∃ d : Decl, d.Enc r1 ∧ ∀ y, FamR (famE ds s) y → ∃ r2, y = .tup [.agg r2, .i .i64 j1, .b b1] ∧ d.Enc r2 := by
      unfold FamR
      cases hf : famE ds s with
      | none =>
        rw [hf] at hr1
        obtain ⟨rfl, rfl, hz⟩ := hr1
        exact ⟨zeroD, hz, fun y ⟨r2, j2, b2, e, e1, e2, e3⟩ => ⟨r2, by rw [e, e1, e2], e3⟩⟩
      | some x =>
        obtain ⟨d, k⟩ := x
        rw [hf] at hr1
        obtain ⟨hz, rfl, rfl⟩ := hr1
        exact ⟨d, hz, fun y ⟨r2, j2, b2, e, e1, e2, e3⟩ => ⟨r2, by rw [e, e2, e3], e1⟩⟩
    obtain ⟨d, hd1, hd2⟩ := hd
    have h23 := hd1.length
    have hdr : List.drop 23 (List.map AV.im r1) = [] := List.drop_eq_nil_of_le (by simp [h23])
    have hsr : sub (List.map AV.im r1) 0 23 = some (r1.map .im) := sub_all (by simp [h23])
    simp -implicitDefEqProofs only [↓W_seq, go_sem, ↓reduceIte, Nat.reduceBEq, Nat.reduceAdd, Nat.reduceLeDiff, Nat.reduceEqDiff, reduceCtorEq, Int.reduceToNat, Int.reduceLE, Int.reduceLT, Int.reduceEq, Int.reduceNeg, Nat.reduceLT, Nat.reduceSub, Nat.reduceMul, h23, hdr, hsr]
    refine WC.pf (f26 ds es z q s h hz hl hs) rfl rfl ?_
    intro y hy
    obtain ⟨r2, rfl, hr2⟩ := hd2 y hy
    have h23' := hr2.length
    have hdr' : List.drop 23 (List.map AV.im r2) = [] := List.drop_eq_nil_of_le (by simp [h23'])
    have hsr' : sub (List.map AV.im r2) 0 23 = some (r2.map .im) := sub_all (by simp [h23'])
    simp -implicitDefEqProofs only [↓W_seq, go_sem, ↓reduceIte, Nat.reduceBEq, Nat.reduceAdd, Nat.reduceLeDiff, Nat.reduceEqDiff, reduceCtorEq, Int.reduceToNat, Int.reduceLE, Int.reduceLT, Int.reduceEq, Int.reduceNeg, Nat.reduceLT, Nat.reduceSub, Nat.reduceMul, h23', hdr', hsr', h23, hdr, hsr]
    refine WC.pf f19 rfl rfl ?_
    rintro _ rfl
    simp -implicitDefEqProofs only [↓W_seq, go_sem, ↓reduceIte, Nat.reduceBEq, Nat.reduceAdd, Nat.reduceLeDiff, Nat.reduceEqDiff, reduceCtorEq, Int.reduceToNat, Int.reduceLE, Int.reduceLT, Int.reduceEq, Int.reduceNeg, Nat.reduceLT, Nat.reduceSub, Nat.reduceMul, h23', hdr', hsr', h23, hdr, hsr]
    refine WC.pf (f27 _ _ _ hE1 hE2) rfl rfl ?_
    rintro _ rfl
    simp -implicitDefEqProofs only [↓W_seq, go_sem, ↓reduceIte, Nat.reduceBEq, Nat.reduceAdd, Nat.reduceLeDiff, Nat.reduceEqDiff, reduceCtorEq, Int.reduceToNat, Int.reduceLE, Int.reduceLT, Int.reduceEq, Int.reduceNeg, Nat.reduceLT, Nat.reduceSub, Nat.reduceMul, h23', hdr', hsr', h23, hdr, hsr]
    refine WC.pf (f28 d _ _ hd1 hr2) rfl rfl ?_
    rintro _ rfl
    simp -implicitDefEqProofs only [↓W_seq, go_sem, ↓reduceIte, Nat.reduceBEq, Nat.reduceAdd, Nat.reduceLeDiff, Nat.reduceEqDiff, reduceCtorEq, Int.reduceToNat, Int.reduceLE, Int.reduceLT, Int.reduceEq, Int.reduceNeg, Nat.reduceLT, Nat.reduceSub, Nat.reduceMul, h23', hdr', hsr', h23, hdr, hsr]
    simp -implicitDefEqProofs only [↓W_seq, go_sem, ↓reduceIte, Nat.reduceBEq, Nat.reduceAdd, Nat.reduceLeDiff, Nat.reduceEqDiff, reduceCtorEq, Int.reduceToNat, Int.reduceLE, Int.reduceLT, Int.reduceEq, Int.reduceNeg, Nat.reduceLT, Nat.reduceSub, Nat.reduceMul, bin_bb]
    exact ⟨_, rfl, rfl⟩
end Go.Proofs.Ytnbbhbbhgcipjaa.Am
