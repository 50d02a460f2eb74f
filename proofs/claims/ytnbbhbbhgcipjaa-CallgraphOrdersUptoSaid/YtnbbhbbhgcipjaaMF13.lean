/-
  The laws of chapter 21 return true.
-/
import Derived.Test.YtnbbhbbhgcipjaaMF12
import Derived.Test.YtnbbhbbhgcipjaaMAwake
set_option linter.unusedVariables false
set_option linter.unnecessarySimpa false
set_option linter.unusedSimpArgs false
set_option linter.unusedSectionVars false
namespace Go.Proofs.Ytnbbhbbhgcipjaa.Am
attribute [local irreducible] W WO WD WL WR WC WOp ob eb kval kvh kH kn0 kmp kvc kvc0 kca kpk kgb kgd kcd kcl kbl kres kmt wseq kseq kblock kreg kdn kdE kbd kcr kdm kdb kdg kdo kfin klp kround ksend kcol RN
theorem f3 (ds : List Decl) (es : List (List Imm)) (z : Nat) (q : Bool) (a p : Term) (ra rp : List Imm) (h : All2 Decl.Enc ds es) (hz : z = 23 ∨ es = []) (hl : es.length ≤ lim) (ha : a.Enc ra) (han : a.nodes ≤ lim) (hp : p.Enc rp) (hpn : p.nodes ≤ lim) :
    PF cx 3 [.sl z false q es, .agg ra, .agg rp] fun y => y = .b true := by
  refine PF.intro (fn := Try.f3) Try.func3 rfl rfl ?_
  have hlim : lim = 1073741824 := rfl
  have ha0 := ha
  have hp0 := hp
  obtain ⟨a0, a1, a2, a3, a4, rfl⟩ := five ha.length
  obtain ⟨p0, p1, p2, p3, p4, rfl⟩ := five hp.length
  simp -implicitDefEqProofs only [↓W_seq, go_sem, ↓reduceIte, Nat.reduceBEq, Nat.reduceAdd, Nat.reduceLeDiff, Nat.reduceEqDiff, reduceCtorEq, Int.reduceToNat, Int.reduceLE, Int.reduceLT, Int.reduceEq, Int.reduceNeg, Nat.reduceLT, Nat.reduceSub, Nat.reduceMul]
  refine WC.pf (f11 ds es z q [a, p] [[a0, a1, a2, a3, a4], [p0, p1, p2, p3, p4]] 5 _ h hz hl ⟨ha0, hp0, trivial⟩ (.inl rfl) (by show 2 ≤ lim; omega)) rfl rfl ?_
  rintro _ ⟨b, rfl, hb⟩
  simp -implicitDefEqProofs only [↓W_seq, go_sem, ↓reduceIte, Nat.reduceBEq, Nat.reduceAdd, Nat.reduceLeDiff, Nat.reduceEqDiff, reduceCtorEq, Int.reduceToNat, Int.reduceLE, Int.reduceLT, Int.reduceEq, Int.reduceNeg, Nat.reduceLT, Nat.reduceSub, Nat.reduceMul]
  refine kcd_not (fun e1 => ?_) (fun e1 => ?_) <;> simp -implicitDefEqProofs only [↓W_seq, go_sem, ↓reduceIte, Nat.reduceBEq, Nat.reduceAdd, Nat.reduceLeDiff, Nat.reduceEqDiff, reduceCtorEq, Int.reduceToNat, Int.reduceLE, Int.reduceLT, Int.reduceEq, Int.reduceNeg, Nat.reduceLT, Nat.reduceSub, Nat.reduceMul, e1]
  rotate_left
  · refine WC.pf f12 rfl rfl ?_
    rintro _ rfl
    simp -implicitDefEqProofs only [↓W_seq, go_sem, ↓reduceIte, Nat.reduceBEq, Nat.reduceAdd, Nat.reduceLeDiff, Nat.reduceEqDiff, reduceCtorEq, Int.reduceToNat, Int.reduceLE, Int.reduceLT, Int.reduceEq, Int.reduceNeg, Nat.reduceLT, Nat.reduceSub, Nat.reduceMul]
    exact ⟨_, rfl, rfl⟩
  have hcn := hb e1
  refine WC.pf (f13 ds es z q a _ h hz hl hcn ha0 han _ p _ hpn (Nat.le_refl _) hp0) rfl rfl ?_
  rintro _ rfl
  simp -implicitDefEqProofs only [↓W_seq, go_sem, ↓reduceIte, Nat.reduceBEq, Nat.reduceAdd, Nat.reduceLeDiff, Nat.reduceEqDiff, reduceCtorEq, Int.reduceToNat, Int.reduceLE, Int.reduceLT, Int.reduceEq, Int.reduceNeg, Nat.reduceLT, Nat.reduceSub, Nat.reduceMul]
  refine WC.pf (f14 ds es z q a _ h hz hl hcn ha0 han _ p _ hpn (Nat.le_refl _) hp0) rfl rfl ?_
  rintro _ rfl
  simp -implicitDefEqProofs only [↓W_seq, go_sem, ↓reduceIte, Nat.reduceBEq, Nat.reduceAdd, Nat.reduceLeDiff, Nat.reduceEqDiff, reduceCtorEq, Int.reduceToNat, Int.reduceLE, Int.reduceLT, Int.reduceEq, Int.reduceNeg, Nat.reduceLT, Nat.reduceSub, Nat.reduceMul]
  refine WC.pf f12 rfl rfl ?_
  rintro _ rfl
  simp -implicitDefEqProofs only [↓W_seq, go_sem, ↓reduceIte, Nat.reduceBEq, Nat.reduceAdd, Nat.reduceLeDiff, Nat.reduceEqDiff, reduceCtorEq, Int.reduceToNat, Int.reduceLE, Int.reduceLT, Int.reduceEq, Int.reduceNeg, Nat.reduceLT, Nat.reduceSub, Nat.reduceMul]
  exact ⟨_, rfl, rfl⟩
end Go.Proofs.Ytnbbhbbhgcipjaa.Am
