/-
  The analysis of a family, on both sides.
-/
import Derived.Test.YtnbbhbbhgcipjaaMj
set_option linter.unusedVariables false
set_option linter.unnecessarySimpa false
set_option linter.unusedSimpArgs false
set_option linter.unusedSectionVars false
namespace Go.Proofs.Ytnbbhbbhgcipjaa.Am
attribute [local irreducible] W WO WD WL WR WC WOp W1 WDf kcall kdfr kpn ob eb kval kvh kH kn0 kmp kvc kvc0 kca kpk kgb kgd kcd kcl kbl kres kmt wseq kseq kblock kreg kdn kdE kbd kcr kdm kdb kdg kdo kfin klp kround ksend kcol RN
theorem f138 (t : Term) (r : List Imm) (h : t.Enc r) : PF cx 138 [.agg r] fun y => y = .b (decide (t.kind = 1 ∨ t.kind = 2)) := by
  refine PF.intro (fn := Try.f138) Try.func138 rfl rfl ?_
  obtain ⟨k, i, n, ls, ks, lz, lt, les, kz, kt, kes, rfl, rfl, hk, hi, hn, hlz, hll, hl, hkz, hkl, hks⟩ := h.inv
  simp -implicitDefEqProofs only [↓W_seq, go_sem, ↓reduceIte, Nat.reduceBEq, Nat.reduceAdd, Nat.reduceLeDiff, Nat.reduceEqDiff, reduceCtorEq, Int.reduceToNat, Int.reduceLE, Int.reduceLT, Int.reduceEq, Int.reduceNeg, Nat.reduceLT, Nat.reduceSub, Nat.reduceMul]
  refine kgb_b (fun e1 => ?_) (fun e1 => ?_) <;> simp -implicitDefEqProofs only [↓W_seq, go_sem, ↓reduceIte, Nat.reduceBEq, Nat.reduceAdd, Nat.reduceLeDiff, Nat.reduceEqDiff, reduceCtorEq, Int.reduceToNat, Int.reduceLE, Int.reduceLT, Int.reduceEq, Int.reduceNeg, Nat.reduceLT, Nat.reduceSub, Nat.reduceMul, e1]
  · have := of_decide_eq_true e1
    exact ⟨_, rfl, by rw [show (Term.mk k i n ls ks).kind = k from rfl, this]; simp⟩
  · have := of_decide_eq_false e1
    exact ⟨_, rfl, by rw [show (Term.mk k i n ls ks).kind = k from rfl]; simp [this]⟩
theorem f117 (ls ms : List Term) (es fs : List (List Imm)) (z z' : Nat) (q q' : Bool) (h : All2 Term.Enc ls es) (hz : z = 5 ∨ es = []) (hl : es.length ≤ lim) (h' : All2 Term.Enc ms fs) (hz' : z' = 5 ∨ fs = []) (hl' : fs.length ≤ lim) {b : Bool} :
    PF cx 117 [.sl z b q es, .sl z' false q' fs] (EqB (ls = ms)) := by
  refine PF.intro (fn := Try.f117) Try.func117 rfl rfl ?_
  simp -implicitDefEqProofs only [↓W_seq, go_sem, ↓reduceIte, Nat.reduceBEq, Nat.reduceAdd, Nat.reduceLeDiff, Nat.reduceEqDiff, reduceCtorEq, Int.reduceToNat, Int.reduceLE, Int.reduceLT, Int.reduceEq, Int.reduceNeg, Nat.reduceLT, Nat.reduceSub, Nat.reduceMul]
  refine kcd_not (fun h2 => ?_) (fun h2 => ?_) <;> simp -implicitDefEqProofs only [↓W_seq, go_sem, ↓reduceIte, Nat.reduceBEq, Nat.reduceAdd, Nat.reduceLeDiff, Nat.reduceEqDiff, reduceCtorEq, Int.reduceToNat, Int.reduceLE, Int.reduceLT, Int.reduceEq, Int.reduceNeg, Nat.reduceLT, Nat.reduceSub, Nat.reduceMul]
  · have hlen : es.length = fs.length := by have := of_decide_eq_true h2; omega
    refine WL.upto es.length (fun j st => (∀ i, i < j → ls[i]? = ms[i]?) ∧ st = ⟨[(0, .im (.sl z b q es)), (1, .im (.sl z' false q' fs)), (5, .im (.i .i64 j))], [], []⟩) ?_ ⟨by omega, rfl⟩
    rintro j st hj ⟨hI, rfl⟩
    simp -implicitDefEqProofs only [↓W_seq, go_sem, ↓reduceIte, Nat.reduceBEq, Nat.reduceAdd, Nat.reduceLeDiff, Nat.reduceEqDiff, reduceCtorEq, Int.reduceToNat, Int.reduceLE, Int.reduceLT, Int.reduceEq, Int.reduceNeg, Nat.reduceLT, Nat.reduceSub, Nat.reduceMul]
    refine kcd_dec (fun h1 => ?_) (fun h1 => ?_)
    · have hj1 : j < es.length := by omega
      have hj2 : j < fs.length := by omega
      obtain ⟨rfl, a, r, ha, hr, hE⟩ := h.at hz hj1
      obtain ⟨rfl, a', r', ha', hr', hE'⟩ := h'.at hz' hj2
      have hr2 := hE.length
      have hr2' := hE'.length
      simp -implicitDefEqProofs only [↓W_seq, go_sem, ↓reduceIte, Nat.reduceBEq, Nat.reduceAdd, Nat.reduceLeDiff, Nat.reduceEqDiff, reduceCtorEq, Int.reduceToNat, Int.reduceLE, Int.reduceLT, Int.reduceEq, Int.reduceNeg, Nat.reduceLT, Nat.reduceSub, Nat.reduceMul, hj1, hr, hj2, hr', sub_all hr2, sub_all hr2']
      refine WC.pf (f58 _ a a' r r' (Nat.le_refl _) hE hE') rfl rfl ?_
      rintro _ ⟨b, rfl, hb⟩
      simp -implicitDefEqProofs only [↓W_seq, go_sem, ↓reduceIte, Nat.reduceBEq, Nat.reduceAdd, Nat.reduceLeDiff, Nat.reduceEqDiff, reduceCtorEq, Int.reduceToNat, Int.reduceLE, Int.reduceLT, Int.reduceEq, Int.reduceNeg, Nat.reduceLT, Nat.reduceSub, Nat.reduceMul]
      refine kcd_not (fun h3 => ?_) (fun h3 => ?_) <;> simp -implicitDefEqProofs only [↓W_seq, go_sem, ↓reduceIte, Nat.reduceBEq, Nat.reduceAdd, Nat.reduceLeDiff, Nat.reduceEqDiff, reduceCtorEq, Int.reduceToNat, Int.reduceLE, Int.reduceLT, Int.reduceEq, Int.reduceNeg, Nat.reduceLT, Nat.reduceSub, Nat.reduceMul, h3, wrap_succ hj1 hl]
      · refine fun i hi => ?_
        rcases Nat.lt_succ_iff_lt_or_eq.1 hi with hi | rfl
        · exact hI i hi
        · rw [ha, ha', hb.1 h3]
      · refine ⟨_, rfl, .f fun e => ?_⟩
        subst e
        rw [ha] at ha'
        cases ha'
        rw [h3] at hb
        exact absurd (hb.2 rfl) (by simp)
    · simp -implicitDefEqProofs only [↓W_seq, go_sem, ↓reduceIte, Nat.reduceBEq, Nat.reduceAdd, Nat.reduceLeDiff, Nat.reduceEqDiff, reduceCtorEq, Int.reduceToNat, Int.reduceLE, Int.reduceLT, Int.reduceEq, Int.reduceNeg, Nat.reduceLT, Nat.reduceSub, Nat.reduceMul]
      refine ⟨_, rfl, .t ?_⟩
      exact ext_get (by rw [h.length, h'.length, hlen]) (by rw [h.length]; intro i hi; exact hI i (by omega))
  · refine ⟨_, rfl, .f fun e => ?_⟩
    subst e
    exact of_decide_eq_false h2 (by rw [← h.length, ← h'.length])
theorem f208 (j : Nat) (hj : j < 8) : PF cx 208 [.i .i64 j, .i .i64 0] fun y => y = .tup [.agg (lvlRow j), .i .i64 0] := by
  refine PF.intro (fn := Try.f208) Try.func208 rfl rfl ?_
  have h1 : decide ((j : Int) < -65536) = false := decide_eq_false (by omega)
  have h2 : decide (8 ≤ (j : Int)) = false := decide_eq_false (by omega)
  simp -implicitDefEqProofs only [↓W_seq, go_sem, ↓reduceIte, Nat.reduceBEq, Nat.reduceAdd, Nat.reduceLeDiff, Nat.reduceEqDiff, reduceCtorEq, Int.reduceToNat, Int.reduceLE, Int.reduceLT, Int.reduceEq, Int.reduceNeg, Nat.reduceLT, Nat.reduceSub, Nat.reduceMul, h1, h2]
  exact ⟨_, rfl, rfl⟩
theorem f194 (n x : Int) (hx : x ≤ 4 * lim) : PV cx 194 [.i .i64 n, .i .i64 x] fun y => TermL y (varsT n x) := by
  refine PV.intro (fn := Try.f194) Try.func194 rfl rfl ?_
  have hlim : lim = 1073741824 := rfl
  have hnil : n < 1 ∨ 4096 < n ∨ x < 0 → ∃ d, view false viewDepth [] (.im (.sl 1 false true [])) = some d ∧ TermL d (varsT n x) := fun h => by
    refine ⟨_, view_im _ _ _ _, [], _, _, rfl, ?_, .inr rfl, by simp⟩
    unfold varsT; rw [if_pos h]; trivial
  simp -implicitDefEqProofs only [↓W_seq, go_sem, ↓reduceIte, Nat.reduceBEq, Nat.reduceAdd, Nat.reduceLeDiff, Nat.reduceEqDiff, reduceCtorEq, Int.reduceToNat, Int.reduceLE, Int.reduceLT, Int.reduceEq, Int.reduceNeg, Nat.reduceLT, Nat.reduceSub, Nat.reduceMul]
  refine kgb_b (fun e1 => ?_) (fun e1 => ?_) <;> simp -implicitDefEqProofs only [↓W_seq, go_sem, ↓reduceIte, Nat.reduceBEq, Nat.reduceAdd, Nat.reduceLeDiff, Nat.reduceEqDiff, reduceCtorEq, Int.reduceToNat, Int.reduceLE, Int.reduceLT, Int.reduceEq, Int.reduceNeg, Nat.reduceLT, Nat.reduceSub, Nat.reduceMul, e1]
  · exact hnil (.inl (of_decide_eq_true e1))
  refine kgb_b (fun e2 => ?_) (fun e2 => ?_) <;> simp -implicitDefEqProofs only [↓W_seq, go_sem, ↓reduceIte, Nat.reduceBEq, Nat.reduceAdd, Nat.reduceLeDiff, Nat.reduceEqDiff, reduceCtorEq, Int.reduceToNat, Int.reduceLE, Int.reduceLT, Int.reduceEq, Int.reduceNeg, Nat.reduceLT, Nat.reduceSub, Nat.reduceMul, e2]
  · exact hnil (.inr (.inl (of_decide_eq_true e2)))
  refine kcd_b (fun e3 => ?_) (fun e3 => ?_) <;> simp -implicitDefEqProofs only [↓W_seq, go_sem, ↓reduceIte, Nat.reduceBEq, Nat.reduceAdd, Nat.reduceLeDiff, Nat.reduceEqDiff, reduceCtorEq, Int.reduceToNat, Int.reduceLE, Int.reduceLT, Int.reduceEq, Int.reduceNeg, Nat.reduceLT, Nat.reduceSub, Nat.reduceMul, e3]
  · exact hnil (.inr (.inr (of_decide_eq_true e3)))
  have e1 := of_decide_eq_false e1
  have e2 := of_decide_eq_false e2
  have e3 := of_decide_eq_false e3
  obtain ⟨m, rfl⟩ : ∃ m : Nat, n = m := ⟨n.toNat, by omega⟩
  have hw0 : IntKind.i64.wrap ((m : Int) - 1) = (m : Int) - 1 - (0 : Nat) := by rw [wrap_id] <;> omega
  have hw2 : IntKind.i64.wrap (x + (m : Int) - 1) = x + m - 1 := by rw [wrap_id] <;> omega
  simp -implicitDefEqProofs only [↓W_seq, go_sem, ↓reduceIte, Nat.reduceBEq, Nat.reduceAdd, Nat.reduceLeDiff, Nat.reduceEqDiff, reduceCtorEq, Int.reduceToNat, Int.reduceLE, Int.reduceLT, Int.reduceEq, Int.reduceNeg, Nat.reduceLT, Nat.reduceSub, Nat.reduceMul, hw0]
  refine WL.upto m (fun j st => ∃ R : List (List Imm), R.length = j ∧ (∀ k : Nat, k < j → R[k]? = some (varRow (x + m - 1 - k))) ∧ st = ⟨[(1, .im (.i .i64 x)), (5, .sl 0 j 0 j), (6, .im (.i .i64 ((m : Int) - 1 - j)))], [], [.row (R.map (·.map .im)) 5 26]⟩) ?_ ⟨[], rfl, by omega, rfl⟩
  rintro j st hj ⟨R, hR, hI, rfl⟩
  · simp -implicitDefEqProofs only [↓W_seq, go_sem, ↓reduceIte, Nat.reduceBEq, Nat.reduceAdd, Nat.reduceLeDiff, Nat.reduceEqDiff, reduceCtorEq, Int.reduceToNat, Int.reduceLE, Int.reduceLT, Int.reduceEq, Int.reduceNeg, Nat.reduceLT, Nat.reduceSub, Nat.reduceMul]
    refine kcd_dec (fun h1 => ?_) (fun h1 => ?_)
    · have hj1 : j < m := by omega
      have hw3 : IntKind.i64.wrap (x + ((m : Int) - 1 - (j : Nat))) = x + m - 1 - (j : Nat) := by rw [wrap_id] <;> omega
      have hw4 : IntKind.i64.wrap ((m : Int) - 1 - (j : Nat) - 1) = (m : Int) - 1 - ((j + 1 : Nat) : Int) := by rw [wrap_id] <;> omega
      have hcap : j + 1 ≤ 4294967296 := by omega
      simp -implicitDefEqProofs only [↓W_seq, go_sem, ↓reduceIte, Nat.reduceBEq, Nat.reduceAdd, Nat.reduceLeDiff, Nat.reduceEqDiff, reduceCtorEq, Int.reduceToNat, Int.reduceLE, Int.reduceLT, Int.reduceEq, Int.reduceNeg, Nat.reduceLT, Nat.reduceSub, Nat.reduceMul, hw3, hw4, List.length_map, hR, hcap]
      refine ⟨hj1, R ++ [varRow (x + m - 1 - j)], by simp [hR], fun k hk => ?_, by simp [varRow]⟩
      by_cases hkj : k = j
      · subst hkj; rw [List.getElem?_append_right (by omega), hR, Nat.sub_self]; rfl
      · rw [List.getElem?_append_left (by omega)]; exact hI k (by omega)
    · simp -implicitDefEqProofs only [↓W_seq, go_sem, ↓reduceIte, Nat.reduceBEq, Nat.reduceAdd, Nat.reduceLeDiff, Nat.reduceEqDiff, reduceCtorEq, Int.reduceToNat, Int.reduceLE, Int.reduceLT, Int.reduceEq, Int.reduceNeg, Nat.reduceLT, Nat.reduceSub, Nat.reduceMul]
      have hjm : j = m := by omega
      subst hjm
      refine ⟨_, view_row (es := R) rfl hR.symm, R, _, _, rfl, ?_, .inl rfl, by omega⟩
      unfold varsT
      rw [if_neg (by omega)]
      refine All2.of_get (by simp [hR]) fun k a b ha hb => ?_
      have hk : k < j := by have := (List.getElem?_eq_some_iff.1 hb).1; omega
      rw [hI k hk] at hb
      cases hb
      rw [List.getElem?_map, List.getElem?_range (by simpa using hk)] at ha
      cases ha
      exact varRow_enc ⟨by omega, by omega⟩
def LvlL (y : Imm) (ls : List Level) : Prop := ∃ es z t, y = .sl z false t es ∧ All2 Level.Enc ls es ∧ (z = 2 ∨ es = []) ∧ es.length ≤ lim
theorem f193 (n : Int) (hn : n ≤ 8) : PV cx 193 [.i .i64 n] fun y => LvlL y ((List.range n.toNat).map fun (i : Nat) => ⟨0, [((i : Int), 0)]⟩) := by
  refine PV.intro (fn := Try.f193) Try.func193 rfl rfl ?_
  have hlim : lim = 1073741824 := rfl
  simp -implicitDefEqProofs only [↓W_seq, go_sem, ↓reduceIte, Nat.reduceBEq, Nat.reduceAdd, Nat.reduceLeDiff, Nat.reduceEqDiff, reduceCtorEq, Int.reduceToNat, Int.reduceLE, Int.reduceLT, Int.reduceEq, Int.reduceNeg, Nat.reduceLT, Nat.reduceSub, Nat.reduceMul]
  refine WL.upto n.toNat (fun j st => ∃ G : AHeap, st = ⟨[(0, .im (.i .i64 n)), (3, .sl 0 j 0 j), (4, .im (.i .i64 j))], [], .row (((List.range j).map lvlRow).map (·.map .im)) 2 151 :: G⟩) ?_ ⟨[], rfl⟩
  rintro j st hj ⟨G, rfl⟩
  simp -implicitDefEqProofs only [↓W_seq, go_sem, ↓reduceIte, Nat.reduceBEq, Nat.reduceAdd, Nat.reduceLeDiff, Nat.reduceEqDiff, reduceCtorEq, Int.reduceToNat, Int.reduceLE, Int.reduceLT, Int.reduceEq, Int.reduceNeg, Nat.reduceLT, Nat.reduceSub, Nat.reduceMul]
  refine kcd_dec (fun h1 => ?_) (fun h1 => ?_)
  · have hj1 : j < n.toNat := by omega
    simp -implicitDefEqProofs only [↓W_seq, go_sem, ↓reduceIte, Nat.reduceBEq, Nat.reduceAdd, Nat.reduceLeDiff, Nat.reduceEqDiff, reduceCtorEq, Int.reduceToNat, Int.reduceLE, Int.reduceLT, Int.reduceEq, Int.reduceNeg, Nat.reduceLT, Nat.reduceSub, Nat.reduceMul]
    refine WC.pf (f208 j (by omega)) rfl rfl ?_
    rintro _ rfl
    have hcap : j + 1 ≤ 4294967296 := by omega
    simp -implicitDefEqProofs only [↓W_seq, go_sem, ↓reduceIte, Nat.reduceBEq, Nat.reduceAdd, Nat.reduceLeDiff, Nat.reduceEqDiff, reduceCtorEq, Int.reduceToNat, Int.reduceLE, Int.reduceLT, Int.reduceEq, Int.reduceNeg, Nat.reduceLT, Nat.reduceSub, Nat.reduceMul, wrap_succ hj1 (by omega), List.length_map, List.length_range, hcap, lvlRow]
    exact ⟨hj1, _, by simp [List.range_succ, lvlRow]; rfl⟩
  · simp -implicitDefEqProofs only [↓W_seq, go_sem, ↓reduceIte, Nat.reduceBEq, Nat.reduceAdd, Nat.reduceLeDiff, Nat.reduceEqDiff, reduceCtorEq, Int.reduceToNat, Int.reduceLE, Int.reduceLT, Int.reduceEq, Int.reduceNeg, Nat.reduceLT, Nat.reduceSub, Nat.reduceMul]
    have hjn : j = n.toNat := by omega
    subst hjn
    exact ⟨_, view_row (es := (List.range n.toNat).map lvlRow) rfl (by simp), _, _, _, rfl, lvls_enc (by omega), .inl rfl, by simp; omega⟩
theorem f163 (s : ByteArray) (n : Int) (hs : s.size ≤ lim) (hn : n ≤ 8) : PF cx 163 [.s s, .i .i64 n] fun y => ∃ r, y = .agg r ∧ (ownT s n).Enc r := by
  refine PF.intro (fn := Try.f163) Try.func163 rfl rfl ?_
  simp -implicitDefEqProofs only [↓W_seq, go_sem, ↓reduceIte, Nat.reduceBEq, Nat.reduceAdd, Nat.reduceLeDiff, Nat.reduceEqDiff, reduceCtorEq, Int.reduceToNat, Int.reduceLE, Int.reduceLT, Int.reduceEq, Int.reduceNeg, Nat.reduceLT, Nat.reduceSub, Nat.reduceMul]
  refine WC.pv (f193 n hn) rfl rfl rfl ?_
  rintro _ ⟨es, z, t, rfl, he, hz, hl⟩
  simp -implicitDefEqProofs only [↓W_seq, go_sem, ↓reduceIte, Nat.reduceBEq, Nat.reduceAdd, Nat.reduceLeDiff, Nat.reduceEqDiff, reduceCtorEq, Int.reduceToNat, Int.reduceLE, Int.reduceLT, Int.reduceEq, Int.reduceNeg, Nat.reduceLT, Nat.reduceSub, Nat.reduceMul]
  refine ⟨_, rfl, _, rfl, ?_⟩
  unfold ownT Term.Enc
  exact ⟨_, _, _, _, _, _, rfl, ⟨by omega, by omega⟩, ⟨by omega, by omega⟩, hs, hz, hl, he, .inr rfl, Nat.zero_le _, trivial⟩
theorem f164 (own : Term) (or : List Imm) (t : Term) (r : List Imm) (p n : Nat) (from_ : Int) (ho : own.Enc or) (h : t.Enc r) (hn : t.nodes ≤ lim) (hf : from_ ≤ 4 * lim) (hp : p ≤ lim) (hnl : n ≤ lim) : PV cx 164 [.agg or, .agg r, .i .i64 p, .i .i64 from_, .i .i64 n] (ResR (resultT own p n t from_)) := by
  refine PV.intro (fn := Try.f164) Try.func164 rfl rfl ?_
  have hlim : lim = 1073741824 := rfl
  have hr5 := h.length
  have ho5 := ho.length
  have hsl := Term.spine_len t
  obtain ⟨o0, o1, o2, o3, o4, rfl⟩ : ∃ a b c d e, or = [a, b, c, d, e] := by
    rcases or with _ | ⟨a, _ | ⟨b, _ | ⟨c, _ | ⟨d, _ | ⟨e, _ | ⟨_, _⟩⟩⟩⟩⟩⟩ <;> simp at ho5
    exact ⟨a, b, c, d, e, rfl⟩
  obtain ⟨r0, r1, r2, r3, r4, rfl⟩ : ∃ a b c d e, r = [a, b, c, d, e] := by
    rcases r with _ | ⟨a, _ | ⟨b, _ | ⟨c, _ | ⟨d, _ | ⟨e, _ | ⟨_, _⟩⟩⟩⟩⟩⟩ <;> simp at hr5
    exact ⟨a, b, c, d, e, rfl⟩
  simp -implicitDefEqProofs only [↓W_seq, go_sem, ↓reduceIte, Nat.reduceBEq, Nat.reduceAdd, Nat.reduceLeDiff, Nat.reduceEqDiff, reduceCtorEq, Int.reduceToNat, Int.reduceLE, Int.reduceLT, Int.reduceEq, Int.reduceNeg, Nat.reduceLT, Nat.reduceSub, Nat.reduceMul]
  refine WC.po (f15 _ t _ hn (Nat.le_refl _) h) rfl rfl rfl ?_
  rintro _ aes _ _ ⟨s, rfl, hs, hae, rfl, rfl⟩
  have hs5 := hs.length
  obtain ⟨s0, s1, s2, s3, s4, rfl⟩ : ∃ a b c d e, s = [a, b, c, d, e] := by
    rcases s with _ | ⟨a, _ | ⟨b, _ | ⟨c, _ | ⟨d, _ | ⟨e, _ | ⟨_, _⟩⟩⟩⟩⟩⟩ <;> simp at hs5
    exact ⟨a, b, c, d, e, rfl⟩
  simp -implicitDefEqProofs only [↓W_seq, go_sem, ↓reduceIte, Nat.reduceBEq, Nat.reduceAdd, Nat.reduceLeDiff, Nat.reduceEqDiff, reduceCtorEq, Int.reduceToNat, Int.reduceLE, Int.reduceLT, Int.reduceEq, Int.reduceNeg, Nat.reduceLT, Nat.reduceSub, Nat.reduceMul]
  refine WC.pf (f58 _ _ _ _ _ (Nat.le_refl _) hs ho) rfl rfl ?_
  rintro _ ⟨b, rfl, hb⟩
  have hw : IntKind.i64.wrap ((p : Int) + n) = (p : Int) + n := by rw [wrap_id] <;> omega
  simp -implicitDefEqProofs only [↓W_seq, go_sem, ↓reduceIte, Nat.reduceBEq, Nat.reduceAdd, Nat.reduceLeDiff, Nat.reduceEqDiff, reduceCtorEq, Int.reduceToNat, Int.reduceLE, Int.reduceLT, Int.reduceEq, Int.reduceNeg, Nat.reduceLT, Nat.reduceSub, Nat.reduceMul, hw]
  refine kdb_not (fun e1 => ?_) (fun e1 => ?_) <;> simp -implicitDefEqProofs only [↓W_seq, go_sem, ↓reduceIte, Nat.reduceBEq, Nat.reduceAdd, Nat.reduceLeDiff, Nat.reduceEqDiff, reduceCtorEq, Int.reduceToNat, Int.reduceLE, Int.reduceLT, Int.reduceEq, Int.reduceNeg, Nat.reduceLT, Nat.reduceSub, Nat.reduceMul, e1, hw]
  rotate_left
  · have : resultT own p n t from_ = none := by
      unfold resultT; rw [if_neg]; rintro ⟨_, h, _⟩; rw [e1] at hb; exact absurd (hb.2 h) (by simp)
    rw [this]; exact ⟨_, view_im _ _ _ _, _, _, rfl, rfl⟩
  refine kdb_not (fun e2 => ?_) (fun e2 => ?_) <;> simp -implicitDefEqProofs only [↓W_seq, go_sem, ↓reduceIte, Nat.reduceBEq, Nat.reduceAdd, Nat.reduceLeDiff, Nat.reduceEqDiff, reduceCtorEq, Int.reduceToNat, Int.reduceLE, Int.reduceLT, Int.reduceEq, Int.reduceNeg, Nat.reduceLT, Nat.reduceSub, Nat.reduceMul, e2, hw]
  rotate_left
  · have : resultT own p n t from_ = none := by
      unfold resultT; rw [if_neg]; rintro ⟨h, _⟩; exact of_decide_eq_false e2 (by rw [hae.length] at h; omega)
    rw [this]; exact ⟨_, view_im _ _ _ _, _, _, rfl, rfl⟩
  have e2 : aes.length = p + n := by have := of_decide_eq_true e2; omega
  have hle : p ≤ aes.length := by omega
  simp -implicitDefEqProofs only [↓W_seq, go_sem, ↓reduceIte, Nat.reduceBEq, Nat.reduceAdd, Nat.reduceLeDiff, Nat.reduceEqDiff, reduceCtorEq, Int.reduceToNat, Int.reduceLE, Int.reduceLT, Int.reduceEq, Int.reduceNeg, Nat.reduceLT, Nat.reduceSub, Nat.reduceMul, hle, List.length_map]
  refine WC.pv (f194 p from_ hf) rfl rfl rfl ?_
  rintro _ ⟨ves, vz, vt, rfl, hve, hvz, hvl⟩
  have hvw : view true viewDepth [.row (List.map (fun x => List.map AV.im x) aes) 5 26, .row [[AV.im s0, AV.im s1, AV.im s2, AV.im s3, AV.im s4]] 5 26] (.sl 0 aes.length 0 p) = some (.sl 5 true false ((aes.drop 0).take p)) := view_part (k := 5) rfl rfl (by omega)
  simp -implicitDefEqProofs only [↓W_seq, go_sem, ↓reduceIte, Nat.reduceBEq, Nat.reduceAdd, Nat.reduceLeDiff, Nat.reduceEqDiff, reduceCtorEq, Int.reduceToNat, Int.reduceLE, Int.reduceLT, Int.reduceEq, Int.reduceNeg, Nat.reduceLT, Nat.reduceSub, Nat.reduceMul, vwO_cons, hvw, view_im]
  refine WC.vpf (f117 _ _ _ _ 5 vz false vt (hae.take p) (.inl rfl) (by simp only [List.length_take]; omega) hve hvz hvl (b := true)) (by unfold views; simp only [List.mapM_cons, List.mapM_nil, hvw, view_im]; rfl) rfl (by rintro _ ⟨_, rfl, _⟩; rfl) ?_
  rintro _ ⟨c, rfl, hc⟩
  simp -implicitDefEqProofs only [↓W_seq, go_sem, ↓reduceIte, Nat.reduceBEq, Nat.reduceAdd, Nat.reduceLeDiff, Nat.reduceEqDiff, reduceCtorEq, Int.reduceToNat, Int.reduceLE, Int.reduceLT, Int.reduceEq, Int.reduceNeg, Nat.reduceLT, Nat.reduceSub, Nat.reduceMul]
  refine kcd_not (fun e3 => ?_) (fun e3 => ?_) <;> simp -implicitDefEqProofs only [↓W_seq, go_sem, ↓reduceIte, Nat.reduceBEq, Nat.reduceAdd, Nat.reduceLeDiff, Nat.reduceEqDiff, reduceCtorEq, Int.reduceToNat, Int.reduceLE, Int.reduceLT, Int.reduceEq, Int.reduceNeg, Nat.reduceLT, Nat.reduceSub, Nat.reduceMul, e3, hle, List.length_map, Nat.le_refl]
  rotate_left
  · have : resultT own p n t from_ = none := by
      unfold resultT; rw [if_neg]; rintro ⟨_, _, h⟩; rw [e3] at hc; exact absurd (hc.2 h) (by simp)
    rw [this]; exact ⟨_, view_im _ _ _ _, _, _, rfl, rfl⟩
  · have : resultT own p n t from_ = some (t.spine.2.drop p) := by
      unfold resultT; rw [if_pos ⟨by rw [hae.length, e2], hb.1 e1, hc.1 e3⟩]
    rw [this]
    have hv2 : ∀ X, view false 5 (.row (List.map (fun x => List.map AV.im x) aes) 5 26 :: X) (.sl 0 aes.length p (aes.length - p)) = some (.sl 5 false false ((aes.drop p).take (aes.length - p))) := fun X => view_part (k := 4) rfl rfl (by omega)
    refine ⟨_, view_tup2 (hv2 _) (view_im _ _ _ _), _, _, rfl, rfl, _, _, _, rfl, ?_, .inl rfl, by simp only [List.length_take, List.length_drop]; omega⟩
    rw [List.take_of_length_le (by simp)]
    exact hae.drop _
@[go_sem] theorem sc139_3 : cx.sched 139 3 = [0, 1, 2, 3, 4, 5, 6, 7] := by kernel_rfl
theorem five {α : Type} {l : List α} (h : l.length = 5) : ∃ a b c d e, l = [a, b, c, d, e] := by
  rcases l with _ | ⟨a, _ | ⟨b, _ | ⟨c, _ | ⟨d, _ | ⟨e, _ | ⟨_, _⟩⟩⟩⟩⟩⟩ <;> simp at h
  exact ⟨a, b, c, d, e, rfl⟩
theorem view_agg4 {k : Nat} {q : Bool} {G : AHeap} {a b c d : AV} {x y z u : Imm} (ha : view q k G a = some x) (hb : view q k G b = some y) (hc : view q k G c = some z) (hd : view q k G d = some u) : view q (k + 1) G (.agg [a, b, c, d]) = some (.agg [x, y, z, u]) := by
  unfold view
  simp only [List.mapM_cons, List.mapM_nil, ha, hb, hc, hd]
  rfl
theorem TermL.clean {y : Imm} {ts : List Term} (h : TermL y ts) : y.clean = true := by
  obtain ⟨es, z, t, rfl, h, _⟩ := h
  simp [Imm.clean, terms_clean h]
theorem RecEnc.clean {f : RecF} {r : List Imm} (h : RecEnc f r) : Imm.cleanL r = true := by
  obtain ⟨a, b, rfl, ha, hb⟩ := h
  simp [Imm.cleanL, Imm.clean, ha.clean, hb.clean]
theorem RecL.clean {y : Imm} {fs : List RecF} (h : RecL y fs) : y.clean = true := by
  obtain ⟨es, z, t, rfl, h, _⟩ := h
  simp [Imm.clean, cleanLL_of h fun _ _ _ h => RecEnc.clean h]
def CtorR2 (s : ByteArray) (o : Option CtorF) (y : Imm) : Prop := CtorR s o y ∧ y.clean = true
theorem CtorEnc.clean {s : ByteArray} {x : CtorF} {r : List Imm} (h : CtorEnc s x r) : Imm.cleanL r = true := by
  obtain ⟨a, b, c, rfl, ha, hb, hc⟩ := h
  simp [Imm.cleanL, Imm.clean, ha.clean, hb.clean, hc.clean]
theorem f139 (s : ByteArray) (n : Int) (ps : List Term) (pz : Nat) (pt : Bool) (pes : List (List Imm)) (iz : Nat) (it : Bool) (ies : List (List Imm)) (y0 y1 y2 y3 y4 cc : Imm) (c : Ctor) (cr : List Imm) (hs : s.size ≤ lim) (hn : n ≤ 8)
    (hps : All2 Term.Enc ps pes) (hpz : pz = 5 ∨ pes = []) (hpl : pes.length ≤ lim) (hil : ies.length ≤ lim) (hc : c.Enc cr) :
    PV cx 139 [.agg [.s s, .i .i64 n, .sl pz false pt pes, .sl iz false it ies, y0, y1, y2, y3, y4, cc], .agg cr] (CtorR2 c.name (ctorT (ownT s n) ps ies.length c)) := by
  refine PV.intro (fn := Try.f139) Try.func139 rfl rfl ?_
  have hlim : lim = 1073741824 := rfl
  obtain ⟨x0, x1, x2, x3, x4, rfl, hx, hX, hXn⟩ := hc
  have hpe := hps.length
  simp -implicitDefEqProofs only [↓W_seq, go_sem, ↓reduceIte, Nat.reduceBEq, Nat.reduceAdd, Nat.reduceLeDiff, Nat.reduceEqDiff, reduceCtorEq, Int.reduceToNat, Int.reduceLE, Int.reduceLT, Int.reduceEq, Int.reduceNeg, Nat.reduceLT, Nat.reduceSub, Nat.reduceMul]
  refine WC.pf (f163 s n hs hn) rfl rfl ?_
  rintro _ ⟨ow, rfl, how⟩
  obtain ⟨w0, w1, w2, w3, w4, rfl⟩ := five how.length
  simp -implicitDefEqProofs only [↓W_seq, go_sem, ↓reduceIte, Nat.reduceBEq, Nat.reduceAdd, Nat.reduceLeDiff, Nat.reduceEqDiff, reduceCtorEq, Int.reduceToNat, Int.reduceLE, Int.reduceLT, Int.reduceEq, Int.reduceNeg, Nat.reduceLT, Nat.reduceSub, Nat.reduceMul]
  refine WC.pv (f137 _ _ hX hXn) rfl rfl rfl ?_
  rintro _ ⟨_, hd, rfl, ⟨aes, az, at_, rfl, hae, haz, hal⟩, hhd⟩
  obtain ⟨d0, d1, d2, d3, d4, rfl⟩ := five hhd.length
  have hz5 : (5 = az ∨ aes.isEmpty = true) = True := eq_true (haz.elim (fun h => .inl h.symm) fun h => .inr (by rw [h]; rfl))
  simp -implicitDefEqProofs only [↓W_seq, go_sem, ↓reduceIte, Nat.reduceBEq, Nat.reduceAdd, Nat.reduceLeDiff, Nat.reduceEqDiff, reduceCtorEq, Int.reduceToNat, Int.reduceLE, Int.reduceLT, Int.reduceEq, Int.reduceNeg, Nat.reduceLT, Nat.reduceSub, Nat.reduceMul]
  refine kdb_b (fun e1 => ?_) (fun e1 => ?_) <;> simp -implicitDefEqProofs only [↓W_seq, go_sem, ↓reduceIte, Nat.reduceBEq, Nat.reduceAdd, Nat.reduceLeDiff, Nat.reduceEqDiff, reduceCtorEq, Int.reduceToNat, Int.reduceLE, Int.reduceLT, Int.reduceEq, Int.reduceNeg, Nat.reduceLT, Nat.reduceSub, Nat.reduceMul, e1]
  · have : ctorT (ownT s n) ps ies.length c = none := by
      unfold ctorT; rw [if_neg]; rintro ⟨h, _⟩; have := of_decide_eq_true e1; rw [hae.length, hpe] at h; omega
    rw [this]; exact ⟨_, view_im _ _ _ _, ⟨_, _, rfl, rfl, rfl⟩, rfl⟩
  have hle : pes.length ≤ aes.length := by have := of_decide_eq_false e1; omega
  simp -implicitDefEqProofs only [↓W_seq, go_sem, ↓reduceIte, Nat.reduceBEq, Nat.reduceAdd, Nat.reduceLeDiff, Nat.reduceEqDiff, reduceCtorEq, Int.reduceToNat, Int.reduceLE, Int.reduceLT, Int.reduceEq, Int.reduceNeg, Nat.reduceLT, Nat.reduceSub, Nat.reduceMul, hle, hz5]
  refine WC.pf (f117 _ _ _ _ 5 pz _ pt (hae.take pes.length) (.inl rfl) (by simp only [List.length_take]; omega) hps hpz hpl) rfl rfl ?_
  rintro _ ⟨b, rfl, hb⟩
  simp -implicitDefEqProofs only [↓W_seq, go_sem, ↓reduceIte, Nat.reduceBEq, Nat.reduceAdd, Nat.reduceLeDiff, Nat.reduceEqDiff, reduceCtorEq, Int.reduceToNat, Int.reduceLE, Int.reduceLT, Int.reduceEq, Int.reduceNeg, Nat.reduceLT, Nat.reduceSub, Nat.reduceMul]
  refine kcd_not (fun e2 => ?_) (fun e2 => ?_) <;> simp -implicitDefEqProofs only [↓W_seq, go_sem, ↓reduceIte, Nat.reduceBEq, Nat.reduceAdd, Nat.reduceLeDiff, Nat.reduceEqDiff, reduceCtorEq, Int.reduceToNat, Int.reduceLE, Int.reduceLT, Int.reduceEq, Int.reduceNeg, Nat.reduceLT, Nat.reduceSub, Nat.reduceMul, e2, hle, hz5, Nat.le_refl]
  rotate_left
  · have : ctorT (ownT s n) ps ies.length c = none := by
      unfold ctorT; rw [if_neg]; rintro ⟨_, h⟩; rw [e2] at hb; rw [hpe] at h; exact absurd (hb.2 h) (by simp)
    rw [this]; exact ⟨_, view_im _ _ _ _, ⟨_, _, rfl, rfl, rfl⟩, rfl⟩
  have htk : List.take (aes.length - pes.length) (List.drop pes.length aes) = List.drop pes.length aes := List.take_of_length_le (by simp)
  have hdl : (List.drop pes.length aes).length ≤ lim := by rw [List.length_drop]; omega
  have hlen : ((List.drop pes.length aes).length : Int) = (c.type.all.1.length : Int) - ps.length := by rw [List.length_drop, hae.length, hpe]; omega
  simp only [htk]
  refine WC.pv (f164 _ _ _ _ pes.length ies.length _ how hhd (Nat.le_trans (Term.all_end _) hXn) (by omega) hpl hil) rfl rfl rfl ?_
  rintro _ ⟨x, b2, rfl, hrs⟩
  have hct : ctorT (ownT s n) ps ies.length c = (resultT (ownT s n) pes.length ies.length c.type.all.2 ((List.drop pes.length aes).length : Nat)).map fun res => (c.type.all.1.drop ps.length, recT (ownT s n) ps.length ies.length 0 (c.type.all.1.drop ps.length), res) := by
    unfold ctorT; rw [if_pos ⟨by rw [hae.length, hpe]; exact hle, by rw [hpe]; exact hb.1 e2⟩, hlen, hpe]
  rw [hct]
  cases hrt : resultT (ownT s n) pes.length ies.length c.type.all.2 ((List.drop pes.length aes).length : Nat) with
  | none =>
    rw [hrt] at hrs
    have hb : b2 = false := hrs
    subst hb
    simp -implicitDefEqProofs only [↓W_seq, go_sem, ↓reduceIte, Nat.reduceBEq, Nat.reduceAdd, Nat.reduceLeDiff, Nat.reduceEqDiff, reduceCtorEq, Int.reduceToNat, Int.reduceLE, Int.reduceLT, Int.reduceEq, Int.reduceNeg, Nat.reduceLT, Nat.reduceSub, Nat.reduceMul]
    exact ⟨_, view_im _ _ _ _, ⟨_, _, rfl, rfl, rfl⟩, rfl⟩
  | some l =>
    rw [hrt] at hrs
    obtain ⟨hb, xes, xz, xt, rfl, hxe, hxz, hxl⟩ := hrs
    subst hb
    have hf : All2 Term.Enc (c.type.all.1.drop pes.length) (List.drop pes.length aes) := hae.drop _
    simp -implicitDefEqProofs only [↓W_seq, go_sem, ↓reduceIte, Nat.reduceBEq, Nat.reduceAdd, Nat.reduceLeDiff, Nat.reduceEqDiff, reduceCtorEq, Int.reduceToNat, Int.reduceLE, Int.reduceLT, Int.reduceEq, Int.reduceNeg, Nat.reduceLT, Nat.reduceSub, Nat.reduceMul]
    refine WL.upto (List.drop pes.length aes).length (fun j st => ∃ (done : List RecF) (res : List (List Imm)) (recv : AV) (G : AHeap), recT (ownT s n) pes.length ies.length 0 (c.type.all.1.drop pes.length) = done ++ recT (ownT s n) pes.length ies.length j ((c.type.all.1.drop pes.length).drop j) ∧ All2 RecEnc done res ∧ res.length ≤ j ∧
      ((res = [] ∧ recv = .im (.sl 1 false true [])) ∨ ∃ G1 G2, recv = .sl (G1.length + 4) res.length 0 res.length ∧ G = G1 ++ .row (res.map (·.map .im)) 3 168 :: G2) ∧
      st = ⟨[(4, .ptr 0 1 0 0), (6, .ptr 1 1 0 0), (9, .im (.i .i64 pes.length)), (10, .im (.i .i64 ies.length)), (11, .ptr 3 1 0 0), (14, .im (.i .i64 j))], [],
        .row [[.im (.s ByteArray.empty), .im (.sl 1 false true []), .im (.sl 1 false true []), .im (.sl 1 false true [])]] 4 166 :: .row [[.im w0, .im w1, .im w2, .im w3, .im w4]] 5 26 :: .row [[.im d0, .im d1, .im d2, .im d3, .im d4]] 5 26 ::
        .row [[.im (.s c.name), .im (.sl 5 false (at_ && true) (List.drop pes.length aes)), recv, .im (.sl xz false xt xes)]] 4 166 :: G⟩) ?_ ⟨[], [], _, [], rfl, trivial, Nat.le_refl _, .inl ⟨rfl, rfl⟩, rfl⟩
    rintro j st hj ⟨done, res, recv, G, hdone, hres, hrl, hG, rfl⟩
    simp -implicitDefEqProofs only [↓W_seq, go_sem, ↓reduceIte, Nat.reduceBEq, Nat.reduceAdd, Nat.reduceLeDiff, Nat.reduceEqDiff, reduceCtorEq, Int.reduceToNat, Int.reduceLE, Int.reduceLT, Int.reduceEq, Int.reduceNeg, Nat.reduceLT, Nat.reduceSub, Nat.reduceMul]
    refine kcd_dec (fun h1 => ?_) (fun h1 => ?_)
    · have hj1 : j < (List.drop pes.length aes).length := by omega
      obtain ⟨_, a, r, ha, hr, hE⟩ := hf.at (z := 5) (c := 5) (.inl rfl) hj1
      have han : a.nodes ≤ lim := by have := Term.all_fields c.type a (List.mem_of_mem_drop (List.mem_of_getElem? ha)); omega
      have hE0 := hE
      obtain ⟨k2, i2, n2, ls2, ks2, lz2, lt2, les2, kz2, kt2, kes2, rfl, rfl, hk2, hi2, hn2, hlz2, hll2, hl2, hkz2, hkl2, hks2⟩ := hE.inv
      rw [drop_cons ha, recT] at hdone
      simp -implicitDefEqProofs only [↓W_seq, go_sem, ↓reduceIte, Nat.reduceBEq, Nat.reduceAdd, Nat.reduceLeDiff, Nat.reduceEqDiff, reduceCtorEq, Int.reduceToNat, Int.reduceLE, Int.reduceLT, Int.reduceEq, Int.reduceNeg, Nat.reduceLT, Nat.reduceSub, Nat.reduceMul, hj1, hr]
      refine WC.pv (f137 _ _ hE0 han) rfl rfl rfl ?_
      rintro _ ⟨_, hd, rfl, ⟨bes, bz, bt, rfl, hbe, hbz, hbl⟩, hhd2⟩
      obtain ⟨e0, e1, e2, e3, e4, rfl⟩ := five hhd2.length
      have hw : IntKind.i64.wrap ((j : Int) + bes.length) = (j : Int) + bes.length := by rw [wrap_id] <;> omega
      simp -implicitDefEqProofs only [↓W_seq, go_sem, ↓reduceIte, Nat.reduceBEq, Nat.reduceAdd, Nat.reduceLeDiff, Nat.reduceEqDiff, reduceCtorEq, Int.reduceToNat, Int.reduceLE, Int.reduceLT, Int.reduceEq, Int.reduceNeg, Nat.reduceLT, Nat.reduceSub, Nat.reduceMul, hw]
      refine WC.pv (f164 _ _ _ _ pes.length ies.length _ how hhd2 (Nat.le_trans (Term.all_end _) han) (by omega) hpl hil) rfl rfl rfl ?_
      rintro _ ⟨x, b3, rfl, hrs⟩
      rw [hbe.length] at hdone
      cases hrt : resultT (ownT s n) pes.length ies.length (Term.mk k2 i2 n2 ls2 ks2).all.2 ((j : Int) + bes.length) with
      | none =>
        rw [hrt] at hrs hdone
        have hb : b3 = false := hrs
        subst hb
        simp -implicitDefEqProofs only [↓W_seq, go_sem, ↓reduceIte, Nat.reduceBEq, Nat.reduceAdd, Nat.reduceLeDiff, Nat.reduceEqDiff, reduceCtorEq, Int.reduceToNat, Int.reduceLE, Int.reduceLT, Int.reduceEq, Int.reduceNeg, Nat.reduceLT, Nat.reduceSub, Nat.reduceMul, wrap_succ hj1 hdl]
        refine ⟨done, res, recv, _, hdone, hres, by omega, ?_, rfl⟩
        rcases hG with h | ⟨G1, G2, hr1, rfl⟩
        · exact .inl h
        · exact .inr ⟨G1, _, hr1, by rw [List.append_assoc]; rfl⟩
      | some m =>
        rw [hrt] at hrs hdone
        obtain ⟨hb, ves, vz, vt, rfl, hve, hvz, hvl⟩ := hrs
        subst hb
        have hcap : res.length + 1 ≤ 4294967296 := by omega
        rcases hG with ⟨rfl, rfl⟩ | ⟨G1, G2, rfl, rfl⟩
        · simp -implicitDefEqProofs only [↓W_seq, go_sem, ↓reduceIte, Nat.reduceBEq, Nat.reduceAdd, Nat.reduceLeDiff, Nat.reduceEqDiff, reduceCtorEq, Int.reduceToNat, Int.reduceLE, Int.reduceLT, Int.reduceEq, Int.reduceNeg, Nat.reduceLT, Nat.reduceSub, Nat.reduceMul, wrap_succ hj1 hdl]
          refine ⟨done ++ [(j, (Term.mk k2 i2 n2 ls2 ks2).all.1, m)], [[.i .i64 j, .sl bz false bt bes, .sl vz false vt ves]], _, _, by rw [hdone, List.append_assoc]; rfl, hres.snoc ⟨_, _, rfl, ⟨_, _, _, rfl, hbe, hbz, hbl⟩, ⟨_, _, _, rfl, hve, hvz, hvl⟩⟩, by show 1 ≤ j + 1; omega, .inr ⟨G ++ [.row [[.im e0, .im e1, .im e2, .im e3, .im e4]] 5 26], [], rfl, rfl⟩, ?_⟩
          simp only [List.append_assoc, List.cons_append, List.nil_append, List.length_append, List.length_cons, List.length_nil]
          rfl
        · simp -implicitDefEqProofs only [↓W_seq, go_sem, ↓reduceIte, Nat.reduceBEq, Nat.reduceAdd, Nat.reduceLeDiff, Nat.reduceEqDiff, reduceCtorEq, Int.reduceToNat, Int.reduceLE, Int.reduceLT, Int.reduceEq, Int.reduceNeg, Nat.reduceLT, Nat.reduceSub, Nat.reduceMul, wrap_succ hj1 hdl, List.length_map, hcap]
          refine ⟨done ++ [(j, (Term.mk k2 i2 n2 ls2 ks2).all.1, m)], res ++ [[.i .i64 j, .sl bz false bt bes, .sl vz false vt ves]], _, _, by rw [hdone, List.append_assoc]; rfl, hres.snoc ⟨_, _, rfl, ⟨_, _, _, rfl, hbe, hbz, hbl⟩, ⟨_, _, _, rfl, hve, hvz, hvl⟩⟩, by rw [List.length_append]; show res.length + 1 ≤ j + 1; omega, .inr ⟨G1, G2 ++ [.row [[.im e0, .im e1, .im e2, .im e3, .im e4]] 5 26], rfl, rfl⟩, ?_⟩
          rw [List.length_append, List.map_append]; rfl
    · simp -implicitDefEqProofs only [↓W_seq, go_sem, ↓reduceIte, Nat.reduceBEq, Nat.reduceAdd, Nat.reduceLeDiff, Nat.reduceEqDiff, reduceCtorEq, Int.reduceToNat, Int.reduceLE, Int.reduceLT, Int.reduceEq, Int.reduceNeg, Nat.reduceLT, Nat.reduceSub, Nat.reduceMul]
      have hje : j = (List.drop pes.length aes).length := by omega
      have hdn : (c.type.all.1.drop pes.length).drop j = [] := List.drop_eq_nil_of_le (by rw [hf.length]; omega)
      rw [hdn, recT, List.append_nil] at hdone
      have e : List.drop ps.length c.type.all.1 = List.drop pes.length c.type.all.1 := by rw [hpe]
      have hrl2 : res.length ≤ lim := by omega
      have fin : ∀ b, RecL b done → CtorR2 c.name (some (List.drop ps.length c.type.all.1, recT (ownT s n) ps.length ies.length 0 (List.drop ps.length c.type.all.1), l)) (.tup [.agg [.s c.name, .sl 5 false (at_ && true) (List.drop pes.length aes), b, .sl xz false xt xes], .b true]) := fun b hb => by
        refine ⟨?_, by simp [Imm.clean, Imm.cleanL, hb.clean, terms_clean hf, terms_clean hxe]⟩
        refine ⟨_, _, rfl, rfl, rfl, _, _, _, rfl, ?_, ?_, ?_⟩
        · rw [e]; exact ⟨_, _, _, rfl, hf, .inl rfl, hdl⟩
        · rw [e, hpe, hdone]; exact hb
        · exact ⟨_, _, _, rfl, hxe, hxz, hxl⟩
      rcases hG with ⟨rfl, rfl⟩ | ⟨G1, G2, rfl, rfl⟩
      · simp -implicitDefEqProofs only [↓W_seq, go_sem, ↓reduceIte, Nat.reduceBEq, Nat.reduceAdd, Nat.reduceLeDiff, Nat.reduceEqDiff, reduceCtorEq, Int.reduceToNat, Int.reduceLE, Int.reduceLT, Int.reduceEq, Int.reduceNeg, Nat.reduceLT, Nat.reduceSub, Nat.reduceMul]
        exact ⟨_, view_im _ _ _ _, fin _ ⟨[], 1, true, rfl, hres, .inr rfl, Nat.zero_le _⟩⟩
      · simp -implicitDefEqProofs only [↓W_seq, go_sem, ↓reduceIte, Nat.reduceBEq, Nat.reduceAdd, Nat.reduceLeDiff, Nat.reduceEqDiff, reduceCtorEq, Int.reduceToNat, Int.reduceLE, Int.reduceLT, Int.reduceEq, Int.reduceNeg, Nat.reduceLT, Nat.reduceSub, Nat.reduceMul]
        refine ⟨_, view_tup2 (view_agg4 (view_im _ _ _ _) (view_im _ _ _ _) (view_row (es := res) (z := 3) (t := 168) (by simp) rfl) (view_im _ _ _ _)) (view_im _ _ _ _), fin _ ⟨res, _, _, rfl, hres, .inl rfl, hrl2⟩⟩
end Go.Proofs.Ytnbbhbbhgcipjaa.Am
