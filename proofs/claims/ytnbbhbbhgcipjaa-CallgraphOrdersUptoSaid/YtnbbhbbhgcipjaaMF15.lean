/-
  The relation is transitive: the law of chapter 21 of it.
-/
import Derived.Test.YtnbbhbbhgcipjaaMF14
set_option linter.unusedVariables false
set_option linter.unnecessarySimpa false
set_option linter.unusedSimpArgs false
set_option linter.unusedSectionVars false
namespace Go.Proofs.Ytnbbhbbhgcipjaa.Am
attribute [local irreducible] W WO WD WL WR WC WOp ob eb kval kvh kH kn0 kmp kvc kvc0 kca kpk kgb kgd kcd kcl kbl kres kmt wseq kseq kblock kreg kdn kdE kbd kcr kdm kdb kdg kdo kfin klp kround ksend kcol RN
@[go_sem] theorem iaS_ap (P : Program) (len : Nat) (e : TypeId) (H : AHeap) (z : Nat) (q : Bool) (es : List (List Imm)) (j off : Nat) (i : Int) : iaS P (some (.array len e)) H (.im (.ip z q es j off)) i = (szOf P e).bind fun z' => if 0 ≤ i ∧ i.toNat < len then some (.im (.ip z q es j (off + i.toNat * z'))) else none := rfl
open Classical in
theorem relN_stable {ds : List Decl} {a : Term} : ∀ {N M : Nat} {p : Term}, p.nodes ≤ N → p.nodes ≤ M → relN ds a N p = relN ds a M p
  | 0, _, p, h, _ => by have := p.nodes_pos; omega
  | _ + 1, 0, p, _, h => by have := p.nodes_pos; omega
  | N + 1, M + 1, p, h, h' => by
    rw [relN, relN]
    by_cases hap : a = p
    · rw [if_pos hap, if_pos hap]
    · rw [if_neg hap, if_neg hap]
      cases hc : consT ds p with
      | none => rfl
      | some v =>
        obtain ⟨d, j, fs⟩ := v
        dsimp only
        refine ite_congr (propext ⟨fun ⟨i, x, m, hx, hl, hh⟩ => ⟨i, x, m, hx, hl, ?_⟩, fun ⟨i, x, m, hx, hl, hh⟩ => ⟨i, x, m, hx, hl, ?_⟩⟩) (fun _ => rfl) (fun _ => rfl)
        · have hxn := Term.spine_args p x ((consT_spec hc).2.2 x (List.mem_of_getElem? hx))
          exact hh.imp (fun h => by rwa [← relN_stable (N := N) (M := M) (by omega) (by omega)]) id
        · have hxn := Term.spine_args p x ((consT_spec hc).2.2 x (List.mem_of_getElem? hx))
          exact hh.imp (fun h => by rwa [relN_stable (N := N) (M := M) (by omega) (by omega)]) id
theorem consT_kind {ds : List Decl} {t : Term} {v : Decl × Nat × List Term} (h : consT ds t = some v) : t.spine.1.kind = 3 := by
  unfold consT at h
  split at h
  · assumption
  · cases h
theorem relN_kind {ds : List Decl} {a b : Term} {M : Nat} (h : relN ds a M b ≠ 0) (hab : a ≠ b) : b.spine.1.kind = 3 := by
  cases M with
  | zero => exact absurd rfl h
  | succ M =>
    obtain ⟨d, j, fs, hc, _⟩ := relN_ne h hab
    exact consT_kind hc
theorem relN_trans {ds : List Decl} {a b : Term} {M : Nat} (hM : relN ds a M b ≠ 0) (hb : b.nodes ≤ M) : ∀ {N : Nat} {c : Term}, c.nodes ≤ N → relN ds b N c ≠ 0 → relN ds a N c ≠ 0
  | 0, c, h, _ => by have := c.nodes_pos; omega
  | N + 1, c, h, hbc => by
    by_cases hab : a = b
    · rw [hab]; exact hbc
    by_cases hbc2 : b = c
    · subst hbc2
      rw [relN_stable h hb]; exact hM
    obtain ⟨d, j, fs, hc, ⟨i, x, m, hx, hl, hh⟩, _⟩ := relN_ne hbc hbc2
    have hxn := Term.spine_args c x ((consT_spec hc).2.2 x (List.mem_of_getElem? hx))
    rcases hh with hr | ⟨h0, _⟩
    · have ih := relN_trans hM hb (N := N) (c := x) (by omega) hr
      rw [relN]
      by_cases hac : a = c
      · rw [if_pos hac]; decide
      · rw [if_neg hac, hc]
        dsimp only
        rw [if_pos ⟨i, x, m, hx, hl, .inl ih⟩]; decide
    · rw [relN_kind hM hab] at h0; omega
theorem relN_two {ds : List Decl} {a p : Term} {N : Nat} (h : relN ds a N p ≠ 0) (hap : a ≠ p) : relN ds a N p = 2 := by
  cases N with
  | zero => exact absurd rfl h
  | succ N => obtain ⟨_, _, _, _, _, h2⟩ := relN_ne h hap; exact h2
theorem relN_one {ds : List Decl} {a : Term} {N : Nat} (h : a.nodes ≤ N) : relN ds a N a = 1 := by
  cases N with
  | zero => have := a.nodes_pos; omega
  | succ N => exact relN_self
/-- The law. -/
theorem relN_law {ds : List Decl} {a b c : Term} {N : Nat} (ha : a.nodes ≤ N) (hb : b.nodes ≤ N) (hc : c.nodes ≤ N) (h1 : relN ds a N b ≠ 0) (h2 : relN ds b N c ≠ 0) : relN ds a N c = max (relN ds a N b) (relN ds b N c) := by
  by_cases hab : a = b
  · subst hab
    rw [relN_one ha]
    have := relN_range (ds := ds) (a := a) (N := N) (p := c)
    omega
  by_cases hbc : b = c
  · subst hbc
    rw [relN_one hb]
    have := relN_range (ds := ds) (a := a) (N := N) (p := b)
    omega
  have hac : a ≠ c := fun e => by
    subst e
    have k1 := relN_kind h1 hab
    have k2 := relN_kind h2 hbc
    have p1 : a.nodes < b.nodes := by
      rcases relN_part hb h1 with h | h
      · exact (partN_le h).elim (fun e => absurd e hab) id
      · rw [k2] at h; omega
    have p2 : b.nodes < a.nodes := by
      rcases relN_part hc h2 with h | h
      · exact (partN_le h).elim (fun e => absurd e hbc) id
      · rw [k1] at h; omega
    omega
  rw [relN_two h1 hab, relN_two h2 hbc, relN_two (relN_trans h1 hb hc h2) hac]
  rfl
theorem f4 (ds : List Decl) (es : List (List Imm)) (z : Nat) (q : Bool) (a b c : Term) (ra rb rc : List Imm) (h : All2 Decl.Enc ds es) (hz : z = 23 ∨ es = []) (hl : es.length ≤ lim) (ha : a.Enc ra) (han : a.nodes ≤ lim) (hb : b.Enc rb) (hbn : b.nodes ≤ lim) (hc : c.Enc rc) (hcn : c.nodes ≤ lim) :
    PF cx 4 [.sl z false q es, .agg (ra ++ (rb ++ rc))] fun y => y = .b true := by
  refine PF.intro (fn := Try.f4) Try.func4 rfl rfl ?_
  have hlim : lim = 1073741824 := rfl
  have ha0 := ha
  have hb0 := hb
  have hc0 := hc
  obtain ⟨a0, a1, a2, a3, a4, rfl⟩ := five ha.length
  obtain ⟨b0, b1, b2, b3, b4, rfl⟩ := five hb.length
  obtain ⟨c0, c1, c2, c3, c4, rfl⟩ := five hc.length
  have awk : ∀ {H : AHeap} {Q : AV → AHeap → Prop}, Q (.im (.b true)) H → WC cx (.fn 12 []) H Q := fun hQ => WC.pf f12 rfl rfl (by rintro _ rfl; exact hQ)
  simp -implicitDefEqProofs only [↓W_seq, go_sem, ↓reduceIte, Nat.reduceBEq, Nat.reduceAdd, Nat.reduceLeDiff, Nat.reduceEqDiff, reduceCtorEq, Int.reduceToNat, Int.reduceLE, Int.reduceLT, Int.reduceEq, Int.reduceNeg, Nat.reduceLT, Nat.reduceSub, Nat.reduceMul]
  refine WC.pf (f11 ds es z q [a, b, c] [[a0, a1, a2, a3, a4], [b0, b1, b2, b3, b4], [c0, c1, c2, c3, c4]] 5 _ h hz hl ⟨ha0, hb0, hc0, trivial⟩ (.inl rfl) (by show 3 ≤ lim; omega)) rfl rfl ?_
  rintro _ ⟨bb, rfl, hbb⟩
  simp -implicitDefEqProofs only [↓W_seq, go_sem, ↓reduceIte, Nat.reduceBEq, Nat.reduceAdd, Nat.reduceLeDiff, Nat.reduceEqDiff, reduceCtorEq, Int.reduceToNat, Int.reduceLE, Int.reduceLT, Int.reduceEq, Int.reduceNeg, Nat.reduceLT, Nat.reduceSub, Nat.reduceMul]
  refine kcd_not (fun e1 => ?_) (fun e1 => ?_) <;> simp -implicitDefEqProofs only [↓W_seq, go_sem, ↓reduceIte, Nat.reduceBEq, Nat.reduceAdd, Nat.reduceLeDiff, Nat.reduceEqDiff, reduceCtorEq, Int.reduceToNat, Int.reduceLE, Int.reduceLT, Int.reduceEq, Int.reduceNeg, Nat.reduceLT, Nat.reduceSub, Nat.reduceMul, e1]
  rotate_left
  · refine awk ?_
    simp -implicitDefEqProofs only [↓W_seq, go_sem, ↓reduceIte, Nat.reduceBEq, Nat.reduceAdd, Nat.reduceLeDiff, Nat.reduceEqDiff, reduceCtorEq, Int.reduceToNat, Int.reduceLE, Int.reduceLT, Int.reduceEq, Int.reduceNeg, Nat.reduceLT, Nat.reduceSub, Nat.reduceMul]
    exact ⟨_, rfl, rfl⟩
  have hcd := hbb e1
  refine WC.pf (f13 ds es z q a _ h hz hl hcd ha0 han _ b _ hbn (Nat.le_refl _) hb0) rfl rfl ?_
  rintro _ rfl
  simp -implicitDefEqProofs only [↓W_seq, go_sem, ↓reduceIte, Nat.reduceBEq, Nat.reduceAdd, Nat.reduceLeDiff, Nat.reduceEqDiff, reduceCtorEq, Int.reduceToNat, Int.reduceLE, Int.reduceLT, Int.reduceEq, Int.reduceNeg, Nat.reduceLT, Nat.reduceSub, Nat.reduceMul]
  refine WC.pf (f13 ds es z q b _ h hz hl hcd hb0 hbn _ c _ hcn (Nat.le_refl _) hc0) rfl rfl ?_
  rintro _ rfl
  simp -implicitDefEqProofs only [↓W_seq, go_sem, ↓reduceIte, Nat.reduceBEq, Nat.reduceAdd, Nat.reduceLeDiff, Nat.reduceEqDiff, reduceCtorEq, Int.reduceToNat, Int.reduceLE, Int.reduceLT, Int.reduceEq, Int.reduceNeg, Nat.reduceLT, Nat.reduceSub, Nat.reduceMul]
  refine WC.pf (f13 ds es z q a _ h hz hl hcd ha0 han _ c _ hcn (Nat.le_refl _) hc0) rfl rfl ?_
  rintro _ rfl
  simp -implicitDefEqProofs only [↓W_seq, go_sem, ↓reduceIte, Nat.reduceBEq, Nat.reduceAdd, Nat.reduceLeDiff, Nat.reduceEqDiff, reduceCtorEq, Int.reduceToNat, Int.reduceLE, Int.reduceLT, Int.reduceEq, Int.reduceNeg, Nat.reduceLT, Nat.reduceSub, Nat.reduceMul]
  refine WC.pf (f13 ds es z q a _ h hz hl hcd ha0 han _ a _ han (Nat.le_refl _) ha0) rfl rfl ?_
  rintro _ rfl
  rw [relN_one han]
  have r1 := relN_range (ds := ds) (a := a) (N := lim) (p := b)
  have d1 : decide (relN ds a lim b < 0) = false := decide_eq_false (by omega)
  have d2 : decide (2 < relN ds a lim b) = false := decide_eq_false (by omega)
  simp -implicitDefEqProofs only [↓W_seq, go_sem, ↓reduceIte, Nat.reduceBEq, Nat.reduceAdd, Nat.reduceLeDiff, Nat.reduceEqDiff, reduceCtorEq, Int.reduceToNat, Int.reduceLE, Int.reduceLT, Int.reduceEq, Int.reduceNeg, Nat.reduceLT, Nat.reduceSub, Nat.reduceMul, d1, d2]
  refine kgb_b (fun e2 => ?_) (fun e2 => ?_) <;> simp -implicitDefEqProofs only [↓W_seq, go_sem, ↓reduceIte, Nat.reduceBEq, Nat.reduceAdd, Nat.reduceLeDiff, Nat.reduceEqDiff, reduceCtorEq, Int.reduceToNat, Int.reduceLE, Int.reduceLT, Int.reduceEq, Int.reduceNeg, Nat.reduceLT, Nat.reduceSub, Nat.reduceMul, e2]
  · refine awk ?_
    simp -implicitDefEqProofs only [↓W_seq, go_sem, ↓reduceIte, Nat.reduceBEq, Nat.reduceAdd, Nat.reduceLeDiff, Nat.reduceEqDiff, reduceCtorEq, Int.reduceToNat, Int.reduceLE, Int.reduceLT, Int.reduceEq, Int.reduceNeg, Nat.reduceLT, Nat.reduceSub, Nat.reduceMul]
    exact ⟨_, rfl, rfl⟩
  refine kcd_b (fun e3 => ?_) (fun e3 => ?_) <;> simp -implicitDefEqProofs only [↓W_seq, go_sem, ↓reduceIte, Nat.reduceBEq, Nat.reduceAdd, Nat.reduceLeDiff, Nat.reduceEqDiff, reduceCtorEq, Int.reduceToNat, Int.reduceLE, Int.reduceLT, Int.reduceEq, Int.reduceNeg, Nat.reduceLT, Nat.reduceSub, Nat.reduceMul, e3]
  · refine awk ?_
    simp -implicitDefEqProofs only [↓W_seq, go_sem, ↓reduceIte, Nat.reduceBEq, Nat.reduceAdd, Nat.reduceLeDiff, Nat.reduceEqDiff, reduceCtorEq, Int.reduceToNat, Int.reduceLE, Int.reduceLT, Int.reduceEq, Int.reduceNeg, Nat.reduceLT, Nat.reduceSub, Nat.reduceMul]
    exact ⟨_, rfl, rfl⟩
  have law := relN_law han hbn hcn (of_decide_eq_false e2) (of_decide_eq_false e3)
  have hd : decide (relN ds a lim c = max (relN ds a lim b) (relN ds b lim c)) = true := decide_eq_true law
  simp -implicitDefEqProofs only [↓W_seq, go_sem, ↓reduceIte, Nat.reduceBEq, Nat.reduceAdd, Nat.reduceLeDiff, Nat.reduceEqDiff, reduceCtorEq, Int.reduceToNat, Int.reduceLE, Int.reduceLT, Int.reduceEq, Int.reduceNeg, Nat.reduceLT, Nat.reduceSub, Nat.reduceMul, hd]
  refine awk ?_
  simp -implicitDefEqProofs only [↓W_seq, go_sem, ↓reduceIte, Nat.reduceBEq, Nat.reduceAdd, Nat.reduceLeDiff, Nat.reduceEqDiff, reduceCtorEq, Int.reduceToNat, Int.reduceLE, Int.reduceLT, Int.reduceEq, Int.reduceNeg, Nat.reduceLT, Nat.reduceSub, Nat.reduceMul]
  exact ⟨_, rfl, rfl⟩
end Go.Proofs.Ytnbbhbbhgcipjaa.Am
