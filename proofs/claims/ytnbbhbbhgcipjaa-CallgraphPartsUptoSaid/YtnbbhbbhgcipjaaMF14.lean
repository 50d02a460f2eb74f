/-
  Parts of terms, and the law of them.
-/
import Derived.Test.YtnbbhbbhgcipjaaMF13
set_option linter.unusedVariables false
set_option linter.unnecessarySimpa false
set_option linter.unusedSimpArgs false
set_option linter.unusedSectionVars false
namespace Go.Proofs.Ytnbbhbbhgcipjaa.Am
attribute [local irreducible] W WO WD WL WR WC WOp ob eb kval kvh kH kn0 kmp kvc kvc0 kca kpk kgb kgd kcd kcl kbl kres kmt wseq kseq kblock kreg kdn kdE kbd kcr kdm kdb kdg kdo kfin klp kround ksend kcol RN
theorem f92g {g : FuncId} {cap : List Imm} {p : Term → Prop} {ls : List Term} (hg : ∀ (l : Term) (r : List Imm), l ∈ ls → l.Enc r → PF cx g (.agg r :: cap) (EqB (p l))) (hs : cx.shared g = false) (es : List (List Imm)) (z : Nat) (b q : Bool) (h : All2 Term.Enc ls es) (hz : z = 5 ∨ es = []) (hl : es.length ≤ lim) :
    PF cx 92 [.sl z b q es, .fn g cap] fun y => ∃ n : Int, y = .i .i64 n ∧ (0 ≤ n ↔ ∃ l ∈ ls, p l) := by
  refine PF.intro (fn := Try.f92) Try.func92 rfl rfl ?_
  simp -implicitDefEqProofs only [↓W_seq, go_sem, ↓reduceIte, Nat.reduceBEq, Nat.reduceAdd, Nat.reduceLeDiff, Nat.reduceEqDiff, reduceCtorEq, Int.reduceToNat, Int.reduceLE, Int.reduceLT, Int.reduceEq, Int.reduceNeg, Nat.reduceLT, Nat.reduceSub, Nat.reduceMul]
  refine WL.upto es.length (fun j st => (∀ i, i < j → ∀ l, ls[i]? = some l → ¬p l) ∧ st = ⟨[(0, .im (.sl z b q es)), (1, .im (.fn g cap)), (7, .im (.i .i64 es.length)), (8, .im (.i .i64 j))], [], []⟩) ?_ ⟨by intros; omega, rfl⟩
  rintro j st hj ⟨hI, rfl⟩
  simp -implicitDefEqProofs only [↓W_seq, go_sem, ↓reduceIte, Nat.reduceBEq, Nat.reduceAdd, Nat.reduceLeDiff, Nat.reduceEqDiff, reduceCtorEq, Int.reduceToNat, Int.reduceLE, Int.reduceLT, Int.reduceEq, Int.reduceNeg, Nat.reduceLT, Nat.reduceSub, Nat.reduceMul]
  refine kcd_dec (fun h1 => ?_) (fun h1 => ?_)
  · have hj1 : j < es.length := by omega
    obtain ⟨rfl, a, r, ha, hr, hE⟩ := h.at hz hj1
    simp -implicitDefEqProofs only [↓W_seq, go_sem, ↓reduceIte, Nat.reduceBEq, Nat.reduceAdd, Nat.reduceLeDiff, Nat.reduceEqDiff, reduceCtorEq, Int.reduceToNat, Int.reduceLE, Int.reduceLT, Int.reduceEq, Int.reduceNeg, Nat.reduceLT, Nat.reduceSub, Nat.reduceMul, hj1, hr, sub_all hE.length]
    refine WC.pf (hg a r (List.mem_of_getElem? ha) hE) rfl hs ?_
    rintro _ ⟨m, rfl, hm⟩
    simp -implicitDefEqProofs only [↓W_seq, go_sem, ↓reduceIte, Nat.reduceBEq, Nat.reduceAdd, Nat.reduceLeDiff, Nat.reduceEqDiff, reduceCtorEq, Int.reduceToNat, Int.reduceLE, Int.reduceLT, Int.reduceEq, Int.reduceNeg, Nat.reduceLT, Nat.reduceSub, Nat.reduceMul]
    refine kcd_b (fun h2 => ?_) (fun h2 => ?_)
    · simp -implicitDefEqProofs only [↓W_seq, go_sem, ↓reduceIte, Nat.reduceBEq, Nat.reduceAdd, Nat.reduceLeDiff, Nat.reduceEqDiff, reduceCtorEq, Int.reduceToNat, Int.reduceLE, Int.reduceLT, Int.reduceEq, Int.reduceNeg, Nat.reduceLT, Nat.reduceSub, Nat.reduceMul]
      exact ⟨_, rfl, _, rfl, ⟨fun _ => ⟨a, List.mem_of_getElem? ha, hm.1 h2⟩, fun _ => by omega⟩⟩
    · simp -implicitDefEqProofs only [↓W_seq, go_sem, ↓reduceIte, Nat.reduceBEq, Nat.reduceAdd, Nat.reduceLeDiff, Nat.reduceEqDiff, reduceCtorEq, Int.reduceToNat, Int.reduceLE, Int.reduceLT, Int.reduceEq, Int.reduceNeg, Nat.reduceLT, Nat.reduceSub, Nat.reduceMul, wrap_succ hj1 hl]
      refine fun i hi l hl' => ?_
      rcases Nat.lt_succ_iff_lt_or_eq.1 hi with hi | rfl
      · exact hI i hi l hl'
      · rw [ha] at hl'; cases hl'; exact fun hp => by rw [hm.2 hp] at h2; cases h2
  · simp -implicitDefEqProofs only [↓W_seq, go_sem, ↓reduceIte, Nat.reduceBEq, Nat.reduceAdd, Nat.reduceLeDiff, Nat.reduceEqDiff, reduceCtorEq, Int.reduceToNat, Int.reduceLE, Int.reduceLT, Int.reduceEq, Int.reduceNeg, Nat.reduceLT, Nat.reduceSub, Nat.reduceMul]
    refine ⟨_, rfl, _, rfl, ⟨fun h => absurd h (by decide), fun ⟨l, hl', hp⟩ => ?_⟩⟩
    obtain ⟨i, hi⟩ := List.getElem?_of_mem hl'
    exact absurd hp (hI i (by have := (List.getElem?_eq_some_iff.1 hi).1; rw [h.length] at this; omega) l hi)
theorem f46g {g : FuncId} {cap : List Imm} {p : Term → Prop} {ls : List Term} (hg : ∀ (l : Term) (r : List Imm), l ∈ ls → l.Enc r → PF cx g (.agg r :: cap) (EqB (p l))) (hs : cx.shared g = false) (es : List (List Imm)) (z : Nat) (b q : Bool) (h : All2 Term.Enc ls es) (hz : z = 5 ∨ es = []) (hl : es.length ≤ lim) :
    PF cx 46 [.sl z b q es, .fn g cap] (EqB (∃ l ∈ ls, p l)) := by
  refine PF.intro (fn := Try.f46) Try.func46 rfl rfl ?_
  simp -implicitDefEqProofs only [↓W_seq, go_sem, ↓reduceIte, Nat.reduceBEq, Nat.reduceAdd, Nat.reduceLeDiff, Nat.reduceEqDiff, reduceCtorEq, Int.reduceToNat, Int.reduceLE, Int.reduceLT, Int.reduceEq, Int.reduceNeg, Nat.reduceLT, Nat.reduceSub, Nat.reduceMul]
  refine WC.pf (f92g hg hs es z b q h hz hl) rfl rfl ?_
  rintro _ ⟨n, rfl, hn⟩
  simp -implicitDefEqProofs only [↓W_seq, go_sem, ↓reduceIte, Nat.reduceBEq, Nat.reduceAdd, Nat.reduceLeDiff, Nat.reduceEqDiff, reduceCtorEq, Int.reduceToNat, Int.reduceLE, Int.reduceLT, Int.reduceEq, Int.reduceNeg, Nat.reduceLT, Nat.reduceSub, Nat.reduceMul]
  exact ⟨_, rfl, _, rfl, by rw [← hn]; exact decide_eq_true_iff⟩
theorem f17v : ∀ (N : Nat) (t : Term) (r : List Imm), t.nodes ≤ N → N ≤ lim → t.Enc r → PF cx 17 [.agg r] fun y => y = .i .i64 t.nodes := by
  intro N
  induction N with
  | zero => intro t r hN; have := t.nodes_pos; omega
  | succ N ih =>
    intro t r hN hNl h
    have hlim : lim = 1073741824 := rfl
    refine PF.intro (fn := Try.f17) Try.func17 rfl rfl ?_
    obtain ⟨k, i, n, ls, ks, lz, lt, les, kz, kt, kes, rfl, rfl, hk, hi, hn, hlz, hll, hl, hkz, hkl, hks⟩ := h.inv
    have hlen := hks.length
    have hnd : Term.nodesL ks ≤ N := by rw [Term.nodes_mk] at hN; omega
    have htk : ∀ j a, ks[j]? = some a → Term.nodesL (ks.take (j + 1)) = Term.nodesL (ks.take j) + a.nodes := fun j a ha => by
      rw [List.take_add_one, ha]
      have : ∀ (l : List Term) (b : Term), Term.nodesL (l ++ [b]) = Term.nodesL l + b.nodes := fun l b => by
        induction l with
        | nil => simp [Term.nodesL]
        | cons c l ih => simp only [List.cons_append, Term.nodesL, ih]; omega
      exact this _ _
    have hle : ∀ j, Term.nodesL (ks.take j) ≤ Term.nodesL ks := fun j => by
      have : ∀ (l m : List Term), Term.nodesL (l ++ m) = Term.nodesL l + Term.nodesL m := fun l m => by
        induction l with
        | nil => simp [Term.nodesL]
        | cons c l ih => simp only [List.cons_append, Term.nodesL, ih]; omega
      have e := this (ks.take j) (ks.drop j)
      rw [List.take_append_drop] at e
      omega
    simp -implicitDefEqProofs only [↓W_seq, go_sem, ↓reduceIte, Nat.reduceBEq, Nat.reduceAdd, Nat.reduceLeDiff, Nat.reduceEqDiff, reduceCtorEq, Int.reduceToNat, Int.reduceLE, Int.reduceLT, Int.reduceEq, Int.reduceNeg, Nat.reduceLT, Nat.reduceSub, Nat.reduceMul]
    refine WL.upto kes.length (fun j st => st = ⟨[(1, .im (.ip 5 false [[.i .i64 k, .i .i64 i, .s n, .sl lz false lt les, .sl kz false kt kes]] 0 0)), (3, .im (.i .i64 ((1 + Term.nodesL (ks.take j) : Nat) : Int))), (4, .im (.i .i64 j))], [], []⟩) ?_ rfl
    rintro j st hj rfl
    simp -implicitDefEqProofs only [↓W_seq, go_sem, ↓reduceIte, Nat.reduceBEq, Nat.reduceAdd, Nat.reduceLeDiff, Nat.reduceEqDiff, reduceCtorEq, Int.reduceToNat, Int.reduceLE, Int.reduceLT, Int.reduceEq, Int.reduceNeg, Nat.reduceLT, Nat.reduceSub, Nat.reduceMul]
    refine kcd_dec (fun h1 => ?_) (fun h1 => ?_)
    · have hj1 : j < kes.length := by omega
      obtain ⟨rfl, a, r, ha, hr, hE⟩ := hks.at hkz hj1
      simp -implicitDefEqProofs only [↓W_seq, go_sem, ↓reduceIte, Nat.reduceBEq, Nat.reduceAdd, Nat.reduceLeDiff, Nat.reduceEqDiff, reduceCtorEq, Int.reduceToNat, Int.reduceLE, Int.reduceLT, Int.reduceEq, Int.reduceNeg, Nat.reduceLT, Nat.reduceSub, Nat.reduceMul, hj1, hr, sub_all hE.length]
      refine WC.pf (ih a r (by have := Term.nodes_get ha; omega) (by omega) hE) rfl rfl ?_
      rintro _ rfl
      have e1 := htk j a ha
      have e2 := hle (j + 1)
      have hw : IntKind.i64.wrap (((1 + Term.nodesL (ks.take j) : Nat) : Int) + (a.nodes : Int)) = ((1 + Term.nodesL (ks.take (j + 1)) : Nat) : Int) := by
        rw [e1, wrap_id] <;> omega
      simp -implicitDefEqProofs only [↓W_seq, go_sem, ↓reduceIte, Nat.reduceBEq, Nat.reduceAdd, Nat.reduceLeDiff, Nat.reduceEqDiff, reduceCtorEq, Int.reduceToNat, Int.reduceLE, Int.reduceLT, Int.reduceEq, Int.reduceNeg, Nat.reduceLT, Nat.reduceSub, Nat.reduceMul, wrap_succ hj1 hkl, hw]
    · have hje : j = kes.length := by omega
      have htl : ks.take j = ks := List.take_of_length_le (by omega)
      rw [htl]
      simp -implicitDefEqProofs only [↓W_seq, go_sem, ↓reduceIte, Nat.reduceBEq, Nat.reduceAdd, Nat.reduceLeDiff, Nat.reduceEqDiff, reduceCtorEq, Int.reduceToNat, Int.reduceLE, Int.reduceLT, Int.reduceEq, Int.reduceNeg, Nat.reduceLT, Nat.reduceSub, Nat.reduceMul]
      exact ⟨_, rfl, by rw [Term.nodes_mk]⟩
/-- To be a part of a term, under no binder. -/
def partN (a : Term) : Nat → Term → Prop
  | 0, _ => False
  | N + 1, p => a = p ∨ ∃ x ∈ p.spine.2, partN a N x
theorem f16 (a : Term) (ra : List Imm) (ha : a.Enc ra) : ∀ (N : Nat) (p : Term) (rp : List Imm), p.nodes ≤ N → N ≤ lim → p.Enc rp → PF cx 16 [.agg ra, .agg rp] (EqB (partN a N p)) := by
  intro N
  induction N with
  | zero => intro p rp hN; have := p.nodes_pos; omega
  | succ N ih =>
    intro p rp hN hNl hp
    have hlim : lim = 1073741824 := rfl
    have hsl := Term.spine_len p
    obtain ⟨a0, a1, a2, a3, a4, rfl⟩ := five ha.length
    obtain ⟨p0, p1, p2, p3, p4, rfl⟩ := five hp.length
    have h61 : ∀ (x : Term) (rx : List Imm), x ∈ p.spine.2 → x.Enc rx → PF cx 61 (.agg rx :: [.ip 5 false [[a0, a1, a2, a3, a4]] 0 0]) (EqB (partN a N x)) := fun x rx hx hxE => by
      have hxn : x.nodes ≤ N := by have := Term.spine_args p x hx; omega
      have hxE0 := hxE
      obtain ⟨x0, x1, x2, x3, x4, rfl⟩ := five hxE.length
      refine PF.intro (fn := Try.f61) Try.func61 rfl rfl ?_
      simp -implicitDefEqProofs only [↓W_seq, go_sem, ↓reduceIte, Nat.reduceBEq, Nat.reduceAdd, Nat.reduceLeDiff, Nat.reduceEqDiff, reduceCtorEq, Int.reduceToNat, Int.reduceLE, Int.reduceLT, Int.reduceEq, Int.reduceNeg, Nat.reduceLT, Nat.reduceSub, Nat.reduceMul]
      refine WC.pf (ih x _ hxn (by omega) hxE0) rfl rfl ?_
      rintro _ ⟨b, rfl, hb⟩
      simp -implicitDefEqProofs only [↓W_seq, go_sem, ↓reduceIte, Nat.reduceBEq, Nat.reduceAdd, Nat.reduceLeDiff, Nat.reduceEqDiff, reduceCtorEq, Int.reduceToNat, Int.reduceLE, Int.reduceLT, Int.reduceEq, Int.reduceNeg, Nat.reduceLT, Nat.reduceSub, Nat.reduceMul]
      exact ⟨_, rfl, _, rfl, hb⟩
    refine PF.intro (fn := Try.f16) Try.func16 rfl rfl ?_
    simp -implicitDefEqProofs only [↓W_seq, go_sem, ↓reduceIte, Nat.reduceBEq, Nat.reduceAdd, Nat.reduceLeDiff, Nat.reduceEqDiff, reduceCtorEq, Int.reduceToNat, Int.reduceLE, Int.reduceLT, Int.reduceEq, Int.reduceNeg, Nat.reduceLT, Nat.reduceSub, Nat.reduceMul]
    refine WC.pf (f58 _ _ _ _ _ (Nat.le_refl _) ha hp) rfl rfl ?_
    rintro _ ⟨b, rfl, hb⟩
    simp -implicitDefEqProofs only [↓W_seq, go_sem, ↓reduceIte, Nat.reduceBEq, Nat.reduceAdd, Nat.reduceLeDiff, Nat.reduceEqDiff, reduceCtorEq, Int.reduceToNat, Int.reduceLE, Int.reduceLT, Int.reduceEq, Int.reduceNeg, Nat.reduceLT, Nat.reduceSub, Nat.reduceMul]
    refine kcd_b (fun e1 => ?_) (fun e1 => ?_) <;> simp -implicitDefEqProofs only [↓W_seq, go_sem, ↓reduceIte, Nat.reduceBEq, Nat.reduceAdd, Nat.reduceLeDiff, Nat.reduceEqDiff, reduceCtorEq, Int.reduceToNat, Int.reduceLE, Int.reduceLT, Int.reduceEq, Int.reduceNeg, Nat.reduceLT, Nat.reduceSub, Nat.reduceMul, e1]
    · exact ⟨_, rfl, .t (.inl (hb.1 e1))⟩
    refine WC.po (f15 _ p _ hN hNl hp) rfl rfl rfl ?_
    rintro _ aes _ _ ⟨s, rfl, hs, hae, rfl, rfl⟩
    obtain ⟨s0, s1, s2, s3, s4, rfl⟩ := five hs.length
    simp -implicitDefEqProofs only [↓W_seq, go_sem, ↓reduceIte, Nat.reduceBEq, Nat.reduceAdd, Nat.reduceLeDiff, Nat.reduceEqDiff, reduceCtorEq, Int.reduceToNat, Int.reduceLE, Int.reduceLT, Int.reduceEq, Int.reduceNeg, Nat.reduceLT, Nat.reduceSub, Nat.reduceMul]
    have hvw : ∀ X : AHeap, view true viewDepth (.row (List.map (fun x => List.map AV.im x) aes) 5 26 :: X) (.sl 0 aes.length 0 aes.length) = some (.sl 5 true false ((aes.drop 0).take aes.length)) := fun X => view_part (k := 5) rfl rfl (by omega)
    refine WC.vpf (f46g h61 rfl (List.take aes.length (List.drop 0 aes)) 5 true false (by simpa using hae) (.inl rfl) (by have := hae.length; simp only [List.length_take, List.length_drop]; omega)) (by unfold views; simp only [List.mapM_cons, List.mapM_nil, hvw, view_im]; rfl) rfl (by rintro _ ⟨_, rfl, _⟩; rfl) ?_
    rintro _ ⟨c, rfl, hc⟩
    simp -implicitDefEqProofs only [↓W_seq, go_sem, ↓reduceIte, Nat.reduceBEq, Nat.reduceAdd, Nat.reduceLeDiff, Nat.reduceEqDiff, reduceCtorEq, Int.reduceToNat, Int.reduceLE, Int.reduceLT, Int.reduceEq, Int.reduceNeg, Nat.reduceLT, Nat.reduceSub, Nat.reduceMul]
    refine ⟨_, rfl, _, rfl, hc.trans ⟨fun h => .inr h, fun h => h.elim (fun h => ?_) id⟩⟩
    exact absurd (hb.2 h) (by rw [e1]; simp)
theorem relN_self {ds : List Decl} {a : Term} {N : Nat} : relN ds a (N + 1) a = 1 := by
  rw [relN, if_pos rfl]
/-- A relation that is not unknown: the same, or by a recursive field. -/
theorem relN_ne {ds : List Decl} {a : Term} {N : Nat} {p : Term} (h : relN ds a (N + 1) p ≠ 0) (hap : a ≠ p) : ∃ d j fs, consT ds p = some (d, j, fs) ∧ (∃ (i : Nat) (x : Term) (m : Nat), fs[i]? = some x ∧ (recsT d j).lookup i = some m ∧ Hit (relN ds a N) a x m) ∧ relN ds a (N + 1) p = 2 := by
  rw [relN, if_neg hap] at h ⊢
  cases hc : consT ds p with
  | none => rw [hc] at h; exact absurd rfl h
  | some v =>
    obtain ⟨d, j, fs⟩ := v
    rw [hc] at h
    dsimp only at h ⊢
    split at h
    · rename_i hx; exact ⟨d, j, fs, rfl, hx, if_pos hx⟩
    · exact absurd rfl h
theorem relN_range {ds : List Decl} {a : Term} : ∀ {N : Nat} {p : Term}, relN ds a N p = 0 ∨ relN ds a N p = 1 ∨ relN ds a N p = 2
  | 0, _ => .inl rfl
  | N + 1, p => by
    by_cases h : relN ds a (N + 1) p = 0
    · exact .inl h
    · by_cases hap : a = p
      · subst hap; exact .inr (.inl relN_self)
      · obtain ⟨_, _, _, _, _, h2⟩ := relN_ne h hap; exact .inr (.inr h2)
theorem relN_part {ds : List Decl} {a : Term} : ∀ {N : Nat} {p : Term}, p.nodes ≤ N → relN ds a N p ≠ 0 → partN a N p ∨ (a.spine.1.kind = 0 ∧ 0 < a.spine.2.length ∧ partN a.spine.1 N p)
  | 0, p, hN, _ => by have := p.nodes_pos; omega
  | N + 1, p, hN, h => by
    by_cases hap : a = p
    · exact .inl (.inl hap)
    obtain ⟨d, j, fs, hc, ⟨i, x, m, hx, _, hh⟩, _⟩ := relN_ne h hap
    have hxp := (consT_spec hc).2.2 x (List.mem_of_getElem? hx)
    have hxn := Term.spine_args p x hxp
    rcases hh with hr | ⟨h1, h2, h3, _⟩
    · rcases relN_part (by omega) hr with hp | ⟨h1, h2, hp⟩
      · exact .inl (.inr ⟨x, hxp, hp⟩)
      · exact .inr ⟨h1, h2, .inr ⟨x, hxp, hp⟩⟩
    · refine .inr ⟨h1, h2, .inr ⟨x, hxp, ?_⟩⟩
      have := x.nodes_pos
      obtain ⟨M, rfl⟩ : ∃ M, N = M + 1 := ⟨N - 1, by omega⟩
      exact .inl h3
theorem partN_le {a : Term} : ∀ {N : Nat} {p : Term}, partN a N p → a = p ∨ a.nodes < p.nodes
  | 0, _, h => h.elim
  | N + 1, p, h => by
    rcases h with h | ⟨x, hx, h⟩
    · exact .inl h
    · have := Term.spine_args p x hx
      rcases partN_le h with rfl | h
      · exact .inr this
      · exact .inr (by omega)
theorem Term.spine_head (t : Term) : t.spine.1.nodes ≤ t.nodes := by
  match t with
  | .mk k i n ls [a, b] =>
    by_cases hk : k = 4
    · subst hk
      rw [Term.spine_app, Term.nodes_mk]
      have := Term.spine_head a
      simp only [Term.nodesL]; omega
    · rw [Term.spine_k hk]; exact Nat.le_refl _
  | .mk k i n ls [] => rw [Term.spine_n (by simp)]; exact Nat.le_refl _
  | .mk k i n ls [a] => rw [Term.spine_n (by simp)]; exact Nat.le_refl _
  | .mk k i n ls (a :: b :: c :: l) => rw [Term.spine_n (by simp)]; exact Nat.le_refl _
theorem f5 (ds : List Decl) (es : List (List Imm)) (z : Nat) (q : Bool) (a p : Term) (ra rp : List Imm) (h : All2 Decl.Enc ds es) (hz : z = 23 ∨ es = []) (hl : es.length ≤ lim) (ha : a.Enc ra) (han : a.nodes ≤ lim) (hp : p.Enc rp) (hpn : p.nodes ≤ lim) :
    PF cx 5 [.sl z false q es, .agg ra, .agg rp] fun y => y = .b true := by
  refine PF.intro (fn := Try.f5) Try.func5 rfl rfl ?_
  have hlim : lim = 1073741824 := rfl
  have hsl := Term.spine_len a
  have ha0 := ha
  have hp0 := hp
  obtain ⟨a0, a1, a2, a3, a4, rfl⟩ := five ha.length
  obtain ⟨p0, p1, p2, p3, p4, rfl⟩ := five hp.length
  have awk : ∀ {H : AHeap} {Q : AV → AHeap → Prop}, Q (.im (.b true)) H → WC cx (.fn 12 []) H Q := fun hQ => WC.pf f12 rfl rfl (by rintro _ rfl; exact hQ)
  simp -implicitDefEqProofs only [↓W_seq, go_sem, ↓reduceIte, Nat.reduceBEq, Nat.reduceAdd, Nat.reduceLeDiff, Nat.reduceEqDiff, reduceCtorEq, Int.reduceToNat, Int.reduceLE, Int.reduceLT, Int.reduceEq, Int.reduceNeg, Nat.reduceLT, Nat.reduceSub, Nat.reduceMul]
  refine WC.pf (f11 ds es z q [a, p] [[a0, a1, a2, a3, a4], [p0, p1, p2, p3, p4]] 5 _ h hz hl ⟨ha0, hp0, trivial⟩ (.inl rfl) (by show 2 ≤ lim; omega)) rfl rfl ?_
  rintro _ ⟨b, rfl, hb⟩
  simp -implicitDefEqProofs only [↓W_seq, go_sem, ↓reduceIte, Nat.reduceBEq, Nat.reduceAdd, Nat.reduceLeDiff, Nat.reduceEqDiff, reduceCtorEq, Int.reduceToNat, Int.reduceLE, Int.reduceLT, Int.reduceEq, Int.reduceNeg, Nat.reduceLT, Nat.reduceSub, Nat.reduceMul]
  refine kcd_not (fun e1 => ?_) (fun e1 => ?_) <;> simp -implicitDefEqProofs only [↓W_seq, go_sem, ↓reduceIte, Nat.reduceBEq, Nat.reduceAdd, Nat.reduceLeDiff, Nat.reduceEqDiff, reduceCtorEq, Int.reduceToNat, Int.reduceLE, Int.reduceLT, Int.reduceEq, Int.reduceNeg, Nat.reduceLT, Nat.reduceSub, Nat.reduceMul, e1]
  rotate_left
  · refine awk ?_
    simp -implicitDefEqProofs only [↓W_seq, go_sem, ↓reduceIte, Nat.reduceBEq, Nat.reduceAdd, Nat.reduceLeDiff, Nat.reduceEqDiff, reduceCtorEq, Int.reduceToNat, Int.reduceLE, Int.reduceLT, Int.reduceEq, Int.reduceNeg, Nat.reduceLT, Nat.reduceSub, Nat.reduceMul]
    exact ⟨_, rfl, rfl⟩
  have hcn := hb e1
  refine WC.pf (f13 ds es z q a _ h hz hl hcn ha0 han _ p _ hpn (Nat.le_refl _) hp0) rfl rfl ?_
  rintro _ rfl
  simp -implicitDefEqProofs only [↓W_seq, go_sem, ↓reduceIte, Nat.reduceBEq, Nat.reduceAdd, Nat.reduceLeDiff, Nat.reduceEqDiff, reduceCtorEq, Int.reduceToNat, Int.reduceLE, Int.reduceLT, Int.reduceEq, Int.reduceNeg, Nat.reduceLT, Nat.reduceSub, Nat.reduceMul]
  refine kcd_not (fun e2 => ?_) (fun e2 => ?_) <;> simp -implicitDefEqProofs only [↓W_seq, go_sem, ↓reduceIte, Nat.reduceBEq, Nat.reduceAdd, Nat.reduceLeDiff, Nat.reduceEqDiff, reduceCtorEq, Int.reduceToNat, Int.reduceLE, Int.reduceLT, Int.reduceEq, Int.reduceNeg, Nat.reduceLT, Nat.reduceSub, Nat.reduceMul, e2]
  rotate_left
  · refine awk ?_
    simp -implicitDefEqProofs only [↓W_seq, go_sem, ↓reduceIte, Nat.reduceBEq, Nat.reduceAdd, Nat.reduceLeDiff, Nat.reduceEqDiff, reduceCtorEq, Int.reduceToNat, Int.reduceLE, Int.reduceLT, Int.reduceEq, Int.reduceNeg, Nat.reduceLT, Nat.reduceSub, Nat.reduceMul]
    exact ⟨_, rfl, rfl⟩
  have e2 := of_decide_eq_true e2
  have hne : relN ds a lim p ≠ 0 := by omega
  have hap : a ≠ p := fun e => by
    subst e
    rw [show lim = 1073741823 + 1 from rfl, relN_self] at e2
    omega
  have key := relN_part hpn hne
  refine WC.po (f15 _ a _ han (Nat.le_refl _) ha) rfl rfl rfl ?_
  rintro _ aes _ _ ⟨s, rfl, hs, hae, rfl, rfl⟩
  obtain ⟨s0, s1, s2, s3, s4, rfl⟩ := five hs.length
  cases hs.hd
  have hal := hae.length
  simp -implicitDefEqProofs only [↓W_seq, go_sem, ↓reduceIte, Nat.reduceBEq, Nat.reduceAdd, Nat.reduceLeDiff, Nat.reduceEqDiff, reduceCtorEq, Int.reduceToNat, Int.reduceLE, Int.reduceLT, Int.reduceEq, Int.reduceNeg, Nat.reduceLT, Nat.reduceSub, Nat.reduceMul]
  have hpa : ¬(a.spine.1.kind = 0 ∧ 0 < a.spine.2.length) → partN a lim p := fun hn => key.elim id fun h => absurd ⟨h.1, h.2.1⟩ hn
  have hB : partN a lim p → a.nodes < p.nodes := fun h => (partN_le h).elim (fun e => absurd e hap) id
  refine kgb_b (fun e3 => ?_) (fun e3 => ?_) <;> simp -implicitDefEqProofs only [↓W_seq, go_sem, ↓reduceIte, Nat.reduceBEq, Nat.reduceAdd, Nat.reduceLeDiff, Nat.reduceEqDiff, reduceCtorEq, Int.reduceToNat, Int.reduceLE, Int.reduceLT, Int.reduceEq, Int.reduceNeg, Nat.reduceLT, Nat.reduceSub, Nat.reduceMul, e3, List.length_map]
  · refine kcd_b (fun e4 => ?_) (fun e4 => ?_) <;> simp -implicitDefEqProofs only [↓W_seq, go_sem, ↓reduceIte, Nat.reduceBEq, Nat.reduceAdd, Nat.reduceLeDiff, Nat.reduceEqDiff, reduceCtorEq, Int.reduceToNat, Int.reduceLE, Int.reduceLT, Int.reduceEq, Int.reduceNeg, Nat.reduceLT, Nat.reduceSub, Nat.reduceMul, e4]
    · have hsn := Term.spine_head a
      refine WC.pf (f16 _ _ hs _ p _ hpn (Nat.le_refl _) hp0) rfl rfl ?_
      rintro _ ⟨b1, rfl, hb1⟩
      simp -implicitDefEqProofs only [↓W_seq, go_sem, ↓reduceIte, Nat.reduceBEq, Nat.reduceAdd, Nat.reduceLeDiff, Nat.reduceEqDiff, reduceCtorEq, Int.reduceToNat, Int.reduceLE, Int.reduceLT, Int.reduceEq, Int.reduceNeg, Nat.reduceLT, Nat.reduceSub, Nat.reduceMul]
      refine kgb_b (fun e5 => ?_) (fun e5 => ?_) <;> simp -implicitDefEqProofs only [↓W_seq, go_sem, ↓reduceIte, Nat.reduceBEq, Nat.reduceAdd, Nat.reduceLeDiff, Nat.reduceEqDiff, reduceCtorEq, Int.reduceToNat, Int.reduceLE, Int.reduceLT, Int.reduceEq, Int.reduceNeg, Nat.reduceLT, Nat.reduceSub, Nat.reduceMul, e5]
      · refine awk ?_
        simp -implicitDefEqProofs only [↓W_seq, go_sem, ↓reduceIte, Nat.reduceBEq, Nat.reduceAdd, Nat.reduceLeDiff, Nat.reduceEqDiff, reduceCtorEq, Int.reduceToNat, Int.reduceLE, Int.reduceLT, Int.reduceEq, Int.reduceNeg, Nat.reduceLT, Nat.reduceSub, Nat.reduceMul]
        exact ⟨_, rfl, rfl⟩
      · refine WC.pf (f16 _ _ ha0 _ p _ hpn (Nat.le_refl _) hp0) rfl rfl ?_
        rintro _ ⟨b2, rfl, hb2⟩
        have : b2 = true := hb2.2 (key.elim id fun h => by rw [hb1.2 h.2.2] at e5; cases e5)
        subst this
        simp -implicitDefEqProofs only [↓W_seq, go_sem, ↓reduceIte, Nat.reduceBEq, Nat.reduceAdd, Nat.reduceLeDiff, Nat.reduceEqDiff, reduceCtorEq, Int.reduceToNat, Int.reduceLE, Int.reduceLT, Int.reduceEq, Int.reduceNeg, Nat.reduceLT, Nat.reduceSub, Nat.reduceMul]
        refine awk ?_
        simp -implicitDefEqProofs only [↓W_seq, go_sem, ↓reduceIte, Nat.reduceBEq, Nat.reduceAdd, Nat.reduceLeDiff, Nat.reduceEqDiff, reduceCtorEq, Int.reduceToNat, Int.reduceLE, Int.reduceLT, Int.reduceEq, Int.reduceNeg, Nat.reduceLT, Nat.reduceSub, Nat.reduceMul]
        exact ⟨_, rfl, rfl⟩
    · have hp1 := hpa (fun h => of_decide_eq_false e4 (by omega))
      have hlt : decide ((a.nodes : Int) < p.nodes) = true := decide_eq_true (by have := hB hp1; omega)
      refine WC.pf (f16 _ _ ha0 _ p _ hpn (Nat.le_refl _) hp0) rfl rfl ?_
      rintro _ ⟨b2, rfl, hb2⟩
      have : b2 = true := hb2.2 hp1
      subst this
      simp -implicitDefEqProofs only [↓W_seq, go_sem, ↓reduceIte, Nat.reduceBEq, Nat.reduceAdd, Nat.reduceLeDiff, Nat.reduceEqDiff, reduceCtorEq, Int.reduceToNat, Int.reduceLE, Int.reduceLT, Int.reduceEq, Int.reduceNeg, Nat.reduceLT, Nat.reduceSub, Nat.reduceMul]
      refine WC.pf (f17v _ a _ han (Nat.le_refl _) ha0) rfl rfl ?_
      rintro _ rfl
      simp -implicitDefEqProofs only [↓W_seq, go_sem, ↓reduceIte, Nat.reduceBEq, Nat.reduceAdd, Nat.reduceLeDiff, Nat.reduceEqDiff, reduceCtorEq, Int.reduceToNat, Int.reduceLE, Int.reduceLT, Int.reduceEq, Int.reduceNeg, Nat.reduceLT, Nat.reduceSub, Nat.reduceMul]
      refine WC.pf (f17v _ p _ hpn (Nat.le_refl _) hp0) rfl rfl ?_
      rintro _ rfl
      simp -implicitDefEqProofs only [↓W_seq, go_sem, ↓reduceIte, Nat.reduceBEq, Nat.reduceAdd, Nat.reduceLeDiff, Nat.reduceEqDiff, reduceCtorEq, Int.reduceToNat, Int.reduceLE, Int.reduceLT, Int.reduceEq, Int.reduceNeg, Nat.reduceLT, Nat.reduceSub, Nat.reduceMul, hlt]
      refine awk ?_
      simp -implicitDefEqProofs only [↓W_seq, go_sem, ↓reduceIte, Nat.reduceBEq, Nat.reduceAdd, Nat.reduceLeDiff, Nat.reduceEqDiff, reduceCtorEq, Int.reduceToNat, Int.reduceLE, Int.reduceLT, Int.reduceEq, Int.reduceNeg, Nat.reduceLT, Nat.reduceSub, Nat.reduceMul]
      exact ⟨_, rfl, rfl⟩
  · have hp1 := hpa (fun h => of_decide_eq_false e3 h.1)
    have hlt : decide ((a.nodes : Int) < p.nodes) = true := decide_eq_true (by have := hB hp1; omega)
    refine WC.pf (f16 _ _ ha0 _ p _ hpn (Nat.le_refl _) hp0) rfl rfl ?_
    rintro _ ⟨b2, rfl, hb2⟩
    have : b2 = true := hb2.2 hp1
    subst this
    simp -implicitDefEqProofs only [↓W_seq, go_sem, ↓reduceIte, Nat.reduceBEq, Nat.reduceAdd, Nat.reduceLeDiff, Nat.reduceEqDiff, reduceCtorEq, Int.reduceToNat, Int.reduceLE, Int.reduceLT, Int.reduceEq, Int.reduceNeg, Nat.reduceLT, Nat.reduceSub, Nat.reduceMul]
    refine WC.pf (f17v _ a _ han (Nat.le_refl _) ha0) rfl rfl ?_
    rintro _ rfl
    simp -implicitDefEqProofs only [↓W_seq, go_sem, ↓reduceIte, Nat.reduceBEq, Nat.reduceAdd, Nat.reduceLeDiff, Nat.reduceEqDiff, reduceCtorEq, Int.reduceToNat, Int.reduceLE, Int.reduceLT, Int.reduceEq, Int.reduceNeg, Nat.reduceLT, Nat.reduceSub, Nat.reduceMul]
    refine WC.pf (f17v _ p _ hpn (Nat.le_refl _) hp0) rfl rfl ?_
    rintro _ rfl
    simp -implicitDefEqProofs only [↓W_seq, go_sem, ↓reduceIte, Nat.reduceBEq, Nat.reduceAdd, Nat.reduceLeDiff, Nat.reduceEqDiff, reduceCtorEq, Int.reduceToNat, Int.reduceLE, Int.reduceLT, Int.reduceEq, Int.reduceNeg, Nat.reduceLT, Nat.reduceSub, Nat.reduceMul, hlt]
    refine awk ?_
    simp -implicitDefEqProofs only [↓W_seq, go_sem, ↓reduceIte, Nat.reduceBEq, Nat.reduceAdd, Nat.reduceLeDiff, Nat.reduceEqDiff, reduceCtorEq, Int.reduceToNat, Int.reduceLE, Int.reduceLT, Int.reduceEq, Int.reduceNeg, Nat.reduceLT, Nat.reduceSub, Nat.reduceMul]
    exact ⟨_, rfl, rfl⟩
end Go.Proofs.Ytnbbhbbhgcipjaa.Am
