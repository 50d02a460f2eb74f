/-
  Relate, on both sides: one function.
-/
import Derived.Test.YtnbbhbbhgcipjaaMk
set_option linter.unusedVariables false
set_option linter.unnecessarySimpa false
set_option linter.unusedSimpArgs false
set_option linter.unusedSectionVars false
namespace Go.Proofs.Ytnbbhbbhgcipjaa.Am
attribute [local irreducible] W WO WD WL WR WC WOp ob eb kval kvh kH kn0 kmp kvc kvc0 kca kpk kgb kgd kcd kcl kbl kres kmt wseq kseq kblock kreg kdn kdE kbd kcr kdm kdb kdg kdo kfin klp kround ksend kcol RN
/-- The recursive fields of a constructor, with how many arguments each may be applied. -/
noncomputable def recsT (d : Decl) (j : Nat) : List (Nat × Nat) := match analT d with
  | some cs => if d.type.all.2.kind = 1 then [] else match cs[j]? with
    | some c => c.2.1.map fun f => (f.1, f.2.1.length)
    | none => []
  | none => []
theorem recT_ge {own : Term} {p n : Nat} : ∀ {l : List Term} {i : Nat}, ∀ f ∈ recT own p n i l, i ≤ f.1
  | [], _, f, h => by simp [recT] at h
  | t :: l, i, f, h => by
    unfold recT at h
    split at h
    · rcases List.mem_cons.1 h with rfl | h
      · exact Nat.le_refl _
      · have := recT_ge f h; omega
    · have := recT_ge f h; omega
theorem recT_pw {own : Term} {p n : Nat} : ∀ {l : List Term} {i : Nat}, (recT own p n i l).Pairwise fun f g => f.1 < g.1
  | [], _ => by simp [recT]
  | t :: l, i => by
    unfold recT
    split
    · refine List.pairwise_cons.2 ⟨fun g hg => ?_, recT_pw⟩
      have := recT_ge g hg
      show i < g.1
      omega
    · exact recT_pw
def MapR (ps : List (Nat × Nat)) (y : Imm) : Prop := (y = .nilm ∧ ps = []) ∨ y = .mp false (keysOf ps) (valsOf ps)
theorem view_nmap {k : Nat} {q : Bool} {G : AHeap} {l : Nat} {ps : List (Nat × Nat)} (h : G[l]? = some (.map (keysOf ps) ((valsOf ps).map .im))) : view q (k + 1) G (.map l) = some (.mp q (keysOf ps) (valsOf ps)) := by
  unfold view
  simp only [h, mapM_im]; rfl
theorem mapO_get {α β : Type} {f : α → Option β} : ∀ {l : List α} {m : List β} {i : Nat} {b : β}, mapO f l = some m → m[i]? = some b → ∃ a, l[i]? = some a ∧ f a = some b
  | [], m, i, b, h, hb => by simp [mapO] at h; subst h; simp at hb
  | a :: l, m, i, b, h, hb => by
    unfold mapO at h
    cases hf : f a with
    | none => rw [hf] at h; simp at h
    | some c =>
      rw [hf] at h
      cases hl : mapO f l with
      | none => rw [hl] at h; simp at h
      | some k =>
        rw [hl] at h; simp at h; subst h
        cases i with
        | zero => simp at hb; subst hb; exact ⟨a, rfl, hf⟩
        | succ i => simpa using mapO_get hl (by simpa using hb)
theorem analT_ctor {d : Decl} {cs : List CtorF} {j : Nat} {c : CtorF} (h : analT d = some cs) (hc : cs[j]? = some c) : c.2.1.Pairwise fun f g => f.1 < g.1 := by
  unfold analT at h
  split at h
  · obtain ⟨a, _, ha⟩ := mapO_get h hc
    unfold ctorT at ha
    split at ha
    · simp only [Option.map_eq_some_iff] at ha
      obtain ⟨_, _, rfl⟩ := ha
      exact recT_pw
    · cases ha
  · cases h
theorem f57 (d : Decl) (r : List Imm) (j : Nat) (fs : Imm) (h : d.Enc r) (hc : d.cnt) (hj : j < d.ctors.length) : PV cx 57 [.agg (r ++ [.i .i64 j, fs])] (MapR (recsT d j)) := by
  refine PV.intro (fn := Try.f57) Try.func57 rfl rfl ?_
  have hlim : lim = 1073741824 := rfl
  have h0 := h
  obtain ⟨t0, t1, t2, t3, t4, v0, v1, v2, v3, v4, cz, ct, ces, u0, u1, u2, u3, u4, rz, rt, res, fz, ft, fes, rfl, hdk, hdn, hdp, hT, hV, hdf, hcz, hcl, hC, hrp, hU, hrz, hrl, hR, hfz, hfl, hF, hTn⟩ := h
  simp -implicitDefEqProofs only [↓W_seq, go_sem, ↓reduceIte, Nat.reduceBEq, Nat.reduceAdd, Nat.reduceLeDiff, Nat.reduceEqDiff, reduceCtorEq, Int.reduceToNat, Int.reduceLE, Int.reduceLT, Int.reduceEq, Int.reduceNeg, Nat.reduceLT, Nat.reduceSub, Nat.reduceMul]
  refine WC.pv (f100 d _ h0 hTn hc.2.1) rfl rfl rfl ?_
  rintro _ ⟨r, e, rfl, hr⟩
  cases hA : analT d with
  | none =>
    rw [hA] at hr
    obtain ⟨he, x0, x1, x2, x3, x4, x5, x6, x7, x8, x9, rfl⟩ := hr
    have hR : recsT d j = [] := by unfold recsT; rw [hA]
    have he : decide (e = 0) = false := decide_eq_false he
    simp -implicitDefEqProofs only [↓W_seq, go_sem, ↓reduceIte, Nat.reduceBEq, Nat.reduceAdd, Nat.reduceLeDiff, Nat.reduceEqDiff, reduceCtorEq, Int.reduceToNat, Int.reduceLE, Int.reduceLT, Int.reduceEq, Int.reduceNeg, Nat.reduceLT, Nat.reduceSub, Nat.reduceMul, he]
    exact ⟨_, view_im _ _ _ _, .inl ⟨rfl, hR⟩⟩
  | some cs =>
    rw [hA] at hr
    obtain ⟨rfl, x0, x1, x2, x3, x4, x5, x6, x7, x8, z, t, es, rfl, hS, hes, hz, hl⟩ := hr
    cases hS.hd
    have hcl : cs.length = d.ctors.length := by
      unfold analT at hA
      split at hA
      · exact mapO_len hA
      · cases hA
    have hje : j < es.length := by rw [← hes.length, hcl]; exact hj
    obtain ⟨rfl, c, cr, hc1, hr1, s, y0, y1, y2, rfl, hy0, ⟨res, rz', rt', rfl, hre, hrz', hrl'⟩, hy2⟩ := hes.at hz hje
    simp -implicitDefEqProofs only [↓W_seq, go_sem, ↓reduceIte, Nat.reduceBEq, Nat.reduceAdd, Nat.reduceLeDiff, Nat.reduceEqDiff, reduceCtorEq, Int.reduceToNat, Int.reduceLE, Int.reduceLT, Int.reduceEq, Int.reduceNeg, Nat.reduceLT, Nat.reduceSub, Nat.reduceMul]
    refine kcd_b (fun e1 => ?_) (fun e1 => ?_) <;> simp -implicitDefEqProofs only [↓W_seq, go_sem, ↓reduceIte, Nat.reduceBEq, Nat.reduceAdd, Nat.reduceLeDiff, Nat.reduceEqDiff, reduceCtorEq, Int.reduceToNat, Int.reduceLE, Int.reduceLT, Int.reduceEq, Int.reduceNeg, Nat.reduceLT, Nat.reduceSub, Nat.reduceMul, e1, hje, hr1]
    · exact ⟨_, view_im _ _ _ _, .inl ⟨rfl, by unfold recsT; rw [hA]; exact if_pos (of_decide_eq_true e1)⟩⟩
    have hR : recsT d j = c.2.1.map fun f => (f.1, f.2.1.length) := by unfold recsT; rw [hA]; simp only [if_neg (of_decide_eq_false e1), hc1]
    rw [hR]
    have hpw : c.2.1.Pairwise fun f g => f.1 < g.1 := by
      have hcr := analT_ctor hA hc1
      exact hcr
    refine WL.upto res.length (fun i st => ∃ G : AHeap, st = ⟨[(5, .map 1), (29, .im (.sl rz' false rt' res)), (30, .im (.i .i64 res.length)), (31, .im (.i .i64 i))], [],
      .row [[.im x0, .im x1, .im x2, .im x3, .im (.i .i64 d.type.all.2.kind), .im x5, .im x6, .im x7, .im x8, .im (.sl 4 false t es)]] 10 161 :: .map (keysOf ((c.2.1.take i).map fun f => (f.1, f.2.1.length))) ((valsOf ((c.2.1.take i).map fun f => (f.1, f.2.1.length))).map .im) :: G⟩) ?_ ⟨[], rfl⟩
    rintro i st hi ⟨G, rfl⟩
    simp -implicitDefEqProofs only [↓W_seq, go_sem, ↓reduceIte, Nat.reduceBEq, Nat.reduceAdd, Nat.reduceLeDiff, Nat.reduceEqDiff, reduceCtorEq, Int.reduceToNat, Int.reduceLE, Int.reduceLT, Int.reduceEq, Int.reduceNeg, Nat.reduceLT, Nat.reduceSub, Nat.reduceMul]
    refine kcd_dec (fun h1 => ?_) (fun h1 => ?_)
    · have hi1 : i < res.length := by omega
      obtain ⟨rfl, f, fr, hf, hfr, a, b, rfl, ⟨aes, az, at_, rfl, hae, haz, hal⟩, hb⟩ := hre.at hrz' hi1
      have hmu : ∀ (X : AObj) (G : AHeap), amapUpdate cx.P 99 (.map 1) (.im (.i .i64 f.1)) (.im (.i .i64 aes.length)) (X :: .map (keysOf ((c.2.1.take i).map fun f => (f.1, f.2.1.length))) ((valsOf ((c.2.1.take i).map fun f => (f.1, f.2.1.length))).map .im) :: G) =
          some (X :: .map (keysOf ((c.2.1.take (i + 1)).map fun f => (f.1, f.2.1.length))) ((valsOf ((c.2.1.take (i + 1)).map fun f => (f.1, f.2.1.length))).map .im) :: G) := fun X G => by
        rw [mu99 (l := 1) rfl]
        · rw [List.take_add_one, hf, List.map_append, ← hae.length]; rfl
        · intro p hp
          obtain ⟨g, hg, rfl⟩ := List.mem_map.1 hp
          obtain ⟨k, hk⟩ := List.getElem?_of_mem hg
          have hki : k < i := by
            have := (List.getElem?_eq_some_iff.1 hk).1
            rw [List.length_take] at this; omega
          rw [List.getElem?_take_of_lt hki] at hk
          obtain ⟨hk1, hk2⟩ := List.getElem?_eq_some_iff.1 hk
          obtain ⟨hi1, hi2⟩ := List.getElem?_eq_some_iff.1 hf
          have := List.pairwise_iff_getElem.1 hpw k i hk1 hi1 hki
          rw [hk2, hi2] at this
          show g.1 ≠ f.1
          omega
      simp -implicitDefEqProofs only [↓W_seq, go_sem, ↓reduceIte, Nat.reduceBEq, Nat.reduceAdd, Nat.reduceLeDiff, Nat.reduceEqDiff, reduceCtorEq, Int.reduceToNat, Int.reduceLE, Int.reduceLT, Int.reduceEq, Int.reduceNeg, Nat.reduceLT, Nat.reduceSub, Nat.reduceMul, hi1, hfr, hmu, wrap_succ hi1 hrl']
      exact ⟨_, rfl⟩
    · have hie : i = res.length := by omega
      have htk : c.2.1.take i = c.2.1 := List.take_of_length_le (by rw [hre.length]; omega)
      rw [htk]
      simp -implicitDefEqProofs only [↓W_seq, go_sem, ↓reduceIte, Nat.reduceBEq, Nat.reduceAdd, Nat.reduceLeDiff, Nat.reduceEqDiff, reduceCtorEq, Int.reduceToNat, Int.reduceLE, Int.reduceLT, Int.reduceEq, Int.reduceNeg, Nat.reduceLT, Nat.reduceSub, Nat.reduceMul]
      exact ⟨_, view_nmap (k := 5) rfl, .inr rfl⟩
theorem lookup_hit {x m : Nat} : ∀ {ps : List (Nat × Nat)} {i : Nat}, ps[i]? = some (x, m) → (∀ k, k < i → ∀ p, ps[k]? = some p → p.1 ≠ x) → ps.lookup x = some m
  | [], i, h, _ => by simp at h
  | p :: ps, 0, h, _ => by
    simp at h; subst h; simp [List.lookup_cons]
  | p :: ps, i + 1, h, hn => by
    have := hn 0 (by omega) p rfl
    rw [List.lookup_cons, show (x == p.1) = false by rw [beq_eq_false_iff_ne]; exact fun e => this e.symm]
    exact lookup_hit (by simpa using h) fun k hk q hq => hn (k + 1) (by omega) q (by simpa using hq)
theorem lookup_miss {x : Nat} : ∀ {ps : List (Nat × Nat)}, (∀ p ∈ ps, p.1 ≠ x) → ps.lookup x = none
  | [], _ => rfl
  | p :: ps, hn => by
    rw [List.lookup_cons, show (x == p.1) = false by rw [beq_eq_false_iff_ne]; exact fun e => hn p (by simp) e.symm]
    exact lookup_miss fun q hq => hn q (by simp [hq])
theorem f60 (d : Decl) (r : List Imm) (j x : Nat) (h : d.Enc r) (hc : d.cnt) (hj : j < d.ctors.length) : PF cx 60 [.agg r, .i .i64 j, .i .i64 x] fun y => y = .tup [.i .i64 (((recsT d j).lookup x).getD 0 : Nat), .b ((recsT d j).lookup x).isSome] := by
  refine PF.intro (fn := Try.f60) Try.func60 rfl rfl ?_
  have hlim : lim = 1073741824 := rfl
  have h0 := h
  obtain ⟨t0, t1, t2, t3, t4, v0, v1, v2, v3, v4, cz, ct, ces, u0, u1, u2, u3, u4, rz, rt, res, fz, ft, fes, rfl, hdk, hdn, hdp, hT, hV, hdf, hcz, hcl, hC, hrp, hU, hrz, hrl, hR, hfz, hfl, hF, hTn⟩ := h
  simp -implicitDefEqProofs only [↓W_seq, go_sem, ↓reduceIte, Nat.reduceBEq, Nat.reduceAdd, Nat.reduceLeDiff, Nat.reduceEqDiff, reduceCtorEq, Int.reduceToNat, Int.reduceLE, Int.reduceLT, Int.reduceEq, Int.reduceNeg, Nat.reduceLT, Nat.reduceSub, Nat.reduceMul]
  refine WC.pv (f103 d _ h0 hTn hc.2.1) rfl rfl rfl ?_
  rintro _ ⟨r, e, rfl, hr⟩
  cases hA : analT d with
  | none =>
    rw [hA] at hr
    obtain ⟨he, x0, x1, x2, x3, x4, x5, x6, x7, x8, x9, rfl⟩ := hr
    have hR : recsT d j = [] := by unfold recsT; rw [hA]
    have he : decide (e = 0) = false := decide_eq_false he
    rw [hR]
    simp -implicitDefEqProofs only [↓W_seq, go_sem, ↓reduceIte, Nat.reduceBEq, Nat.reduceAdd, Nat.reduceLeDiff, Nat.reduceEqDiff, reduceCtorEq, Int.reduceToNat, Int.reduceLE, Int.reduceLT, Int.reduceEq, Int.reduceNeg, Nat.reduceLT, Nat.reduceSub, Nat.reduceMul, he]
    exact ⟨_, rfl, rfl⟩
  | some cs =>
    rw [hA] at hr
    obtain ⟨rfl, x0, x1, x2, x3, x4, x5, x6, x7, x8, z, t, es, rfl, hS, hes, hz, hl⟩ := hr
    cases hS.hd
    have hcl : cs.length = d.ctors.length := by
      unfold analT at hA
      split at hA
      · exact mapO_len hA
      · cases hA
    have hje : j < es.length := by rw [← hes.length, hcl]; exact hj
    obtain ⟨rfl, c, cr, hc1, hr1, s, y0, y1, y2, rfl, hy0, ⟨res, rz', rt', rfl, hre, hrz', hrl'⟩, hy2⟩ := hes.at hz hje
    have hjd : decide ((es.length : Int) ≤ j) = false := decide_eq_false (by omega)
    simp -implicitDefEqProofs only [↓W_seq, go_sem, ↓reduceIte, Nat.reduceBEq, Nat.reduceAdd, Nat.reduceLeDiff, Nat.reduceEqDiff, reduceCtorEq, Int.reduceToNat, Int.reduceLE, Int.reduceLT, Int.reduceEq, Int.reduceNeg, Nat.reduceLT, Nat.reduceSub, Nat.reduceMul, hjd]
    refine kcd_b (fun e1 => ?_) (fun e1 => ?_) <;> simp -implicitDefEqProofs only [↓W_seq, go_sem, ↓reduceIte, Nat.reduceBEq, Nat.reduceAdd, Nat.reduceLeDiff, Nat.reduceEqDiff, reduceCtorEq, Int.reduceToNat, Int.reduceLE, Int.reduceLT, Int.reduceEq, Int.reduceNeg, Nat.reduceLT, Nat.reduceSub, Nat.reduceMul, e1, hje, hr1]
    · have hR : recsT d j = [] := by unfold recsT; rw [hA]; exact if_pos (of_decide_eq_true e1)
      rw [hR]
      exact ⟨_, rfl, rfl⟩
    have hR : recsT d j = c.2.1.map fun f => (f.1, f.2.1.length) := by unfold recsT; rw [hA]; simp only [if_neg (of_decide_eq_false e1), hc1]
    rw [hR]
    refine WL.upto res.length (fun i st => (∀ k, k < i → ∀ f : RecF, c.2.1[k]? = some f → f.1 ≠ x) ∧ ∃ G, st = ⟨[(2, .im (.i .i64 x)), (10, .im (.sl rz' false rt' res)), (11, .im (.i .i64 i))], [], G⟩) ?_ ⟨by intros; omega, _, rfl⟩
    rintro i st hi ⟨hI, G, rfl⟩
    simp -implicitDefEqProofs only [↓W_seq, go_sem, ↓reduceIte, Nat.reduceBEq, Nat.reduceAdd, Nat.reduceLeDiff, Nat.reduceEqDiff, reduceCtorEq, Int.reduceToNat, Int.reduceLE, Int.reduceLT, Int.reduceEq, Int.reduceNeg, Nat.reduceLT, Nat.reduceSub, Nat.reduceMul]
    refine kcd_dec (fun h1 => ?_) (fun h1 => ?_)
    · have hi1 : i < res.length := by omega
      obtain ⟨rfl, f, fr, hf, hfr, a, b, rfl, ⟨aes, az, at_, rfl, hae, haz, hal⟩, hb⟩ := hre.at hrz' hi1
      simp -implicitDefEqProofs only [↓W_seq, go_sem, ↓reduceIte, Nat.reduceBEq, Nat.reduceAdd, Nat.reduceLeDiff, Nat.reduceEqDiff, reduceCtorEq, Int.reduceToNat, Int.reduceLE, Int.reduceLT, Int.reduceEq, Int.reduceNeg, Nat.reduceLT, Nat.reduceSub, Nat.reduceMul, hi1, hfr]
      refine kcd_b (fun e2 => ?_) (fun e2 => ?_) <;> simp -implicitDefEqProofs only [↓W_seq, go_sem, ↓reduceIte, Nat.reduceBEq, Nat.reduceAdd, Nat.reduceLeDiff, Nat.reduceEqDiff, reduceCtorEq, Int.reduceToNat, Int.reduceLE, Int.reduceLT, Int.reduceEq, Int.reduceNeg, Nat.reduceLT, Nat.reduceSub, Nat.reduceMul, e2, hi1, hfr, wrap_succ hi1 hrl']
      · have e2 := of_decide_eq_true e2
        have hlk : (c.2.1.map fun f => (f.1, f.2.1.length)).lookup x = some aes.length := by
          refine lookup_hit (i := i) ?_ fun k hk p hp => ?_
          · rw [List.getElem?_map, hf]
            show some (f.1, f.2.1.length) = _
            rw [hae.length, show f.1 = x by omega]
          · rw [List.getElem?_map] at hp
            obtain ⟨g, hg, rfl⟩ := Option.map_eq_some_iff.1 hp
            exact hI k hk g hg
        rw [hlk]
        exact ⟨_, rfl, rfl⟩
      · refine ⟨fun k hk g hg => ?_, _, rfl⟩
        rcases Nat.lt_succ_iff_lt_or_eq.1 hk with hk | rfl
        · exact hI k hk g hg
        · rw [hf] at hg; cases hg
          have := of_decide_eq_false e2
          omega
    · have hie : i = res.length := by omega
      have hlk : (c.2.1.map fun f => (f.1, f.2.1.length)).lookup x = none := by
        refine lookup_miss fun p hp => ?_
        obtain ⟨g, hg, rfl⟩ := List.mem_map.1 hp
        obtain ⟨k, hk⟩ := List.getElem?_of_mem hg
        exact hI k (by have := (List.getElem?_eq_some_iff.1 hk).1; rw [hre.length] at this; omega) g hk
      rw [hlk]
      simp -implicitDefEqProofs only [↓W_seq, go_sem, ↓reduceIte, Nat.reduceBEq, Nat.reduceAdd, Nat.reduceLeDiff, Nat.reduceEqDiff, reduceCtorEq, Int.reduceToNat, Int.reduceLE, Int.reduceLT, Int.reduceEq, Int.reduceNeg, Nat.reduceLT, Nat.reduceSub, Nat.reduceMul]
      exact ⟨_, rfl, rfl⟩
def Term.name : Term → ByteArray | .mk _ _ n _ _ => n
theorem famE_ctor {ds : List Decl} {s : ByteArray} {d : Decl} {j : Int} (h : famE ds s = some (d, j)) (hj : 0 ≤ j) : ∃ n : Nat, j = n ∧ n < d.ctors.length ∧ d ∈ ds ∧ d.kind = 3 := by
  unfold famE at h
  split at h
  · rename_i h0
    split at h
    · simp only [Option.map_eq_some_iff] at h
      obtain ⟨_, _, h⟩ := h
      cases h; omega
    split at h
    · rename_i h4
      obtain ⟨i, n, d', hd, hdec, hit, hlt, hk, _⟩ := findE_ctor h0 h4
      rw [hdec, show ((i : Int)).toNat = i by omega, hd] at h
      simp only [Option.map_some, Option.some.injEq, Prod.mk.injEq] at h
      obtain ⟨rfl, rfl⟩ := h
      exact ⟨n, hit, hlt, List.mem_of_getElem? hd, hk⟩
    split at h
    · simp only [Option.map_eq_some_iff] at h
      obtain ⟨_, _, h⟩ := h
      cases h; omega
    · cases h
  · cases h
/-- A constructor term taken apart: its family, the number of its constructor, its fields. -/
noncomputable def consT (ds : List Decl) (t : Term) : Option (Decl × Nat × List Term) :=
  if t.spine.1.kind = 3 then
    match famE ds t.spine.1.name with
    | some (d, j) => if 0 ≤ j then (d.ctors[j.toNat]?).bind fun c => if t.spine.2.length = c.type.all.1.length then some (d, j.toNat, t.spine.2.drop d.fixed.toNat) else none else none
    | none => none
  else none
def ConsR (o : Option (Decl × Nat × List Term)) (y : Imm) : Prop := ∃ r b, y = .tup [.agg r, .b b] ∧ match o with
  | some (d, j, fs) => b = true ∧ ∃ dr a, r = dr ++ [.i .i64 j, a] ∧ d.Enc dr ∧ TermL a fs
  | none => b = false ∧ r.length = 25
theorem f55 (ds : List Decl) (es : List (List Imm)) (z : Nat) (q : Bool) (t : Term) (r : List Imm) (h : All2 Decl.Enc ds es) (hz : z = 23 ∨ es = []) (hl : es.length ≤ lim) (ht : t.Enc r) (hn : t.nodes ≤ lim) (hcn : ∀ d ∈ ds, d.cnt) :
    PF cx 55 [.sl z false q es, .agg r] (ConsR (consT ds t)) := by
  refine PF.intro (fn := Try.f55) Try.func55 rfl rfl ?_
  have hlim : lim = 1073741824 := rfl
  obtain ⟨r0, r1, r2, r3, r4, rfl⟩ := five ht.length
  simp -implicitDefEqProofs only [↓W_seq, go_sem, ↓reduceIte, Nat.reduceBEq, Nat.reduceAdd, Nat.reduceLeDiff, Nat.reduceEqDiff, reduceCtorEq, Int.reduceToNat, Int.reduceLE, Int.reduceLT, Int.reduceEq, Int.reduceNeg, Nat.reduceLT, Nat.reduceSub, Nat.reduceMul]
  refine WC.pv (f56 _ _ ht hn) rfl rfl rfl ?_
  rintro _ ⟨_, s, rfl, ⟨aes, az, at_, rfl, hae, haz, hal⟩, hs⟩
  obtain ⟨k, i, n, ls, ks, lz, lt, les, kz, kt, kes, hsp, rfl, hk, hi, hnn, hlz, hll, hls, hkz, hkl, hks⟩ := hs.inv
  have hkind : t.spine.1.kind = k := by rw [hsp]; rfl
  have hname : t.spine.1.name = n := by rw [hsp]; rfl
  simp -implicitDefEqProofs only [↓W_seq, go_sem, ↓reduceIte, Nat.reduceBEq, Nat.reduceAdd, Nat.reduceLeDiff, Nat.reduceEqDiff, reduceCtorEq, Int.reduceToNat, Int.reduceLE, Int.reduceLT, Int.reduceEq, Int.reduceNeg, Nat.reduceLT, Nat.reduceSub, Nat.reduceMul]
  refine kcd_not (fun e1 => ?_) (fun e1 => ?_) <;> simp -implicitDefEqProofs only [↓W_seq, go_sem, ↓reduceIte, Nat.reduceBEq, Nat.reduceAdd, Nat.reduceLeDiff, Nat.reduceEqDiff, reduceCtorEq, Int.reduceToNat, Int.reduceLE, Int.reduceLT, Int.reduceEq, Int.reduceNeg, Nat.reduceLT, Nat.reduceSub, Nat.reduceMul, e1]
  rotate_left
  · have : consT ds t = none := by unfold consT; rw [if_neg (by rw [hkind]; exact of_decide_eq_false e1)]
    rw [this]; exact ⟨_, rfl, _, _, rfl, rfl, rfl⟩
  have hct : consT ds t = match famE ds n with
    | some (d, j) => if 0 ≤ j then (d.ctors[j.toNat]?).bind fun c => if t.spine.2.length = c.type.all.1.length then some (d, j.toNat, t.spine.2.drop d.fixed.toNat) else none else none
    | none => none := by unfold consT; rw [if_pos (by rw [hkind]; exact of_decide_eq_true e1), hname]
  rw [hct]
  refine WC.pf (f25 ds es z q n h hz hl) rfl rfl ?_
  rintro _ ⟨r, j, b, rfl, hf⟩
  cases hfe : famE ds n with
  | none =>
    rw [hfe] at hf
    obtain ⟨rfl, rfl, h23⟩ := hf
    have hdr : List.drop 23 (List.map AV.im r) = [] := List.drop_eq_nil_of_le (by simp [h23])
    simp -implicitDefEqProofs only [↓W_seq, go_sem, ↓reduceIte, Nat.reduceBEq, Nat.reduceAdd, Nat.reduceLeDiff, Nat.reduceEqDiff, reduceCtorEq, Int.reduceToNat, Int.reduceLE, Int.reduceLT, Int.reduceEq, Int.reduceNeg, Nat.reduceLT, Nat.reduceSub, Nat.reduceMul, hdr, h23]
    exact ⟨_, rfl, _, _, rfl, rfl, rfl⟩
  | some dj =>
    obtain ⟨d, j'⟩ := dj
    rw [hfe] at hf
    obtain ⟨hE, rfl, rfl⟩ := hf
    have hE0 := hE
    obtain ⟨t0, t1, t2, t3, t4, v0, v1, v2, v3, v4, cz, ct, ces, u0, u1, u2, u3, u4, rz, rt, res, fz, ft, fes, rfl, hdk, hdn, hdp, hT, hV, hdf, hcz, hcl, hC, hrp, hU, hrz, hrl, hR, hfz, hfl, hF, hTn⟩ := hE
    simp -implicitDefEqProofs only [↓W_seq, go_sem, ↓reduceIte, Nat.reduceBEq, Nat.reduceAdd, Nat.reduceLeDiff, Nat.reduceEqDiff, reduceCtorEq, Int.reduceToNat, Int.reduceLE, Int.reduceLT, Int.reduceEq, Int.reduceNeg, Nat.reduceLT, Nat.reduceSub, Nat.reduceMul]
    refine kgb_b (fun e2 => ?_) (fun e2 => ?_) <;> simp -implicitDefEqProofs only [↓W_seq, go_sem, ↓reduceIte, Nat.reduceBEq, Nat.reduceAdd, Nat.reduceLeDiff, Nat.reduceEqDiff, reduceCtorEq, Int.reduceToNat, Int.reduceLE, Int.reduceLT, Int.reduceEq, Int.reduceNeg, Nat.reduceLT, Nat.reduceSub, Nat.reduceMul, e2]
    · rw [if_neg (by have := of_decide_eq_true e2; omega)]
      exact ⟨_, rfl, _, _, rfl, rfl, rfl⟩
    have e2 := of_decide_eq_false e2
    rw [if_pos (by omega)]
    obtain ⟨m, rfl, hm, hdm, hk3⟩ := famE_ctor hfe (by omega)
    have hcd := hcn d hdm
    have hml : m < ces.length := by rw [← hC.length]; exact hm
    obtain ⟨rfl, c, cr, hc1, hr1, hcE⟩ := hC.at hcz hml
    obtain ⟨c0, c1, c2, c3, c4, rfl, hcx, hcX, hcn2⟩ := hcE
    have hfo := hcd.2.2 hk3 c (List.mem_of_getElem? hc1)
    have hd1 : decide ((ces.length : Int) ≤ m) = false := decide_eq_false (by omega)
    rw [show ((m : Int)).toNat = m by omega, hc1, Option.bind_some]
    simp -implicitDefEqProofs only [↓W_seq, go_sem, ↓reduceIte, Nat.reduceBEq, Nat.reduceAdd, Nat.reduceLeDiff, Nat.reduceEqDiff, reduceCtorEq, Int.reduceToNat, Int.reduceLE, Int.reduceLT, Int.reduceEq, Int.reduceNeg, Nat.reduceLT, Nat.reduceSub, Nat.reduceMul, hd1, hml, hr1]
    refine WC.pv (f98 _ _ hcX hcn2) rfl rfl rfl ?_
    rintro _ ⟨_, hd, rfl, ⟨bes, bz, bt, rfl, hbe, hbz, hbl⟩, hhd⟩
    obtain ⟨d0, d1, d2, d3, d4, rfl⟩ := five hhd.length
    simp -implicitDefEqProofs only [↓W_seq, go_sem, ↓reduceIte, Nat.reduceBEq, Nat.reduceAdd, Nat.reduceLeDiff, Nat.reduceEqDiff, reduceCtorEq, Int.reduceToNat, Int.reduceLE, Int.reduceLT, Int.reduceEq, Int.reduceNeg, Nat.reduceLT, Nat.reduceSub, Nat.reduceMul]
    have hz5 : (5 = az ∨ aes.isEmpty = true) = True := eq_true (haz.elim (fun h => .inl h.symm) fun h => .inr (by rw [h]; rfl))
    refine kgb_not (fun e3 => ?_) (fun e3 => ?_) <;> simp -implicitDefEqProofs only [↓W_seq, go_sem, ↓reduceIte, Nat.reduceBEq, Nat.reduceAdd, Nat.reduceLeDiff, Nat.reduceEqDiff, reduceCtorEq, Int.reduceToNat, Int.reduceLE, Int.reduceLT, Int.reduceEq, Int.reduceNeg, Nat.reduceLT, Nat.reduceSub, Nat.reduceMul, e3]
    rotate_left
    · rw [if_neg (by intro h; rw [hae.length, hbe.length] at h; exact of_decide_eq_false e3 (by omega))]
      exact ⟨_, rfl, _, _, rfl, rfl, rfl⟩
    have e3 := of_decide_eq_true e3
    rw [if_pos (by rw [hae.length, hbe.length]; omega)]
    obtain ⟨mf, hmf⟩ : ∃ n : Nat, d.fixed = n := ⟨d.fixed.toNat, by have := hcd.1; omega⟩
    rw [hbe.length, hmf] at hfo
    have hle : mf ≤ aes.length := by omega
    have hd2 : decide ((aes.length : Int) < mf) = false := decide_eq_false (by omega)
    have htk : List.take (aes.length - mf) (List.drop mf aes) = List.drop mf aes := List.take_of_length_le (by simp)
    rw [hmf] at hE0
    simp -implicitDefEqProofs only [↓W_seq, go_sem, ↓reduceIte, Nat.reduceBEq, Nat.reduceAdd, Nat.reduceLeDiff, Nat.reduceEqDiff, reduceCtorEq, Int.reduceToNat, Int.reduceLE, Int.reduceLT, Int.reduceEq, Int.reduceNeg, Nat.reduceLT, Nat.reduceSub, Nat.reduceMul, hmf, hd2, hle, hz5, htk, Nat.le_refl]
    exact ⟨_, rfl, _, _, rfl, rfl, _, _, rfl, hE0, _, _, _, rfl, hae.drop mf, .inl rfl, by rw [List.length_drop]; omega⟩
theorem view_tup4 {k : Nat} {q : Bool} {G : AHeap} {a b c d : AV} {x y z u : Imm} (ha : view q k G a = some x) (hb : view q k G b = some y) (hc : view q k G c = some z) (hd : view q k G d = some u) : view q (k + 1) G (.tup [a, b, c, d]) = some (.tup [x, y, z, u]) := by
  unfold view
  simp only [List.mapM_cons, List.mapM_nil, ha, hb, hc, hd]
  rfl
def ConsR2 (o : Option (Decl × Nat × List Term)) (y : Imm) : Prop := ∃ r a j b, y = .tup [.agg r, .i .i64 j, a, .b b] ∧ match o with
  | some (d, n, fs) => b = true ∧ j = n ∧ d.Enc r ∧ TermL a fs
  | none => b = false ∧ r.length = 23
theorem f59 (ds : List Decl) (es : List (List Imm)) (z : Nat) (q : Bool) (t : Term) (r : List Imm) (h : All2 Decl.Enc ds es) (hz : z = 23 ∨ es = []) (hl : es.length ≤ lim) (ht : t.Enc r) (hn : t.nodes ≤ lim) (hcn : ∀ d ∈ ds, d.cnt) :
    PV cx 59 [.sl z false q es, .agg r] (ConsR2 (consT ds t)) := by
  refine PV.intro (fn := Try.f59) Try.func59 rfl rfl ?_
  have hlim : lim = 1073741824 := rfl
  have hsl := Term.spine_len t
  obtain ⟨r0, r1, r2, r3, r4, rfl⟩ := five ht.length
  simp -implicitDefEqProofs only [↓W_seq, go_sem, ↓reduceIte, Nat.reduceBEq, Nat.reduceAdd, Nat.reduceLeDiff, Nat.reduceEqDiff, reduceCtorEq, Int.reduceToNat, Int.reduceLE, Int.reduceLT, Int.reduceEq, Int.reduceNeg, Nat.reduceLT, Nat.reduceSub, Nat.reduceMul]
  refine WC.po (f15 _ t _ hn (Nat.le_refl _) ht) rfl rfl rfl ?_
  rintro _ aes _ _ ⟨s, rfl, hs, hae, rfl, rfl⟩
  obtain ⟨k, i, n, ls, ks, lz, lt, les, kz, kt, kes, hsp, rfl, hk, hi, hnn, hlz, hll, hls, hkz, hkl, hks⟩ := hs.inv
  have hkind : t.spine.1.kind = k := by rw [hsp]; rfl
  have hname : t.spine.1.name = n := by rw [hsp]; rfl
  simp -implicitDefEqProofs only [↓W_seq, go_sem, ↓reduceIte, Nat.reduceBEq, Nat.reduceAdd, Nat.reduceLeDiff, Nat.reduceEqDiff, reduceCtorEq, Int.reduceToNat, Int.reduceLE, Int.reduceLT, Int.reduceEq, Int.reduceNeg, Nat.reduceLT, Nat.reduceSub, Nat.reduceMul]
  refine kcd_not (fun e1 => ?_) (fun e1 => ?_) <;> simp -implicitDefEqProofs only [↓W_seq, go_sem, ↓reduceIte, Nat.reduceBEq, Nat.reduceAdd, Nat.reduceLeDiff, Nat.reduceEqDiff, reduceCtorEq, Int.reduceToNat, Int.reduceLE, Int.reduceLT, Int.reduceEq, Int.reduceNeg, Nat.reduceLT, Nat.reduceSub, Nat.reduceMul, e1]
  rotate_left
  · have : consT ds t = none := by unfold consT; rw [if_neg (by rw [hkind]; exact of_decide_eq_false e1)]
    rw [this]; exact ⟨_, view_im _ _ _ _, _, _, _, _, rfl, rfl, rfl⟩
  have hct : consT ds t = match famE ds n with
    | some (d, j) => if 0 ≤ j then (d.ctors[j.toNat]?).bind fun c => if t.spine.2.length = c.type.all.1.length then some (d, j.toNat, t.spine.2.drop d.fixed.toNat) else none else none
    | none => none := by unfold consT; rw [if_pos (by rw [hkind]; exact of_decide_eq_true e1), hname] <;> rfl
  rw [hct]
  refine WC.pf (f26 ds es z q n h hz hl (by omega)) rfl rfl ?_
  rintro _ ⟨r, j, b, rfl, hf⟩
  cases hfe : famE ds n with
  | none =>
    rw [hfe] at hf
    obtain ⟨rfl, rfl, h23⟩ := hf
    have hdr : List.drop 23 (List.map AV.im r) = [] := List.drop_eq_nil_of_le (by simp [h23])
    simp -implicitDefEqProofs only [↓W_seq, go_sem, ↓reduceIte, Nat.reduceBEq, Nat.reduceAdd, Nat.reduceLeDiff, Nat.reduceEqDiff, reduceCtorEq, Int.reduceToNat, Int.reduceLE, Int.reduceLT, Int.reduceEq, Int.reduceNeg, Nat.reduceLT, Nat.reduceSub, Nat.reduceMul, hdr, h23]
    exact ⟨_, view_im _ _ _ _, _, _, _, _, rfl, rfl, rfl⟩
  | some dj =>
    obtain ⟨d, j'⟩ := dj
    rw [hfe] at hf
    obtain ⟨hE, rfl, rfl⟩ := hf
    have hE0 := hE
    obtain ⟨t0, t1, t2, t3, t4, v0, v1, v2, v3, v4, cz, ct, ces, u0, u1, u2, u3, u4, rz, rt, res, fz, ft, fes, rfl, hdk, hdn, hdp, hT, hV, hdf, hcz, hcl, hC, hrp, hU, hrz, hrl, hR, hfz, hfl, hF, hTn⟩ := hE
    simp -implicitDefEqProofs only [↓W_seq, go_sem, ↓reduceIte, Nat.reduceBEq, Nat.reduceAdd, Nat.reduceLeDiff, Nat.reduceEqDiff, reduceCtorEq, Int.reduceToNat, Int.reduceLE, Int.reduceLT, Int.reduceEq, Int.reduceNeg, Nat.reduceLT, Nat.reduceSub, Nat.reduceMul]
    refine kdb_b (fun e2 => ?_) (fun e2 => ?_) <;> simp -implicitDefEqProofs only [↓W_seq, go_sem, ↓reduceIte, Nat.reduceBEq, Nat.reduceAdd, Nat.reduceLeDiff, Nat.reduceEqDiff, reduceCtorEq, Int.reduceToNat, Int.reduceLE, Int.reduceLT, Int.reduceEq, Int.reduceNeg, Nat.reduceLT, Nat.reduceSub, Nat.reduceMul, e2]
    · rw [if_neg (by have := of_decide_eq_true e2; omega)]
      exact ⟨_, view_im _ _ _ _, _, _, _, _, rfl, rfl, rfl⟩
    have e2 := of_decide_eq_false e2
    rw [if_pos (by omega)]
    obtain ⟨m, rfl, hm, hdm, hk3⟩ := famE_ctor hfe (by omega)
    have hcd := hcn d hdm
    have hml : m < ces.length := by rw [← hC.length]; exact hm
    obtain ⟨rfl, c, cr, hc1, hr1, hcE⟩ := hC.at hcz hml
    have hfo := hcd.2.2 hk3 c (List.mem_of_getElem? hc1)
    rw [show ((m : Int)).toNat = m by omega, hc1, Option.bind_some]
    have hal := Term.all_len c.type
    obtain ⟨_, _, _, _, _, _, _, _, hcn2⟩ := hcE
    obtain ⟨mf, hmf⟩ : ∃ n : Nat, d.fixed = n := ⟨d.fixed.toNat, by have := hcd.1; omega⟩
    rw [hmf] at hfo
    have hv : max 0 (IntKind.i64.wrap ((c.type.all.1.length : Int) - mf)) = (c.type.all.1.length : Int) - mf := by
      rw [wrap_id] <;> omega
    have hw2 : IntKind.i64.wrap ((mf : Int) + ((c.type.all.1.length : Int) - mf)) = c.type.all.1.length := by
      rw [wrap_id] <;> omega
    refine WC.pf (f102 d _ m hE0 hm) rfl rfl ?_
    rintro _ ⟨c', hc', rfl⟩
    rw [hc1] at hc'
    cases hc'
    rw [hmf, hv]
    simp -implicitDefEqProofs only [↓W_seq, go_sem, ↓reduceIte, Nat.reduceBEq, Nat.reduceAdd, Nat.reduceLeDiff, Nat.reduceEqDiff, reduceCtorEq, Int.reduceToNat, Int.reduceLE, Int.reduceLT, Int.reduceEq, Int.reduceNeg, Nat.reduceLT, Nat.reduceSub, Nat.reduceMul, hmf, hw2]
    refine kcd_not (fun e3 => ?_) (fun e3 => ?_) <;> simp -implicitDefEqProofs only [↓W_seq, go_sem, ↓reduceIte, Nat.reduceBEq, Nat.reduceAdd, Nat.reduceLeDiff, Nat.reduceEqDiff, reduceCtorEq, Int.reduceToNat, Int.reduceLE, Int.reduceLT, Int.reduceEq, Int.reduceNeg, Nat.reduceLT, Nat.reduceSub, Nat.reduceMul, e3]
    rotate_left
    · rw [if_neg (by intro h; rw [hae.length] at h; exact of_decide_eq_false e3 (by omega))]
      exact ⟨_, view_im _ _ _ _, _, _, _, _, rfl, rfl, rfl⟩
    have e3 := of_decide_eq_true e3
    have hle : mf ≤ aes.length := by omega
    have hal2 := hae.length
    rw [hmf] at hE0
    simp -implicitDefEqProofs only [↓W_seq, go_sem, ↓reduceIte, Nat.reduceBEq, Nat.reduceAdd, Nat.reduceLeDiff, Nat.reduceEqDiff, reduceCtorEq, Int.reduceToNat, Int.reduceLE, Int.reduceLT, Int.reduceEq, Int.reduceNeg, Nat.reduceLT, Nat.reduceSub, Nat.reduceMul, hmf, hle, List.length_map, Nat.le_refl]
    rw [if_pos (show t.spine.2.length = c.type.all.1.length by omega)]
    refine ⟨_, view_tup4 (view_im _ _ _ _) (view_im _ _ _ _) (view_part (k := 4) rfl rfl (by omega)) (view_im _ _ _ _), _, _, _, _, rfl, rfl, rfl, hE0, _, _, _, rfl, ?_, .inl rfl, by simp only [List.length_take, List.length_drop]; omega⟩
    rw [List.take_of_length_le (by simp)]
    exact hae.drop mf
theorem Term.spine_args (t : Term) : ∀ x ∈ t.spine.2, x.nodes < t.nodes := by
  match t with
  | .mk k i n ls [a, b] =>
    by_cases hk : k = 4
    · subst hk
      rw [Term.spine_app, Term.nodes_mk]
      intro x hx
      simp only [Term.nodesL]
      rcases List.mem_append.1 hx with hx | hx
      · have := Term.spine_args a x hx; omega
      · simp at hx; subst hx; omega
    · rw [Term.spine_k hk]; simp
  | .mk k i n ls [] => rw [Term.spine_n (by simp)]; simp
  | .mk k i n ls [a] => rw [Term.spine_n (by simp)]; simp
  | .mk k i n ls (a :: b :: c :: l) => rw [Term.spine_n (by simp)]; simp
theorem consT_spec {ds : List Decl} {t : Term} {d : Decl} {j : Nat} {fs : List Term} (h : consT ds t = some (d, j, fs)) : d ∈ ds ∧ j < d.ctors.length ∧ (∀ x ∈ fs, x ∈ t.spine.2) := by
  unfold consT at h
  split at h
  · split at h
    · rename_i d' j' hf
      split at h
      · rename_i hj
        obtain ⟨n, rfl, hn, hd, _⟩ := famE_ctor hf hj
        obtain ⟨c, hc, h⟩ := Option.bind_eq_some_iff.1 h
        split at h
        · cases h
          exact ⟨hd, hn, fun x hx => List.mem_of_mem_drop hx⟩
        · cases h
      · cases h
    · cases h
  · cases h
/-- A recursive field by which a term is less. -/
def Hit (rel : Term → Int) (a x : Term) (m : Nat) : Prop := rel x ≠ 0 ∨ (a.spine.1.kind = 0 ∧ 0 < a.spine.2.length ∧ a.spine.1 = x ∧ m = a.spine.2.length)
open Classical in
/-- The relation of a term to another one. -/
noncomputable def relN (ds : List Decl) (a : Term) : Nat → Term → Int
  | 0, _ => 0
  | N + 1, p => if a = p then 1 else match consT ds p with
    | none => 0
    | some (d, j, fs) => if ∃ (i : Nat) (x : Term) (m : Nat), fs[i]? = some x ∧ (recsT d j).lookup i = some m ∧ Hit (relN ds a N) a x m then 2 else 0
open Classical in
theorem f13 (ds : List Decl) (es : List (List Imm)) (z : Nat) (q : Bool) (a : Term) (ra : List Imm) (h : All2 Decl.Enc ds es) (hz : z = 23 ∨ es = []) (hl : es.length ≤ lim) (hcn : ∀ d ∈ ds, d.cnt) (ha : a.Enc ra) (han : a.nodes ≤ lim) :
    ∀ (N : Nat) (p : Term) (rp : List Imm), p.nodes ≤ N → N ≤ lim → p.Enc rp → PF cx 13 [.sl z false q es, .agg ra, .agg rp] fun y => y = .i .i64 (relN ds a N p) := by
  intro N
  induction N with
  | zero => intro p rp hN; have := p.nodes_pos; omega
  | succ N ih =>
    intro p rp hN hNl hp
    have hlim : lim = 1073741824 := rfl
    have ha0 := ha
    have hp0 := hp
    have h55 := f55 ds es z q p rp h hz hl hp (by omega) hcn
    obtain ⟨a0, a1, a2, a3, a4, rfl⟩ := five ha.length
    obtain ⟨p0, p1, p2, p3, p4, rfl⟩ := five hp.length
    refine PF.intro (fn := Try.f13) Try.func13 rfl rfl ?_
    simp -implicitDefEqProofs only [↓W_seq, go_sem, ↓reduceIte, Nat.reduceBEq, Nat.reduceAdd, Nat.reduceLeDiff, Nat.reduceEqDiff, reduceCtorEq, Int.reduceToNat, Int.reduceLE, Int.reduceLT, Int.reduceEq, Int.reduceNeg, Nat.reduceLT, Nat.reduceSub, Nat.reduceMul]
    refine WC.pf (f54 _ _ _ _ _ (Nat.le_refl _) ha hp) rfl rfl ?_
    rintro _ ⟨b, rfl, hb⟩
    simp -implicitDefEqProofs only [↓W_seq, go_sem, ↓reduceIte, Nat.reduceBEq, Nat.reduceAdd, Nat.reduceLeDiff, Nat.reduceEqDiff, reduceCtorEq, Int.reduceToNat, Int.reduceLE, Int.reduceLT, Int.reduceEq, Int.reduceNeg, Nat.reduceLT, Nat.reduceSub, Nat.reduceMul]
    rw [relN]
    refine kcd_b (fun e1 => ?_) (fun e1 => ?_) <;> simp -implicitDefEqProofs only [↓W_seq, go_sem, ↓reduceIte, Nat.reduceBEq, Nat.reduceAdd, Nat.reduceLeDiff, Nat.reduceEqDiff, reduceCtorEq, Int.reduceToNat, Int.reduceLE, Int.reduceLT, Int.reduceEq, Int.reduceNeg, Nat.reduceLT, Nat.reduceSub, Nat.reduceMul, e1]
    · rw [if_pos (hb.1 e1)]
      exact ⟨_, rfl, rfl⟩
    rw [if_neg (fun h => by rw [e1] at hb; exact absurd (hb.2 h) (by simp))]
    refine WC.pf h55 rfl rfl ?_
    rintro _ ⟨r, b2, rfl, hr⟩
    cases hct : consT ds p with
    | none =>
      rw [hct] at hr
      obtain ⟨rfl, h25⟩ := hr
      have hdr : List.drop 25 (List.map AV.im r) = [] := List.drop_eq_nil_of_le (by simp [h25])
      simp -implicitDefEqProofs only [↓W_seq, go_sem, ↓reduceIte, Nat.reduceBEq, Nat.reduceAdd, Nat.reduceLeDiff, Nat.reduceEqDiff, reduceCtorEq, Int.reduceToNat, Int.reduceLE, Int.reduceLT, Int.reduceEq, Int.reduceNeg, Nat.reduceLT, Nat.reduceSub, Nat.reduceMul, hdr, h25]
      exact ⟨_, rfl, rfl⟩
    | some v =>
      obtain ⟨d, j, fs⟩ := v
      rw [hct] at hr
      obtain ⟨rfl, dr, _, rfl, hE, xes, xz, xt, rfl, hxe, hxz, hxl⟩ := hr
      obtain ⟨hdm, hjc, hfa⟩ := consT_spec hct
      have h57 := f57 d dr j (.sl xz false xt xes) hE (hcn d hdm) hjc
      have hE0 := hE
      obtain ⟨t0, t1, t2, t3, t4, v0, v1, v2, v3, v4, cz, ct, ces, u0, u1, u2, u3, u4, rz, rt, res, fz, ft, fes, rfl, hdk, hdn, hdp, hT, hV, hdf, hcz, hcl, hC, hrp, hU, hrz, hrl, hR, hfz, hfl, hF, hTn⟩ := hE
      simp -implicitDefEqProofs only [↓W_seq, go_sem, ↓reduceIte, Nat.reduceBEq, Nat.reduceAdd, Nat.reduceLeDiff, Nat.reduceEqDiff, reduceCtorEq, Int.reduceToNat, Int.reduceLE, Int.reduceLT, Int.reduceEq, Int.reduceNeg, Nat.reduceLT, Nat.reduceSub, Nat.reduceMul]
      have h56 := f56 _ _ ha han
      refine WC.pv h56 rfl rfl rfl ?_
      rintro _ ⟨_, s, rfl, ⟨aes, az, at_, rfl, hae, haz, hal⟩, hs⟩
      obtain ⟨s0, s1, s2, s3, s4, rfl⟩ := five hs.length
      cases hs.hd
      simp -implicitDefEqProofs only [↓W_seq, go_sem, ↓reduceIte, Nat.reduceBEq, Nat.reduceAdd, Nat.reduceLeDiff, Nat.reduceEqDiff, reduceCtorEq, Int.reduceToNat, Int.reduceLE, Int.reduceLT, Int.reduceEq, Int.reduceNeg, Nat.reduceLT, Nat.reduceSub, Nat.reduceMul]
      refine WC.pv h57 rfl rfl rfl ?_
      rintro _ hmap
      rename_i y
      have hlk : ∀ (H : AHeap) (x : Nat), alookup cx.P 99 (.im y) (.im (.i .i64 x)) true H = some (.im (.tup [.i .i64 (((recsT d j).lookup x).getD 0 : Nat), .b ((recsT d j).lookup x).isSome])) := fun H x => by
        rcases hmap with ⟨rfl, h⟩ | rfl
        · rw [h]; exact lk99n x H
        · exact lk99 _ _ _ _
      simp -implicitDefEqProofs only [↓W_seq, go_sem, ↓reduceIte, Nat.reduceBEq, Nat.reduceAdd, Nat.reduceLeDiff, Nat.reduceEqDiff, reduceCtorEq, Int.reduceToNat, Int.reduceLE, Int.reduceLT, Int.reduceEq, Int.reduceNeg, Nat.reduceLT, Nat.reduceSub, Nat.reduceMul]
      have done2 : (∃ (i : Nat) (x : Term) (m : Nat), fs[i]? = some x ∧ (recsT d j).lookup i = some m ∧ Hit (relN ds a N) a x m) → ∃ d_1, AV.im (.i .i64 2) = .im d_1 ∧ d_1 = .i .i64 (if ∃ (i : Nat) (x : Term) (m : Nat), fs[i]? = some x ∧ (recsT d j).lookup i = some m ∧ Hit (relN ds a N) a x m then 2 else 0) := fun h => by
        rw [if_pos h]; exact ⟨_, rfl, rfl⟩
      refine WL.upto xes.length (fun i st => (∀ k, k < i → ∀ x m, fs[k]? = some x → (recsT d j).lookup k = some m → ¬Hit (relN ds a N) a x m) ∧ ∃ (X : AObj) (G : AHeap), st = ⟨[(0, .im (.sl z false q es)), (4, .im (.ip 5 false [[a0, a1, a2, a3, a4]] 0 0)), (9, .ptr 1 1 0 0), (10, .im (.sl az false at_ aes)), (11, .im y), (35, .im (.sl xz false xt xes)), (36, .im (.i .i64 xes.length)), (37, .im (.i .i64 i))], [],
        X :: .row [[.im (.i .i64 a.spine.1.kind), .im s1, .im s2, .im s3, .im s4]] 5 26 :: G⟩) ?_ ⟨by intros; omega, _, _, rfl⟩
      rintro i st hi ⟨hI, X, G, rfl⟩
      simp -implicitDefEqProofs only [↓W_seq, go_sem, ↓reduceIte, Nat.reduceBEq, Nat.reduceAdd, Nat.reduceLeDiff, Nat.reduceEqDiff, reduceCtorEq, Int.reduceToNat, Int.reduceLE, Int.reduceLT, Int.reduceEq, Int.reduceNeg, Nat.reduceLT, Nat.reduceSub, Nat.reduceMul]
      refine kcd_dec (fun h1 => ?_) (fun h1 => ?_)
      · have hi1 : i < xes.length := by omega
        obtain ⟨rfl, x, xr, hx, hxr, hxE⟩ := hxe.at hxz hi1
        have hxn : x.nodes ≤ N := by have := Term.spine_args p x (hfa x (List.mem_of_getElem? hx)); omega
        have hxE0 := hxE
        obtain ⟨x0, x1, x2, x3, x4, rfl⟩ := five hxE.length
        simp -implicitDefEqProofs only [↓W_seq, go_sem, ↓reduceIte, Nat.reduceBEq, Nat.reduceAdd, Nat.reduceLeDiff, Nat.reduceEqDiff, reduceCtorEq, Int.reduceToNat, Int.reduceLE, Int.reduceLT, Int.reduceEq, Int.reduceNeg, Nat.reduceLT, Nat.reduceSub, Nat.reduceMul, hi1, hxr, hlk, wrap_succ hi1 hxl]
        cases hlm : (recsT d j).lookup i with
        | none =>
          simp -implicitDefEqProofs only [↓W_seq, go_sem, ↓reduceIte, Nat.reduceBEq, Nat.reduceAdd, Nat.reduceLeDiff, Nat.reduceEqDiff, reduceCtorEq, Int.reduceToNat, Int.reduceLE, Int.reduceLT, Int.reduceEq, Int.reduceNeg, Nat.reduceLT, Nat.reduceSub, Nat.reduceMul, wrap_succ hi1 hxl]
          refine ⟨fun k hk x' m' hx' hm' => ?_, _, _, rfl⟩
          rcases Nat.lt_succ_iff_lt_or_eq.1 hk with hk | rfl
          · exact hI k hk x' m' hx' hm'
          · rw [hlm] at hm'; cases hm'
        | some m =>
          simp -implicitDefEqProofs only [↓W_seq, go_sem, ↓reduceIte, Nat.reduceBEq, Nat.reduceAdd, Nat.reduceLeDiff, Nat.reduceEqDiff, reduceCtorEq, Int.reduceToNat, Int.reduceLE, Int.reduceLT, Int.reduceEq, Int.reduceNeg, Nat.reduceLT, Nat.reduceSub, Nat.reduceMul, Option.getD_some]
          refine WC.pf (ih x _ hxn (by omega) hxE0) rfl rfl ?_
          rintro _ rfl
          simp -implicitDefEqProofs only [↓W_seq, go_sem, ↓reduceIte, Nat.reduceBEq, Nat.reduceAdd, Nat.reduceLeDiff, Nat.reduceEqDiff, reduceCtorEq, Int.reduceToNat, Int.reduceLE, Int.reduceLT, Int.reduceEq, Int.reduceNeg, Nat.reduceLT, Nat.reduceSub, Nat.reduceMul]
          refine kcd_not (fun e2 => ?_) (fun e2 => ?_) <;> simp -implicitDefEqProofs only [↓W_seq, go_sem, ↓reduceIte, Nat.reduceBEq, Nat.reduceAdd, Nat.reduceLeDiff, Nat.reduceEqDiff, reduceCtorEq, Int.reduceToNat, Int.reduceLE, Int.reduceLT, Int.reduceEq, Int.reduceNeg, Nat.reduceLT, Nat.reduceSub, Nat.reduceMul, e2]
          rotate_left
          · exact done2 ⟨i, x, m, hx, hlm, .inl (of_decide_eq_false e2)⟩
          have step : ¬Hit (relN ds a N) a x m → ∀ k, k < i + 1 → ∀ x' m', fs[k]? = some x' → (recsT d j).lookup k = some m' → ¬Hit (relN ds a N) a x' m' := fun hn k hk x' m' hx' hm' => by
            rcases Nat.lt_succ_iff_lt_or_eq.1 hk with hk | rfl
            · exact hI k hk x' m' hx' hm'
            · rw [hlm] at hm'; cases hm'; rw [hx] at hx'; cases hx'; exact hn
          have e2 := of_decide_eq_true e2
          have e2 := Decidable.not_not.1 (fun h => h e2)
          refine kgb_b (fun e3 => ?_) (fun e3 => ?_) <;> simp -implicitDefEqProofs only [↓W_seq, go_sem, ↓reduceIte, Nat.reduceBEq, Nat.reduceAdd, Nat.reduceLeDiff, Nat.reduceEqDiff, reduceCtorEq, Int.reduceToNat, Int.reduceLE, Int.reduceLT, Int.reduceEq, Int.reduceNeg, Nat.reduceLT, Nat.reduceSub, Nat.reduceMul, e3, wrap_succ hi1 hxl]
          rotate_left
          · exact ⟨step (fun hh => hh.elim (fun h => h e2) fun h => of_decide_eq_false e3 h.1), _, _, rfl⟩
          have e3 := of_decide_eq_true e3
          refine kgb_b (fun e4 => ?_) (fun e4 => ?_) <;> simp -implicitDefEqProofs only [↓W_seq, go_sem, ↓reduceIte, Nat.reduceBEq, Nat.reduceAdd, Nat.reduceLeDiff, Nat.reduceEqDiff, reduceCtorEq, Int.reduceToNat, Int.reduceLE, Int.reduceLT, Int.reduceEq, Int.reduceNeg, Nat.reduceLT, Nat.reduceSub, Nat.reduceMul, e4, wrap_succ hi1 hxl]
          rotate_left
          · exact ⟨step (fun hh => hh.elim (fun h => h e2) fun h => of_decide_eq_false e4 (by rw [hae.length] at h; omega)), _, _, rfl⟩
          have e4 := of_decide_eq_true e4
          refine WC.pf (f54 _ _ _ _ _ (Nat.le_refl _) hs hxE0) rfl rfl ?_
          rintro _ ⟨b5, rfl, hb5⟩
          simp -implicitDefEqProofs only [↓W_seq, go_sem, ↓reduceIte, Nat.reduceBEq, Nat.reduceAdd, Nat.reduceLeDiff, Nat.reduceEqDiff, reduceCtorEq, Int.reduceToNat, Int.reduceLE, Int.reduceLT, Int.reduceEq, Int.reduceNeg, Nat.reduceLT, Nat.reduceSub, Nat.reduceMul]
          refine kgb_b (fun e5 => ?_) (fun e5 => ?_) <;> simp -implicitDefEqProofs only [↓W_seq, go_sem, ↓reduceIte, Nat.reduceBEq, Nat.reduceAdd, Nat.reduceLeDiff, Nat.reduceEqDiff, reduceCtorEq, Int.reduceToNat, Int.reduceLE, Int.reduceLT, Int.reduceEq, Int.reduceNeg, Nat.reduceLT, Nat.reduceSub, Nat.reduceMul, e5, wrap_succ hi1 hxl]
          rotate_left
          · exact ⟨step (fun hh => hh.elim (fun h => h e2) fun h => by rw [hb5.2 h.2.2.1] at e5; cases e5), _, _, rfl⟩
          have e5 := hb5.1 e5
          refine kcd_b (fun e6 => ?_) (fun e6 => ?_) <;> simp -implicitDefEqProofs only [↓W_seq, go_sem, ↓reduceIte, Nat.reduceBEq, Nat.reduceAdd, Nat.reduceLeDiff, Nat.reduceEqDiff, reduceCtorEq, Int.reduceToNat, Int.reduceLE, Int.reduceLT, Int.reduceEq, Int.reduceNeg, Nat.reduceLT, Nat.reduceSub, Nat.reduceMul, e6, wrap_succ hi1 hxl]
          · have e6 := of_decide_eq_true e6
            exact done2 ⟨i, x, m, hx, hlm, .inr ⟨e3, by rw [hae.length]; omega, e5, by rw [hae.length]; omega⟩⟩
          · exact ⟨step (fun hh => hh.elim (fun h => h e2) fun h => of_decide_eq_false e6 (by rw [hae.length] at h; omega)), _, _, rfl⟩
      · have hie : i = xes.length := by omega
        simp -implicitDefEqProofs only [↓W_seq, go_sem, ↓reduceIte, Nat.reduceBEq, Nat.reduceAdd, Nat.reduceLeDiff, Nat.reduceEqDiff, reduceCtorEq, Int.reduceToNat, Int.reduceLE, Int.reduceLT, Int.reduceEq, Int.reduceNeg, Nat.reduceLT, Nat.reduceSub, Nat.reduceMul]
        rw [if_neg]
        · exact ⟨_, rfl, rfl⟩
        · rintro ⟨k, x, m, hx, hm, hh⟩
          exact hI k (by have := (List.getElem?_eq_some_iff.1 hx).1; rw [hxe.length] at this; omega) x m hx hm hh
open Classical in
theorem f14 (ds : List Decl) (es : List (List Imm)) (z : Nat) (q : Bool) (a : Term) (ra : List Imm) (h : All2 Decl.Enc ds es) (hz : z = 23 ∨ es = []) (hl : es.length ≤ lim) (hcn : ∀ d ∈ ds, d.cnt) (ha : a.Enc ra) (han : a.nodes ≤ lim) :
    ∀ (N : Nat) (p : Term) (rp : List Imm), p.nodes ≤ N → N ≤ lim → p.Enc rp → PF cx 14 [.sl z false q es, .agg ra, .agg rp] fun y => y = .i .i64 (relN ds a N p) := by
  intro N
  induction N with
  | zero => intro p rp hN; have := p.nodes_pos; omega
  | succ N ih =>
    intro p rp hN hNl hp
    have hlim : lim = 1073741824 := rfl
    have hsl := Term.spine_len a
    have h59 := f59 ds es z q p rp h hz hl hp (by omega) hcn
    have ha0 := ha
    obtain ⟨a0, a1, a2, a3, a4, rfl⟩ := five ha.length
    obtain ⟨p0, p1, p2, p3, p4, rfl⟩ := five hp.length
    refine PF.intro (fn := Try.f14) Try.func14 rfl rfl ?_
    simp -implicitDefEqProofs only [↓W_seq, go_sem, ↓reduceIte, Nat.reduceBEq, Nat.reduceAdd, Nat.reduceLeDiff, Nat.reduceEqDiff, reduceCtorEq, Int.reduceToNat, Int.reduceLE, Int.reduceLT, Int.reduceEq, Int.reduceNeg, Nat.reduceLT, Nat.reduceSub, Nat.reduceMul]
    refine WC.pf (f58 _ _ _ _ _ (Nat.le_refl _) ha hp) rfl rfl ?_
    rintro _ ⟨b, rfl, hb⟩
    simp -implicitDefEqProofs only [↓W_seq, go_sem, ↓reduceIte, Nat.reduceBEq, Nat.reduceAdd, Nat.reduceLeDiff, Nat.reduceEqDiff, reduceCtorEq, Int.reduceToNat, Int.reduceLE, Int.reduceLT, Int.reduceEq, Int.reduceNeg, Nat.reduceLT, Nat.reduceSub, Nat.reduceMul]
    rw [relN]
    refine kcd_b (fun e1 => ?_) (fun e1 => ?_) <;> simp -implicitDefEqProofs only [↓W_seq, go_sem, ↓reduceIte, Nat.reduceBEq, Nat.reduceAdd, Nat.reduceLeDiff, Nat.reduceEqDiff, reduceCtorEq, Int.reduceToNat, Int.reduceLE, Int.reduceLT, Int.reduceEq, Int.reduceNeg, Nat.reduceLT, Nat.reduceSub, Nat.reduceMul, e1]
    · rw [if_pos (hb.1 e1)]
      exact ⟨_, rfl, rfl⟩
    rw [if_neg (fun h => by rw [e1] at hb; exact absurd (hb.2 h) (by simp))]
    refine WC.pv h59 rfl rfl rfl ?_
    rintro _ ⟨r, y, j', b2, rfl, hr⟩
    cases hct : consT ds p with
    | none =>
      rw [hct] at hr
      obtain ⟨rfl, h23⟩ := hr
      have hdr : List.drop 23 (List.map AV.im r) = [] := List.drop_eq_nil_of_le (by simp [h23])
      simp -implicitDefEqProofs only [↓W_seq, go_sem, ↓reduceIte, Nat.reduceBEq, Nat.reduceAdd, Nat.reduceLeDiff, Nat.reduceEqDiff, reduceCtorEq, Int.reduceToNat, Int.reduceLE, Int.reduceLT, Int.reduceEq, Int.reduceNeg, Nat.reduceLT, Nat.reduceSub, Nat.reduceMul, hdr, h23]
      exact ⟨_, rfl, rfl⟩
    | some v =>
      obtain ⟨d, j, fs⟩ := v
      rw [hct] at hr
      obtain ⟨rfl, rfl, hE, xes, xz, xt, rfl, hxe, hxz, hxl⟩ := hr
      obtain ⟨hdm, hjc, hfa⟩ := consT_spec hct
      have h60 := fun i : Nat => f60 d r j i hE (hcn d hdm) hjc
      have hE0 := hE
      obtain ⟨t0, t1, t2, t3, t4, v0, v1, v2, v3, v4, cz, ct, ces, u0, u1, u2, u3, u4, rz, rt, res, fz, ft, fes, rfl, hdk, hdn, hdp, hT, hV, hdf, hcz, hcl, hC, hrp, hU, hrz, hrl, hR, hfz, hfl, hF, hTn⟩ := hE
      simp -implicitDefEqProofs only [↓W_seq, go_sem, ↓reduceIte, Nat.reduceBEq, Nat.reduceAdd, Nat.reduceLeDiff, Nat.reduceEqDiff, reduceCtorEq, Int.reduceToNat, Int.reduceLE, Int.reduceLT, Int.reduceEq, Int.reduceNeg, Nat.reduceLT, Nat.reduceSub, Nat.reduceMul]
      refine WC.po (f15 _ a _ han (Nat.le_refl _) ha) rfl rfl rfl ?_
      rintro _ aes _ _ ⟨s, rfl, hs, hae, rfl, rfl⟩
      obtain ⟨s0, s1, s2, s3, s4, rfl⟩ := five hs.length
      cases hs.hd
      have hal := hae.length
      simp -implicitDefEqProofs only [↓W_seq, go_sem, ↓reduceIte, Nat.reduceBEq, Nat.reduceAdd, Nat.reduceLeDiff, Nat.reduceEqDiff, reduceCtorEq, Int.reduceToNat, Int.reduceLE, Int.reduceLT, Int.reduceEq, Int.reduceNeg, Nat.reduceLT, Nat.reduceSub, Nat.reduceMul]
      have done2 : (∃ (i : Nat) (x : Term) (m : Nat), fs[i]? = some x ∧ (recsT d j).lookup i = some m ∧ Hit (relN ds a N) a x m) → ∃ d_1, AV.im (.i .i64 2) = .im d_1 ∧ d_1 = .i .i64 (if ∃ (i : Nat) (x : Term) (m : Nat), fs[i]? = some x ∧ (recsT d j).lookup i = some m ∧ Hit (relN ds a N) a x m then 2 else 0) := fun h => by
        rw [if_pos h]; exact ⟨_, rfl, rfl⟩
      refine WL.upto xes.length (fun i st => (∀ k, k < i → ∀ x m, fs[k]? = some x → (recsT d j).lookup k = some m → ¬Hit (relN ds a N) a x m) ∧ ∃ (G : AHeap), st = ⟨[(0, .im (.sl z false q es)), (4, .im (.ip 5 false [[a0, a1, a2, a3, a4]] 0 0)), (7, .ptr 0 1 0 0), (8, .im (.i .i64 j)), (9, .im (.sl xz false xt xes)), (11, .ptr 2 1 0 0), (12, .sl 1 aes.length 0 aes.length), (13, .im (.i .i64 i))], [],
        .row [[.im (.i .i64 d.kind), .im (.s d.name), .im (.i .i64 d.params), .im t0, .im t1, .im t2, .im t3, .im t4, .im v0, .im v1, .im v2, .im v3, .im v4, .im (.i .i64 d.fixed), .im (.sl cz false ct ces), .im (.i .i64 d.recParams), .im u0, .im u1, .im u2, .im u3, .im u4, .im (.sl rz false rt res), .im (.sl fz false ft fes)]] 23 54 ::
        .row (aes.map fun x => x.map .im) 5 26 :: .row [[.im (.i .i64 a.spine.1.kind), .im s1, .im s2, .im s3, .im s4]] 5 26 :: G⟩) ?_ ⟨by intros; omega, _, rfl⟩
      rintro i st hi ⟨hI, G, rfl⟩
      simp -implicitDefEqProofs only [↓W_seq, go_sem, ↓reduceIte, Nat.reduceBEq, Nat.reduceAdd, Nat.reduceLeDiff, Nat.reduceEqDiff, reduceCtorEq, Int.reduceToNat, Int.reduceLE, Int.reduceLT, Int.reduceEq, Int.reduceNeg, Nat.reduceLT, Nat.reduceSub, Nat.reduceMul]
      refine kcd_dec (fun h1 => ?_) (fun h1 => ?_)
      · have hi1 : i < xes.length := by omega
        obtain ⟨rfl, x, xr, hx, hxr, hxE⟩ := hxe.at hxz hi1
        have hxn : x.nodes ≤ N := by have := Term.spine_args p x (hfa x (List.mem_of_getElem? hx)); omega
        have hxE0 := hxE
        obtain ⟨x0, x1, x2, x3, x4, rfl⟩ := five hxE.length
        simp -implicitDefEqProofs only [↓W_seq, go_sem, ↓reduceIte, Nat.reduceBEq, Nat.reduceAdd, Nat.reduceLeDiff, Nat.reduceEqDiff, reduceCtorEq, Int.reduceToNat, Int.reduceLE, Int.reduceLT, Int.reduceEq, Int.reduceNeg, Nat.reduceLT, Nat.reduceSub, Nat.reduceMul, hi1, hxr]
        refine WC.pf (h60 i) rfl rfl ?_
        rintro _ rfl
        simp -implicitDefEqProofs only [↓W_seq, go_sem, ↓reduceIte, Nat.reduceBEq, Nat.reduceAdd, Nat.reduceLeDiff, Nat.reduceEqDiff, reduceCtorEq, Int.reduceToNat, Int.reduceLE, Int.reduceLT, Int.reduceEq, Int.reduceNeg, Nat.reduceLT, Nat.reduceSub, Nat.reduceMul, wrap_succ hi1 hxl]
        cases hlm : (recsT d j).lookup i with
        | none =>
          simp -implicitDefEqProofs only [↓W_seq, go_sem, ↓reduceIte, Nat.reduceBEq, Nat.reduceAdd, Nat.reduceLeDiff, Nat.reduceEqDiff, reduceCtorEq, Int.reduceToNat, Int.reduceLE, Int.reduceLT, Int.reduceEq, Int.reduceNeg, Nat.reduceLT, Nat.reduceSub, Nat.reduceMul, wrap_succ hi1 hxl]
          refine ⟨fun k hk x' m' hx' hm' => ?_, _, rfl⟩
          rcases Nat.lt_succ_iff_lt_or_eq.1 hk with hk | rfl
          · exact hI k hk x' m' hx' hm'
          · rw [hlm] at hm'; cases hm'
        | some m =>
          simp -implicitDefEqProofs only [↓W_seq, go_sem, ↓reduceIte, Nat.reduceBEq, Nat.reduceAdd, Nat.reduceLeDiff, Nat.reduceEqDiff, reduceCtorEq, Int.reduceToNat, Int.reduceLE, Int.reduceLT, Int.reduceEq, Int.reduceNeg, Nat.reduceLT, Nat.reduceSub, Nat.reduceMul, Option.getD_some, hi1, hxr]
          refine WC.pf (ih x _ hxn (by omega) hxE0) rfl rfl ?_
          rintro _ rfl
          simp -implicitDefEqProofs only [↓W_seq, go_sem, ↓reduceIte, Nat.reduceBEq, Nat.reduceAdd, Nat.reduceLeDiff, Nat.reduceEqDiff, reduceCtorEq, Int.reduceToNat, Int.reduceLE, Int.reduceLT, Int.reduceEq, Int.reduceNeg, Nat.reduceLT, Nat.reduceSub, Nat.reduceMul]
          refine kcd_not (fun e2 => ?_) (fun e2 => ?_) <;> simp -implicitDefEqProofs only [↓W_seq, go_sem, ↓reduceIte, Nat.reduceBEq, Nat.reduceAdd, Nat.reduceLeDiff, Nat.reduceEqDiff, reduceCtorEq, Int.reduceToNat, Int.reduceLE, Int.reduceLT, Int.reduceEq, Int.reduceNeg, Nat.reduceLT, Nat.reduceSub, Nat.reduceMul, e2]
          rotate_left
          · exact done2 ⟨i, x, m, hx, hlm, .inl (of_decide_eq_false e2)⟩
          have step : ¬Hit (relN ds a N) a x m → ∀ k, k < i + 1 → ∀ x' m', fs[k]? = some x' → (recsT d j).lookup k = some m' → ¬Hit (relN ds a N) a x' m' := fun hn k hk x' m' hx' hm' => by
            rcases Nat.lt_succ_iff_lt_or_eq.1 hk with hk | rfl
            · exact hI k hk x' m' hx' hm'
            · rw [hlm] at hm'; cases hm'; rw [hx] at hx'; cases hx'; exact hn
          have e2 := of_decide_eq_true e2
          have e2 := Decidable.not_not.1 (fun h => h e2)
          refine kdb_b (fun e3 => ?_) (fun e3 => ?_) <;> simp -implicitDefEqProofs only [↓W_seq, go_sem, ↓reduceIte, Nat.reduceBEq, Nat.reduceAdd, Nat.reduceLeDiff, Nat.reduceEqDiff, reduceCtorEq, Int.reduceToNat, Int.reduceLE, Int.reduceLT, Int.reduceEq, Int.reduceNeg, Nat.reduceLT, Nat.reduceSub, Nat.reduceMul, e3, wrap_succ hi1 hxl, List.length_map]
          rotate_left
          · exact ⟨step (fun hh => hh.elim (fun h => h e2) fun h => of_decide_eq_false e3 h.1), _, rfl⟩
          have e3 := of_decide_eq_true e3
          refine kdb_b (fun e4 => ?_) (fun e4 => ?_) <;> simp -implicitDefEqProofs only [↓W_seq, go_sem, ↓reduceIte, Nat.reduceBEq, Nat.reduceAdd, Nat.reduceLeDiff, Nat.reduceEqDiff, reduceCtorEq, Int.reduceToNat, Int.reduceLE, Int.reduceLT, Int.reduceEq, Int.reduceNeg, Nat.reduceLT, Nat.reduceSub, Nat.reduceMul, e4, wrap_succ hi1 hxl, List.length_map, hi1, hxr]
          rotate_left
          · exact ⟨step (fun hh => hh.elim (fun h => h e2) fun h => of_decide_eq_false e4 (by rw [hae.length] at h; omega)), _, rfl⟩
          have e4 := of_decide_eq_true e4
          refine WC.pf (f58 _ _ _ _ _ (Nat.le_refl _) hs hxE0) rfl rfl ?_
          rintro _ ⟨b5, rfl, hb5⟩
          simp -implicitDefEqProofs only [↓W_seq, go_sem, ↓reduceIte, Nat.reduceBEq, Nat.reduceAdd, Nat.reduceLeDiff, Nat.reduceEqDiff, reduceCtorEq, Int.reduceToNat, Int.reduceLE, Int.reduceLT, Int.reduceEq, Int.reduceNeg, Nat.reduceLT, Nat.reduceSub, Nat.reduceMul]
          refine kdb_b (fun e5 => ?_) (fun e5 => ?_) <;> simp -implicitDefEqProofs only [↓W_seq, go_sem, ↓reduceIte, Nat.reduceBEq, Nat.reduceAdd, Nat.reduceLeDiff, Nat.reduceEqDiff, reduceCtorEq, Int.reduceToNat, Int.reduceLE, Int.reduceLT, Int.reduceEq, Int.reduceNeg, Nat.reduceLT, Nat.reduceSub, Nat.reduceMul, e5, wrap_succ hi1 hxl, List.length_map]
          rotate_left
          · exact ⟨step (fun hh => hh.elim (fun h => h e2) fun h => by rw [hb5.2 h.2.2.1] at e5; cases e5), _, rfl⟩
          have e5 := hb5.1 e5
          refine kcd_b (fun e6 => ?_) (fun e6 => ?_) <;> simp -implicitDefEqProofs only [↓W_seq, go_sem, ↓reduceIte, Nat.reduceBEq, Nat.reduceAdd, Nat.reduceLeDiff, Nat.reduceEqDiff, reduceCtorEq, Int.reduceToNat, Int.reduceLE, Int.reduceLT, Int.reduceEq, Int.reduceNeg, Nat.reduceLT, Nat.reduceSub, Nat.reduceMul, e6, wrap_succ hi1 hxl]
          · have e6 := of_decide_eq_true e6
            exact done2 ⟨i, x, m, hx, hlm, .inr ⟨e3, by rw [hae.length]; omega, e5, by rw [hae.length]; omega⟩⟩
          · exact ⟨step (fun hh => hh.elim (fun h => h e2) fun h => of_decide_eq_false e6 (by rw [hae.length] at h; omega)), _, rfl⟩
      · have hie : i = xes.length := by omega
        simp -implicitDefEqProofs only [↓W_seq, go_sem, ↓reduceIte, Nat.reduceBEq, Nat.reduceAdd, Nat.reduceLeDiff, Nat.reduceEqDiff, reduceCtorEq, Int.reduceToNat, Int.reduceLE, Int.reduceLT, Int.reduceEq, Int.reduceNeg, Nat.reduceLT, Nat.reduceSub, Nat.reduceMul]
        rw [if_neg]
        · exact ⟨_, rfl, rfl⟩
        · rintro ⟨k, x, m, hx, hm, hh⟩
          exact hI k (by have := (List.getElem?_eq_some_iff.1 hx).1; rw [hxe.length] at this; omega) x m hx hm hh
end Go.Proofs.Ytnbbhbbhgcipjaa.Am
