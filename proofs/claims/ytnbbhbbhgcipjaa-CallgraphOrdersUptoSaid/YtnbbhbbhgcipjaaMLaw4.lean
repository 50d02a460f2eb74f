/-
  CallgraphOrders returns true at every input of bounded bulk, and its arguments read as before.
-/
import Derived.Test.YtnbbhbbhgcipjaaMF15
import Derived.Test.YtnbbhbbhgcipjaaMLaw
set_option linter.unusedVariables false
set_option linter.unnecessarySimpa false
set_option linter.unusedSimpArgs false
set_option linter.unusedSectionVars false
namespace Go.Proofs.Ytnbbhbbhgcipjaa.Am
open Go.ChangeShapes Go.WideShapes Go.ChangeAt Go.RowKit
theorem u31 : Try.prog.underlying 31 = some (.array 3 26) := by kernel_rfl
theorem c31 : Try.prog.cellsOf 31 = 15 := by kernel_rfl
theorem okWide_arr {P : Program} {t n e : Nat} (ht : P.underlying t = some (.array n e)) {W : World} {r : Reach} {b0 : Nat} {v : Value} (h : Value.okWide P W r b0 t v) : ∃ cs, v = .agg cs := by
  unfold Value.okWide at h
  rw [ht] at h
  obtain ⟨cs, rfl, _⟩ := h
  exact ⟨cs, rfl⟩
/-- Three terms in an array. -/
theorem rd31 {w : World} {H : Type} {enc : TypeId × Value → H} {fuel : Nat} : Rds enc Try.prog w fuel 31 (fun (x : Term × Term × Term) is => ∃ ra rb rc, is = ra ++ (rb ++ rc) ∧ x.1.Enc ra ∧ x.2.1.Enc rb ∧ x.2.2.Enc rc) (fun x => x.1.nodes + x.2.1.nodes + x.2.2.nodes) := by
  intro cs x h hb
  obtain ⟨xs, n, rfl, hx, hl, hxl, hi⟩ := DataW.trod_array u31 h
  obtain ⟨x0, x1, x2, rfl⟩ := len3 hxl
  subst hx
  simp only [List.map_cons, List.map_nil, Rows.uptoBulk, Rows.uptoBulkAll] at hb
  have h0 := hi 0 (by decide)
  have h1 := hi 1 (by decide)
  have h2 := hi 2 (by decide)
  obtain ⟨a0, i0, r0, e0, m0⟩ := rd26 _ _ h0 (by omega)
  obtain ⟨a1, i1, r1, e1, m1⟩ := rd26 _ _ h1 (by omega)
  obtain ⟨a2, i2, r2, e2, m2⟩ := rd26 _ _ h2 (by omega)
  simp only [c26] at r0 r1 r2
  have hr : Rdc w _ cs := (r0.cut (o := 0) (n := 5) (r1.cut (o := 5) (n := 5) (r2.cut (o := 10) (n := 5) (Rdc.nil (o := 15) (by rw [hl, c31]; exact Nat.le_refl _)))))
  refine ⟨(a0, a1, a2), _, hr, ⟨i0, i1, i2, by simp, e0, e1, e2⟩, ?_⟩
  simp only [List.map_cons, List.map_nil, Rows.uptoBulk, Rows.uptoBulkAll]
  omega
theorem params4 : Try.f4.params = #[22, 31] := by kernel_rfl
theorem results4 : Try.f4.resultTypes = #[4] := by kernel_rfl
theorem readable4 : ∀ t ∈ Try.f4.params.toList, Try.prog.readableRec t = true ∧ t < Try.prog.types.size := by
  rw [params4]
  have h : ([22, 31].all fun t => Try.prog.readableRec t && decide (t < Try.prog.types.size)) = true := by kernel_rfl
  intro t ht
  simpa using List.all_eq_true.1 h t ht
set_option maxRecDepth 100000 in
theorem contract4 (H : Type) (enc : TypeId × Value → H) (W : World) (base : Nat) (args : Array Value) (ds gs : List (DataW H)) (before : List MemPlace)
    (hval : ∀ (j : Nat) t v, Try.f4.params[j]? = some t → args[j]? = some v → Value.okWide Try.prog W .any base t v)
    (hW : DataW.Whole enc Try.prog Try.f4.params.toList Rows.callgraphOrdersSpec.vars false W args.toList ds gs before) (hk : Rows.uptoSmall H (ds ++ gs) = true) :
    Calls Try.prog 4 args W fun e W' => ∃ v, e = .returned v ∧ Rows.callgraphOrdersSpec.post enc Try.prog Try.f4 false true false false W args v W' := by
  have hW' := hW
  obtain ⟨p, q, hA, hV, rfl, hfz, hnd⟩ := hW
  have hbk : Rows.uptoBulkAll (ds ++ gs) ≤ 1048576 := of_decide_eq_true hk
  rw [params4] at hA hval
  obtain ⟨v0, vs0, d0, ds0, p0, q0, hargs, rfl, rfl, h0, r0⟩ := trodAll_cons hA
  obtain ⟨v1, vs1, d1, ds1, p1, q1, rfl, rfl, rfl, h1, r1⟩ := trodAll_cons r0
  obtain ⟨rfl, rfl, rfl⟩ := trodAll_nil r1
  obtain rfl : args = #[v0, v1] := by cases args; simp_all
  simp only [List.cons_append, Rows.uptoBulkAll] at hbk
  have k0 : (#[22, 31] : Array TypeId)[0]? = some 22 := rfl
  have k1 : (#[22, 31] : Array TypeId)[1]? = some 31 := rfl
  have hv0 := hval 0 22 v0 k0 rfl
  have hv1 := hval 1 31 v1 k1 rfl
  obtain ⟨ds', i0, g0, ⟨z, t, es, hi0, hes, hz, hl⟩, _⟩ := arg_one (okWide_sl u22 hv0) h0 (fun _ => rd22) (by omega)
  cases hi0
  obtain ⟨cs, rfl⟩ := okWide_arr u31 hv1
  obtain ⟨fuel, hf⟩ := h1
  obtain ⟨⟨a, b, c⟩, is, ⟨g1, g2⟩, ⟨ra, rb, rc, rfl, ha, hb, hc⟩, hm⟩ := rd31 (fuel := fuel) _ _ hf (show Rows.uptoBulk d1 ≤ 1048576 by omega)
  have hm : a.nodes + b.nodes + c.nodes ≤ Rows.uptoBulk d1 := hm
  have hrun := f4 ds' es z t a b c ra rb rc hes hz (le_lim hl) ha (le_lim (by omega)) hb (le_lim (by omega)) hc (le_lim (by omega))
  have hrep : RepL W No No [.sl z false t es, .agg (ra ++ (rb ++ rc))] [v0, .agg cs] := ⟨_, _, rfl, g0, _, _, rfl, ⟨cs, rfl, g1, g2⟩, rfl⟩
  obtain ⟨d, hd, hc⟩ := PF.calls hrun mixed fits (cas := #[v0, .agg cs]) (w := W) hrep
  subst hd
  have hfn : Rows.callgraphOrdersSpec.fn H [d0, d1] = { results := [.lit (.bool true)], args := [d0, d1] } := rfl
  exact hc.mono fun e W' hs => post_of_says (P := Try.prog) (f := Try.f4) (s := Rows.callgraphOrdersSpec) laid rfl results4 u4 readable4 hfn hW' hs
set_option maxRecDepth 100000 in
theorem lifted4 (os : Os) (started : os.Started) (H : Type) (enc : TypeId × Value → H) (F : Stop.Interp) :
    ReturnsInHanded {} Try.checked os 4 .any ((Rows.OpenSpec.upto Rows.callgraphOrdersSpec).pre6 enc Try.prog Try.f4 Rows.callgraphOrdersUptoRow.domain false) (((Rows.OpenSpec.upto Rows.callgraphOrdersSpec).at F).post enc Try.prog Try.f4 false true false false) := by
  refine returnsInHanded_of_cond (C := Try.checked) (s := Rows.OpenSpec.upto Rows.callgraphOrdersSpec) (k := Rows.uptoSmall) rfl own3 started (by kernel_rfl) Try.func4
    (OpenSpec.witness (enc := enc) (C := Try.checked) (s := Rows.OpenSpec.upto Rows.callgraphOrdersSpec) (k := Rows.uptoSmall) rfl false ⟨#[], #[.slice none 0 0, .agg (term0.cells ++ term0.cells ++ term0.cells)], []⟩ 8 (by kernel_rfl) (by kernel_rfl) (by kernel_rfl)
      (x := ([.nil, .agg [term0D, term0D, term0D]], [], [])) (by kernel_rfl) rfl (by kernel_rfl)) ?_
  intro W base args ds gs before hval hW _ hk _
  exact contract4 H enc W base args ds gs before hval hW hk
theorem over4 : Rows.callgraphOrdersUptoRow.holds Try.pinned (Rows.OpenSpec.upto Rows.callgraphOrdersSpec) :=
  OpenClaim.holds_of_cond 4 Try.f4 rfl rfl rfl rfl rfl rfl rfl ⟨rfl, rfl, rfl, rfl, rfl⟩ rfl rfl rfl rfl rfl (by kernel_rfl) Try.func4 (by kernel_rfl)
    (of_decide_eq_true (by kernel_rfl)) (by unfold Func.isWrapper; first | (rw [if_pos (by decide +kernel)]; kernel_rfl) | (rw [if_neg (by decide +kernel)]; exact ⟨rfl, rfl⟩))
    (fun os started H enc _ F => lifted4 os started H enc F)
theorem proved4 : Rows.CallgraphOrdersUptoSaid := over4
end Go.Proofs.Ytnbbhbbhgcipjaa.Am
