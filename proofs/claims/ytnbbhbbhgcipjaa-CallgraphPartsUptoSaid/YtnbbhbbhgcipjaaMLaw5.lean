/-
  CallgraphParts returns true at every input of bounded bulk, and its arguments read as before.
-/
import Derived.Test.YtnbbhbbhgcipjaaMF14
import Derived.Test.YtnbbhbbhgcipjaaMLaw
set_option linter.unusedVariables false
set_option linter.unnecessarySimpa false
set_option linter.unusedSimpArgs false
set_option linter.unusedSectionVars false
namespace Go.Proofs.Ytnbbhbbhgcipjaa.Am
open Go.ChangeShapes Go.WideShapes Go.ChangeAt Go.RowKit
theorem params5 : Try.f5.params = #[22, 26, 26] := by kernel_rfl
theorem results5 : Try.f5.resultTypes = #[4] := by kernel_rfl
theorem readable5 : ∀ t ∈ Try.f5.params.toList, Try.prog.readableRec t = true ∧ t < Try.prog.types.size := by
  rw [params5]
  have h : ([22, 26, 26].all fun t => Try.prog.readableRec t && decide (t < Try.prog.types.size)) = true := by kernel_rfl
  intro t ht
  simpa using List.all_eq_true.1 h t ht
set_option maxRecDepth 100000 in
theorem contract5 (H : Type) (enc : TypeId × Value → H) (W : World) (base : Nat) (args : Array Value) (ds gs : List (DataW H)) (before : List MemPlace)
    (hval : ∀ (j : Nat) t v, Try.f5.params[j]? = some t → args[j]? = some v → Value.okWide Try.prog W .any base t v)
    (hW : DataW.Whole enc Try.prog Try.f5.params.toList Rows.callgraphPartsSpec.vars false W args.toList ds gs before) (hk : Rows.uptoSmall H (ds ++ gs) = true) :
    Calls Try.prog 5 args W fun e W' => ∃ v, e = .returned v ∧ Rows.callgraphPartsSpec.post enc Try.prog Try.f5 false true false false W args v W' := by
  have hW' := hW
  obtain ⟨p, q, hA, hV, rfl, hfz, hnd⟩ := hW
  have hbk : Rows.uptoBulkAll (ds ++ gs) ≤ 1048576 := of_decide_eq_true hk
  rw [params5] at hA hval
  obtain ⟨v0, vs0, d0, ds0, p0, q0, hargs, rfl, rfl, h0, r0⟩ := trodAll_cons hA
  obtain ⟨v1, vs1, d1, ds1, p1, q1, rfl, rfl, rfl, h1, r1⟩ := trodAll_cons r0
  obtain ⟨v2, vs2, d2, ds2, p2, q2, rfl, rfl, rfl, h2, r2⟩ := trodAll_cons r1
  obtain ⟨rfl, rfl, rfl⟩ := trodAll_nil r2
  obtain rfl : args = #[v0, v1, v2] := by cases args; simp_all
  simp only [List.cons_append, Rows.uptoBulkAll] at hbk
  have k0 : (#[22, 26, 26] : Array TypeId)[0]? = some 22 := rfl
  have k1 : (#[22, 26, 26] : Array TypeId)[1]? = some 26 := rfl
  have k2 : (#[22, 26, 26] : Array TypeId)[2]? = some 26 := rfl
  have hv0 := hval 0 22 v0 k0 rfl
  have hv1 := hval 1 26 v1 k1 rfl
  have hv2 := hval 2 26 v2 k2 rfl
  obtain ⟨ds', i0, g0, ⟨z, t, es, hi0, hes, hz, hl⟩, _⟩ := arg_one (okWide_sl u22 hv0) h0 (fun _ => rd22) (by omega)
  cases hi0
  obtain ⟨a, ra, g1, ha, ham⟩ := arg_agg fl26 hv1 h1 (fun _ => rd26) (by omega)
  obtain ⟨b, rb, g2, hb, hbm⟩ := arg_agg fl26 hv2 h2 (fun _ => rd26) (by omega)
  have hrun := f5 ds' es z t a b ra rb hes hz (le_lim hl) ha (le_lim (by omega)) hb (le_lim (by omega))
  have hrep : RepL W No No [.sl z false t es, .agg ra, .agg rb] [v0, v1, v2] := ⟨_, _, rfl, g0, _, _, rfl, g1, _, _, rfl, g2, rfl⟩
  obtain ⟨d, hd, hc⟩ := PF.calls hrun mixed fits (cas := #[v0, v1, v2]) (w := W) hrep
  subst hd
  have hfn : Rows.callgraphPartsSpec.fn H [d0, d1, d2] = { results := [.lit (.bool true)], args := [d0, d1, d2] } := rfl
  exact hc.mono fun e W' hs => post_of_says (P := Try.prog) (f := Try.f5) (s := Rows.callgraphPartsSpec) laid rfl results5 u4 readable5 hfn hW' hs
set_option maxRecDepth 100000 in
theorem lifted5 (os : Os) (started : os.Started) (H : Type) (enc : TypeId × Value → H) (F : Stop.Interp) :
    ReturnsInHanded {} Try.checked os 5 .any ((Rows.OpenSpec.upto Rows.callgraphPartsSpec).pre6 enc Try.prog Try.f5 Rows.callgraphPartsUptoRow.domain false) (((Rows.OpenSpec.upto Rows.callgraphPartsSpec).at F).post enc Try.prog Try.f5 false true false false) := by
  refine returnsInHanded_of_cond (C := Try.checked) (s := Rows.OpenSpec.upto Rows.callgraphPartsSpec) (k := Rows.uptoSmall) rfl own3 started (by kernel_rfl) Try.func5
    (OpenSpec.witness (enc := enc) (C := Try.checked) (s := Rows.OpenSpec.upto Rows.callgraphPartsSpec) (k := Rows.uptoSmall) rfl false ⟨#[], #[.slice none 0 0, term0, term0], []⟩ 8 (by kernel_rfl) (by kernel_rfl) (by kernel_rfl)
      (x := ([.nil, term0D, term0D], [], [])) (by kernel_rfl) rfl (by kernel_rfl)) ?_
  intro W base args ds gs before hval hW _ hk _
  exact contract5 H enc W base args ds gs before hval hW hk
theorem over5 : Rows.callgraphPartsUptoRow.holds Try.pinned (Rows.OpenSpec.upto Rows.callgraphPartsSpec) :=
  OpenClaim.holds_of_cond 5 Try.f5 rfl rfl rfl rfl rfl rfl rfl ⟨rfl, rfl, rfl, rfl, rfl⟩ rfl rfl rfl rfl rfl (by kernel_rfl) Try.func5 (by kernel_rfl)
    (of_decide_eq_true (by kernel_rfl)) (by unfold Func.isWrapper; first | (rw [if_pos (by decide +kernel)]; kernel_rfl) | (rw [if_neg (by decide +kernel)]; exact ⟨rfl, rfl⟩))
    (fun os started H enc _ F => lifted5 os started H enc F)
theorem proved5 : Rows.CallgraphPartsUptoSaid := over5
end Go.Proofs.Ytnbbhbbhgcipjaa.Am
