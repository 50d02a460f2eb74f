/-
  SignatureFinds returns true at every input of bounded bulk, and its arguments read as before.
-/
import Derived.Test.YtnbbhbbhgcipjaaMm
import Derived.Test.YtnbbhbbhgcipjaaMLaw
set_option linter.unusedVariables false
set_option linter.unnecessarySimpa false
set_option linter.unusedSimpArgs false
set_option linter.unusedSectionVars false
namespace Go.Proofs.Ytnbbhbbhgcipjaa.Am
open Go.ChangeShapes Go.WideShapes Go.ChangeAt Go.RowKit
theorem params7 : Try.f7.params = #[22, 9] := by kernel_rfl
theorem results7 : Try.f7.resultTypes = #[4] := by kernel_rfl
theorem readable7 : ∀ t ∈ Try.f7.params.toList, Try.prog.readableRec t = true ∧ t < Try.prog.types.size := by
  rw [params7]
  have h : ([22, 9].all fun t => Try.prog.readableRec t && decide (t < Try.prog.types.size)) = true := by kernel_rfl
  intro t ht
  simpa using List.all_eq_true.1 h t ht
set_option maxRecDepth 100000 in
theorem contract7 (H : Type) (enc : TypeId × Value → H) (W : World) (base : Nat) (args : Array Value) (ds gs : List (DataW H)) (before : List MemPlace)
    (hval : ∀ (j : Nat) t v, Try.f7.params[j]? = some t → args[j]? = some v → Value.okWide Try.prog W .any base t v)
    (hW : DataW.Whole enc Try.prog Try.f7.params.toList Rows.signatureFindsSpec.vars false W args.toList ds gs before) (hk : Rows.uptoSmall H (ds ++ gs) = true) :
    Calls Try.prog 7 args W fun e W' => ∃ v, e = .returned v ∧ Rows.signatureFindsSpec.post enc Try.prog Try.f7 false true false false W args v W' := by
  have hW' := hW
  obtain ⟨p, q, hA, hV, rfl, hfz, hnd⟩ := hW
  have hbk : Rows.uptoBulkAll (ds ++ gs) ≤ 1048576 := of_decide_eq_true hk
  rw [params7] at hA hval
  obtain ⟨v0, vs0, d0, ds0, p0, q0, hargs, rfl, rfl, h0, r0⟩ := trodAll_cons hA
  obtain ⟨v1, vs1, d1, ds1, p1, q1, rfl, rfl, rfl, h1, r1⟩ := trodAll_cons r0
  obtain ⟨rfl, rfl, rfl⟩ := trodAll_nil r1
  obtain rfl : args = #[v0, v1] := by cases args; simp_all
  simp only [List.cons_append, Rows.uptoBulkAll] at hbk
  have k0 : (#[22, 9] : Array TypeId)[0]? = some 22 := rfl
  have k1 : (#[22, 9] : Array TypeId)[1]? = some 9 := rfl
  have hv0 := hval 0 22 v0 k0 rfl
  have hv1 := hval 1 9 v1 k1 rfl
  obtain ⟨ds', i0, g0, ⟨z, t, es, hi0, hes, hz, hl⟩, _⟩ := arg_one (okWide_sl u22 hv0) h0 (fun _ => rd22) (by omega)
  cases hi0
  obtain ⟨x, rfl⟩ := okWide_string u9 hv1
  have hrun := f7 ds' es z t x hes hz (le_lim hl)
  have hrep : RepL W No No [.sl z false t es, .s x] [v0, .string x] := ⟨_, _, rfl, g0, _, _, rfl, rfl, rfl⟩
  obtain ⟨d, hd, hc⟩ := PF.calls hrun mixed fits (cas := #[v0, .string x]) (w := W) hrep
  subst hd
  have hfn : Rows.signatureFindsSpec.fn H [d0, d1] = { results := [.lit (.bool true)], args := [d0, d1] } := rfl
  exact hc.mono fun e W' hs => post_of_says (P := Try.prog) (f := Try.f7) (s := Rows.signatureFindsSpec) laid rfl results7 u4 readable7 hfn hW' hs
set_option maxRecDepth 100000 in
theorem lifted7 (os : Os) (started : os.Started) (H : Type) (enc : TypeId × Value → H) (F : Stop.Interp) :
    ReturnsInHanded {} Try.checked os 7 .any ((Rows.OpenSpec.upto Rows.signatureFindsSpec).pre6 enc Try.prog Try.f7 Rows.signatureFindsUptoRow.domain false) (((Rows.OpenSpec.upto Rows.signatureFindsSpec).at F).post enc Try.prog Try.f7 false true false false) := by
  refine returnsInHanded_of_cond (C := Try.checked) (s := Rows.OpenSpec.upto Rows.signatureFindsSpec) (k := Rows.uptoSmall) rfl own3 started (by kernel_rfl) Try.func7
    (OpenSpec.witness (enc := enc) (C := Try.checked) (s := Rows.OpenSpec.upto Rows.signatureFindsSpec) (k := Rows.uptoSmall) rfl false ⟨#[], #[.slice none 0 0, .string ByteArray.empty], []⟩ 8 (by kernel_rfl) (by kernel_rfl) (by kernel_rfl)
      (x := ([.nil, .lit (.string [])], [], [])) (by kernel_rfl) rfl (by kernel_rfl)) ?_
  intro W base args ds gs before hval hW _ hk _
  exact contract7 H enc W base args ds gs before hval hW hk
theorem over7 : Rows.signatureFindsUptoRow.holds Try.pinned (Rows.OpenSpec.upto Rows.signatureFindsSpec) :=
  OpenClaim.holds_of_cond 7 Try.f7 rfl rfl rfl rfl rfl rfl rfl ⟨rfl, rfl, rfl, rfl, rfl⟩ rfl rfl rfl rfl rfl (by kernel_rfl) Try.func7 (by kernel_rfl)
    (of_decide_eq_true (by kernel_rfl)) (by unfold Func.isWrapper; first | (rw [if_pos (by decide +kernel)]; kernel_rfl) | (rw [if_neg (by decide +kernel)]; exact ⟨rfl, rfl⟩))
    (fun os started H enc _ F => lifted7 os started H enc F)
theorem proved7 : Rows.SignatureFindsUptoSaid := over7
end Go.Proofs.Ytnbbhbbhgcipjaa.Am
