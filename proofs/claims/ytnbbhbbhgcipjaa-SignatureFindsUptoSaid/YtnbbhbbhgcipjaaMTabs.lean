/-
  Facts on the types and the hints of this program, for the simplifier; printed by wip/am/Tabs.lean.
-/
import Derived.Test.YtnbbhbbhgcipjaaMe
import Derived.Test.YtnbbhbbhgcipjaaMHints
set_option linter.unusedVariables false
set_option linter.unnecessarySimpa false
set_option linter.unusedSimpArgs false
set_option linter.unusedSectionVars false
namespace Go.Proofs.Ytnbbhbbhgcipjaa.Am
@[go_sem] theorem ty0 : szOf cx.P 0 = some 1 ∧ isAg cx.P 0 = some false ∧ byOf cx.P 0 = some 0 := by
  refine ⟨?_, ?_, ?_⟩ <;> kernel_rfl
@[go_sem] theorem ty3 : szOf cx.P 3 = some 1 ∧ isAg cx.P 3 = some false ∧ cx.P.underlying 3 = some (.int .i64) ∧ zeroImm cx.P 3 = some (.i .i64 0) ∧ byOf cx.P 3 = some 8 := by
  refine ⟨?_, ?_, ?_, ?_, ?_⟩ <;> kernel_rfl
@[go_sem] theorem ty4 : szOf cx.P 4 = some 1 ∧ isAg cx.P 4 = some false ∧ cx.P.underlying 4 = some .bool ∧ zeroImm cx.P 4 = some (.b false) ∧ byOf cx.P 4 = some 1 := by
  refine ⟨?_, ?_, ?_, ?_, ?_⟩ <;> kernel_rfl
@[go_sem] theorem ty5 : szOf cx.P 5 = some 1 ∧ isAg cx.P 5 = some false ∧ cx.P.underlying 5 = some (.int .u8) ∧ zeroImm cx.P 5 = some (.i .u8 0) ∧ byOf cx.P 5 = some 1 := by
  refine ⟨?_, ?_, ?_, ?_, ?_⟩ <;> kernel_rfl
@[go_sem] theorem ty9 : szOf cx.P 9 = some 1 ∧ isAg cx.P 9 = some false ∧ cx.P.underlying 9 = some .string ∧ zeroImm cx.P 9 = some (.s ByteArray.empty) ∧ byOf cx.P 9 = some 16 := by
  refine ⟨?_, ?_, ?_, ?_, ?_⟩ <;> kernel_rfl
@[go_sem] theorem ty22 : szOf cx.P 22 = some 1 ∧ isAg cx.P 22 = some false ∧ cx.P.underlying 22 = some (.slice 54) ∧ elemOf cx.P 22 = some 54 ∧ zeroImm cx.P 22 = some (.sl 1 false true []) ∧ byOf cx.P 22 = some 24 := by
  refine ⟨?_, ?_, ?_, ?_, ?_, ?_⟩ <;> kernel_rfl
@[go_sem] theorem ty23 : szOf cx.P 23 = some 1 ∧ isAg cx.P 23 = some false ∧ cx.P.underlying 23 = some (.slice 151) ∧ elemOf cx.P 23 = some 151 ∧ zeroImm cx.P 23 = some (.sl 1 false true []) ∧ byOf cx.P 23 = some 24 := by
  refine ⟨?_, ?_, ?_, ?_, ?_, ?_⟩ <;> kernel_rfl
@[go_sem] theorem ty24 : szOf cx.P 24 = some 1 ∧ isAg cx.P 24 = some false ∧ cx.P.underlying 24 = some (.slice 26) ∧ elemOf cx.P 24 = some 26 ∧ zeroImm cx.P 24 = some (.sl 1 false true []) ∧ byOf cx.P 24 = some 24 := by
  refine ⟨?_, ?_, ?_, ?_, ?_, ?_⟩ <;> kernel_rfl
@[go_sem] theorem ty26 : szOf cx.P 26 = some 5 ∧ isAg cx.P 26 = some true ∧ fldOf cx.P 26 0 = some (0, 3) ∧ fldOf cx.P 26 1 = some (1, 3) ∧ fldOf cx.P 26 2 = some (2, 9) ∧ fldOf cx.P 26 3 = some (3, 23) ∧ fldOf cx.P 26 4 = some (4, 24) ∧ zeroImm cx.P 26 = some (.agg [.i .i64 0, .i .i64 0, .s ByteArray.empty, .sl 1 false true [], .sl 1 false true []]) ∧ byOf cx.P 26 = some 80 := by
  refine ⟨?_, ?_, ?_, ?_, ?_, ?_, ?_, ?_, ?_⟩ <;> kernel_rfl
@[go_sem] theorem ty31 : szOf cx.P 31 = some 15 ∧ isAg cx.P 31 = some true ∧ cx.P.underlying 31 = some (.array 3 26) ∧ zeroImm cx.P 31 = some (.agg [.i .i64 0, .i .i64 0, .s ByteArray.empty, .sl 1 false true [], .sl 1 false true [], .i .i64 0, .i .i64 0, .s ByteArray.empty, .sl 1 false true [], .sl 1 false true [], .i .i64 0, .i .i64 0, .s ByteArray.empty, .sl 1 false true [], .sl 1 false true []]) ∧ byOf cx.P 31 = some 240 := by
  refine ⟨?_, ?_, ?_, ?_, ?_⟩ <;> kernel_rfl
@[go_sem] theorem ty33 : szOf cx.P 33 = some 1 ∧ isAg cx.P 33 = some false ∧ byOf cx.P 33 = some 0 := by
  refine ⟨?_, ?_, ?_⟩ <;> kernel_rfl
@[go_sem] theorem ty35 : szOf cx.P 35 = some 1 ∧ isAg cx.P 35 = some false ∧ zeroImm cx.P 35 = some (.nilf) ∧ byOf cx.P 35 = some 8 := by
  refine ⟨?_, ?_, ?_, ?_⟩ <;> kernel_rfl
@[go_sem] theorem ty38 : szOf cx.P 38 = some 1 ∧ isAg cx.P 38 = some false ∧ cx.P.underlying 38 = some (.int .i64) ∧ zeroImm cx.P 38 = some (.i .i64 0) ∧ byOf cx.P 38 = some 8 := by
  refine ⟨?_, ?_, ?_, ?_, ?_⟩ <;> kernel_rfl
@[go_sem] theorem ty41 : szOf cx.P 41 = some 1 ∧ isAg cx.P 41 = some false ∧ byOf cx.P 41 = some 0 := by
  refine ⟨?_, ?_, ?_⟩ <;> kernel_rfl
@[go_sem] theorem ty44 : szOf cx.P 44 = some 9 ∧ isAg cx.P 44 = some true ∧ fldOf cx.P 44 0 = some (0, 3) ∧ fldOf cx.P 44 1 = some (1, 3) ∧ fldOf cx.P 44 2 = some (2, 3) ∧ fldOf cx.P 44 3 = some (3, 3) ∧ fldOf cx.P 44 4 = some (4, 26) ∧ zeroImm cx.P 44 = some (.agg [.i .i64 0, .i .i64 0, .i .i64 0, .i .i64 0, .i .i64 0, .i .i64 0, .s ByteArray.empty, .sl 1 false true [], .sl 1 false true []]) ∧ byOf cx.P 44 = some 112 := by
  refine ⟨?_, ?_, ?_, ?_, ?_, ?_, ?_, ?_, ?_⟩ <;> kernel_rfl
@[go_sem] theorem ty45 : szOf cx.P 45 = some 1 ∧ isAg cx.P 45 = some false ∧ byOf cx.P 45 = some 0 := by
  refine ⟨?_, ?_, ?_⟩ <;> kernel_rfl
@[go_sem] theorem ty47 : szOf cx.P 47 = some 1 ∧ isAg cx.P 47 = some false ∧ byOf cx.P 47 = some 0 := by
  refine ⟨?_, ?_, ?_⟩ <;> kernel_rfl
@[go_sem] theorem ty49 : szOf cx.P 49 = some 1 ∧ isAg cx.P 49 = some false ∧ cx.P.underlying 49 = some (.slice 121) ∧ elemOf cx.P 49 = some 121 ∧ zeroImm cx.P 49 = some (.sl 1 false true []) ∧ byOf cx.P 49 = some 24 := by
  refine ⟨?_, ?_, ?_, ?_, ?_, ?_⟩ <;> kernel_rfl
@[go_sem] theorem ty51 : szOf cx.P 51 = some 7 ∧ isAg cx.P 51 = some true ∧ fldOf cx.P 51 0 = some (0, 3) ∧ fldOf cx.P 51 1 = some (1, 26) ∧ fldOf cx.P 51 2 = some (6, 24) ∧ zeroImm cx.P 51 = some (.agg [.i .i64 0, .i .i64 0, .i .i64 0, .s ByteArray.empty, .sl 1 false true [], .sl 1 false true [], .sl 1 false true []]) ∧ byOf cx.P 51 = some 112 := by
  refine ⟨?_, ?_, ?_, ?_, ?_, ?_, ?_⟩ <;> kernel_rfl
@[go_sem] theorem ty52 : szOf cx.P 52 = some 1 ∧ isAg cx.P 52 = some false ∧ cx.P.underlying 52 = some (.slice 126) ∧ elemOf cx.P 52 = some 126 ∧ zeroImm cx.P 52 = some (.sl 1 false true []) ∧ byOf cx.P 52 = some 24 := by
  refine ⟨?_, ?_, ?_, ?_, ?_, ?_⟩ <;> kernel_rfl
@[go_sem] theorem ty54 : szOf cx.P 54 = some 23 ∧ isAg cx.P 54 = some true ∧ fldOf cx.P 54 0 = some (0, 3) ∧ fldOf cx.P 54 1 = some (1, 9) ∧ fldOf cx.P 54 2 = some (2, 3) ∧ fldOf cx.P 54 3 = some (3, 26) ∧ fldOf cx.P 54 4 = some (8, 26) ∧ fldOf cx.P 54 5 = some (13, 3) ∧ fldOf cx.P 54 6 = some (14, 49) ∧ fldOf cx.P 54 7 = some (15, 51) ∧ fldOf cx.P 54 8 = some (22, 52) ∧ zeroImm cx.P 54 = some (.agg [.i .i64 0, .s ByteArray.empty, .i .i64 0, .i .i64 0, .i .i64 0, .s ByteArray.empty, .sl 1 false true [], .sl 1 false true [], .i .i64 0, .i .i64 0, .s ByteArray.empty, .sl 1 false true [], .sl 1 false true [], .i .i64 0, .sl 1 false true [], .i .i64 0, .i .i64 0, .i .i64 0, .s ByteArray.empty, .sl 1 false true [], .sl 1 false true [], .sl 1 false true [], .sl 1 false true []]) ∧ byOf cx.P 54 = some 360 := by
  refine ⟨?_, ?_, ?_, ?_, ?_, ?_, ?_, ?_, ?_, ?_, ?_, ?_, ?_⟩ <;> kernel_rfl
@[go_sem] theorem ty55 : szOf cx.P 55 = some 1 ∧ isAg cx.P 55 = some false ∧ byOf cx.P 55 = some 0 := by
  refine ⟨?_, ?_, ?_⟩ <;> kernel_rfl
@[go_sem] theorem ty60 : szOf cx.P 60 = some 1 ∧ isAg cx.P 60 = some false ∧ cx.P.underlying 60 = some (.slice 9) ∧ elemOf cx.P 60 = some 9 ∧ zeroImm cx.P 60 = some (.sl 1 false true []) ∧ byOf cx.P 60 = some 24 := by
  refine ⟨?_, ?_, ?_, ?_, ?_, ?_⟩ <;> kernel_rfl
@[go_sem] theorem ty78 : szOf cx.P 78 = some 1 ∧ isAg cx.P 78 = some false ∧ cx.P.underlying 78 = some (.slice 3) ∧ elemOf cx.P 78 = some 3 ∧ zeroImm cx.P 78 = some (.sl 1 false true []) ∧ byOf cx.P 78 = some 24 := by
  refine ⟨?_, ?_, ?_, ?_, ?_, ?_⟩ <;> kernel_rfl
@[go_sem] theorem ty88 : szOf cx.P 88 = some 1 ∧ isAg cx.P 88 = some false ∧ zeroImm cx.P 88 = some (.nilf) ∧ byOf cx.P 88 = some 8 := by
  refine ⟨?_, ?_, ?_, ?_⟩ <;> kernel_rfl
@[go_sem] theorem ty89 : szOf cx.P 89 = some 1 ∧ isAg cx.P 89 = some false ∧ zeroImm cx.P 89 = some (.nilf) ∧ byOf cx.P 89 = some 8 := by
  refine ⟨?_, ?_, ?_, ?_⟩ <;> kernel_rfl
@[go_sem] theorem ty93 : szOf cx.P 93 = some 1 ∧ isAg cx.P 93 = some false ∧ zeroImm cx.P 93 = some (.nilf) ∧ byOf cx.P 93 = some 8 := by
  refine ⟨?_, ?_, ?_, ?_⟩ <;> kernel_rfl
@[go_sem] theorem ty94 : szOf cx.P 94 = some 1 ∧ isAg cx.P 94 = some false ∧ zeroImm cx.P 94 = some (.nilf) ∧ byOf cx.P 94 = some 8 := by
  refine ⟨?_, ?_, ?_, ?_⟩ <;> kernel_rfl
@[go_sem] theorem ty96 : szOf cx.P 96 = some 25 ∧ isAg cx.P 96 = some true ∧ fldOf cx.P 96 0 = some (0, 54) ∧ fldOf cx.P 96 1 = some (23, 3) ∧ fldOf cx.P 96 2 = some (24, 24) ∧ zeroImm cx.P 96 = some (.agg [.i .i64 0, .s ByteArray.empty, .i .i64 0, .i .i64 0, .i .i64 0, .s ByteArray.empty, .sl 1 false true [], .sl 1 false true [], .i .i64 0, .i .i64 0, .s ByteArray.empty, .sl 1 false true [], .sl 1 false true [], .i .i64 0, .sl 1 false true [], .i .i64 0, .i .i64 0, .i .i64 0, .s ByteArray.empty, .sl 1 false true [], .sl 1 false true [], .sl 1 false true [], .sl 1 false true [], .i .i64 0, .sl 1 false true []]) ∧ byOf cx.P 96 = some 392 := by
  refine ⟨?_, ?_, ?_, ?_, ?_, ?_, ?_⟩ <;> kernel_rfl
@[go_sem] theorem ty97 : szOf cx.P 97 = some 1 ∧ isAg cx.P 97 = some false ∧ byOf cx.P 97 = some 0 := by
  refine ⟨?_, ?_, ?_⟩ <;> kernel_rfl
@[go_sem] theorem ty99 : szOf cx.P 99 = some 1 ∧ isAg cx.P 99 = some false ∧ cx.P.underlying 99 = some (.map 3 3) ∧ zeroImm cx.P 99 = some (.nilm) ∧ byOf cx.P 99 = some 8 := by
  refine ⟨?_, ?_, ?_, ?_, ?_⟩ <;> kernel_rfl
@[go_sem] theorem ty101 : szOf cx.P 101 = some 1 ∧ isAg cx.P 101 = some false ∧ byOf cx.P 101 = some 0 := by
  refine ⟨?_, ?_, ?_⟩ <;> kernel_rfl
@[go_sem] theorem ty102 : szOf cx.P 102 = some 1 ∧ isAg cx.P 102 = some false ∧ byOf cx.P 102 = some 0 := by
  refine ⟨?_, ?_, ?_⟩ <;> kernel_rfl
@[go_sem] theorem ty114 : szOf cx.P 114 = some 1 ∧ isAg cx.P 114 = some false ∧ zeroImm cx.P 114 = some (.nilf) ∧ byOf cx.P 114 = some 8 := by
  refine ⟨?_, ?_, ?_, ?_⟩ <;> kernel_rfl
@[go_sem] theorem ty121 : szOf cx.P 121 = some 6 ∧ isAg cx.P 121 = some true ∧ fldOf cx.P 121 0 = some (0, 9) ∧ fldOf cx.P 121 1 = some (1, 26) ∧ zeroImm cx.P 121 = some (.agg [.s ByteArray.empty, .i .i64 0, .i .i64 0, .s ByteArray.empty, .sl 1 false true [], .sl 1 false true []]) ∧ byOf cx.P 121 = some 96 := by
  refine ⟨?_, ?_, ?_, ?_, ?_, ?_⟩ <;> kernel_rfl
@[go_sem] theorem ty122 : szOf cx.P 122 = some 1 ∧ isAg cx.P 122 = some false ∧ cx.P.underlying 122 = some (.slice 185) ∧ elemOf cx.P 122 = some 185 ∧ zeroImm cx.P 122 = some (.sl 1 false true []) ∧ byOf cx.P 122 = some 24 := by
  refine ⟨?_, ?_, ?_, ?_, ?_, ?_⟩ <;> kernel_rfl
@[go_sem] theorem ty124 : szOf cx.P 124 = some 8 ∧ isAg cx.P 124 = some true ∧ fldOf cx.P 124 0 = some (0, 3) ∧ fldOf cx.P 124 1 = some (1, 26) ∧ fldOf cx.P 124 2 = some (6, 3) ∧ fldOf cx.P 124 3 = some (7, 122) ∧ zeroImm cx.P 124 = some (.agg [.i .i64 0, .i .i64 0, .i .i64 0, .s ByteArray.empty, .sl 1 false true [], .sl 1 false true [], .i .i64 0, .sl 1 false true []]) ∧ byOf cx.P 124 = some 120 := by
  refine ⟨?_, ?_, ?_, ?_, ?_, ?_, ?_, ?_⟩ <;> kernel_rfl
@[go_sem] theorem ty126 : szOf cx.P 126 = some 15 ∧ isAg cx.P 126 = some true ∧ fldOf cx.P 126 0 = some (0, 9) ∧ fldOf cx.P 126 1 = some (1, 26) ∧ fldOf cx.P 126 2 = some (6, 3) ∧ fldOf cx.P 126 3 = some (7, 124) ∧ zeroImm cx.P 126 = some (.agg [.s ByteArray.empty, .i .i64 0, .i .i64 0, .s ByteArray.empty, .sl 1 false true [], .sl 1 false true [], .i .i64 0, .i .i64 0, .i .i64 0, .i .i64 0, .s ByteArray.empty, .sl 1 false true [], .sl 1 false true [], .i .i64 0, .sl 1 false true []]) ∧ byOf cx.P 126 = some 224 := by
  refine ⟨?_, ?_, ?_, ?_, ?_, ?_, ?_, ?_⟩ <;> kernel_rfl
@[go_sem] theorem ty149 : szOf cx.P 149 = some 1 ∧ isAg cx.P 149 = some false ∧ cx.P.underlying 149 = some (.slice 201) ∧ elemOf cx.P 149 = some 201 ∧ zeroImm cx.P 149 = some (.sl 1 false true []) ∧ byOf cx.P 149 = some 24 := by
  refine ⟨?_, ?_, ?_, ?_, ?_, ?_⟩ <;> kernel_rfl
@[go_sem] theorem ty151 : szOf cx.P 151 = some 2 ∧ isAg cx.P 151 = some true ∧ fldOf cx.P 151 0 = some (0, 3) ∧ fldOf cx.P 151 1 = some (1, 149) ∧ zeroImm cx.P 151 = some (.agg [.i .i64 0, .sl 1 false true []]) ∧ byOf cx.P 151 = some 32 := by
  refine ⟨?_, ?_, ?_, ?_, ?_, ?_⟩ <;> kernel_rfl
@[go_sem] theorem ty154 : szOf cx.P 154 = some 1 ∧ isAg cx.P 154 = some false ∧ zeroImm cx.P 154 = some (.nilf) ∧ byOf cx.P 154 = some 8 := by
  refine ⟨?_, ?_, ?_, ?_⟩ <;> kernel_rfl
@[go_sem] theorem ty156 : szOf cx.P 156 = some 1 ∧ isAg cx.P 156 = some false ∧ byOf cx.P 156 = some 0 := by
  refine ⟨?_, ?_, ?_⟩ <;> kernel_rfl
@[go_sem] theorem ty159 : szOf cx.P 159 = some 1 ∧ isAg cx.P 159 = some false ∧ cx.P.underlying 159 = some (.slice 166) ∧ elemOf cx.P 159 = some 166 ∧ zeroImm cx.P 159 = some (.sl 1 false true []) ∧ byOf cx.P 159 = some 24 := by
  refine ⟨?_, ?_, ?_, ?_, ?_, ?_⟩ <;> kernel_rfl
@[go_sem] theorem ty161 : szOf cx.P 161 = some 10 ∧ isAg cx.P 161 = some true ∧ fldOf cx.P 161 0 = some (0, 9) ∧ fldOf cx.P 161 1 = some (1, 3) ∧ fldOf cx.P 161 2 = some (2, 24) ∧ fldOf cx.P 161 3 = some (3, 24) ∧ fldOf cx.P 161 4 = some (4, 26) ∧ fldOf cx.P 161 5 = some (9, 159) ∧ zeroImm cx.P 161 = some (.agg [.s ByteArray.empty, .i .i64 0, .sl 1 false true [], .sl 1 false true [], .i .i64 0, .i .i64 0, .s ByteArray.empty, .sl 1 false true [], .sl 1 false true [], .sl 1 false true []]) ∧ byOf cx.P 161 = some 176 := by
  refine ⟨?_, ?_, ?_, ?_, ?_, ?_, ?_, ?_, ?_, ?_⟩ <;> kernel_rfl
@[go_sem] theorem ty162 : szOf cx.P 162 = some 1 ∧ isAg cx.P 162 = some false ∧ byOf cx.P 162 = some 0 := by
  refine ⟨?_, ?_, ?_⟩ <;> kernel_rfl
@[go_sem] theorem ty164 : szOf cx.P 164 = some 1 ∧ isAg cx.P 164 = some false ∧ cx.P.underlying 164 = some (.slice 168) ∧ elemOf cx.P 164 = some 168 ∧ zeroImm cx.P 164 = some (.sl 1 false true []) ∧ byOf cx.P 164 = some 24 := by
  refine ⟨?_, ?_, ?_, ?_, ?_, ?_⟩ <;> kernel_rfl
@[go_sem] theorem ty166 : szOf cx.P 166 = some 4 ∧ isAg cx.P 166 = some true ∧ fldOf cx.P 166 0 = some (0, 9) ∧ fldOf cx.P 166 1 = some (1, 24) ∧ fldOf cx.P 166 2 = some (2, 164) ∧ fldOf cx.P 166 3 = some (3, 24) ∧ zeroImm cx.P 166 = some (.agg [.s ByteArray.empty, .sl 1 false true [], .sl 1 false true [], .sl 1 false true []]) ∧ byOf cx.P 166 = some 88 := by
  refine ⟨?_, ?_, ?_, ?_, ?_, ?_, ?_, ?_⟩ <;> kernel_rfl
@[go_sem] theorem ty168 : szOf cx.P 168 = some 3 ∧ isAg cx.P 168 = some true ∧ fldOf cx.P 168 0 = some (0, 3) ∧ fldOf cx.P 168 1 = some (1, 24) ∧ fldOf cx.P 168 2 = some (2, 24) ∧ zeroImm cx.P 168 = some (.agg [.i .i64 0, .sl 1 false true [], .sl 1 false true []]) ∧ byOf cx.P 168 = some 56 := by
  refine ⟨?_, ?_, ?_, ?_, ?_, ?_, ?_⟩ <;> kernel_rfl
@[go_sem] theorem ty171 : szOf cx.P 171 = some 1 ∧ isAg cx.P 171 = some false ∧ byOf cx.P 171 = some 0 := by
  refine ⟨?_, ?_, ?_⟩ <;> kernel_rfl
@[go_sem] theorem ty181 : szOf cx.P 181 = some 1 ∧ isAg cx.P 181 = some false ∧ zeroImm cx.P 181 = some (.nilf) ∧ byOf cx.P 181 = some 8 := by
  refine ⟨?_, ?_, ?_, ?_⟩ <;> kernel_rfl
@[go_sem] theorem ty185 : szOf cx.P 185 = some 10 ∧ isAg cx.P 185 = some true ∧ fldOf cx.P 185 0 = some (0, 9) ∧ fldOf cx.P 185 1 = some (1, 4) ∧ fldOf cx.P 185 2 = some (2, 124) ∧ zeroImm cx.P 185 = some (.agg [.s ByteArray.empty, .b false, .i .i64 0, .i .i64 0, .i .i64 0, .s ByteArray.empty, .sl 1 false true [], .sl 1 false true [], .i .i64 0, .sl 1 false true []]) ∧ byOf cx.P 185 = some 144 := by
  refine ⟨?_, ?_, ?_, ?_, ?_, ?_, ?_⟩ <;> kernel_rfl
@[go_sem] theorem ty195 : szOf cx.P 195 = some 1 ∧ isAg cx.P 195 = some false ∧ zeroImm cx.P 195 = some (.nilf) ∧ byOf cx.P 195 = some 8 := by
  refine ⟨?_, ?_, ?_, ?_⟩ <;> kernel_rfl
@[go_sem] theorem ty197 : szOf cx.P 197 = some 1 ∧ isAg cx.P 197 = some false ∧ byOf cx.P 197 = some 0 := by
  refine ⟨?_, ?_, ?_⟩ <;> kernel_rfl
@[go_sem] theorem ty201 : szOf cx.P 201 = some 2 ∧ isAg cx.P 201 = some true ∧ fldOf cx.P 201 0 = some (0, 3) ∧ fldOf cx.P 201 1 = some (1, 3) ∧ zeroImm cx.P 201 = some (.agg [.i .i64 0, .i .i64 0]) ∧ byOf cx.P 201 = some 16 := by
  refine ⟨?_, ?_, ?_, ?_, ?_, ?_⟩ <;> kernel_rfl
@[go_sem] theorem ty204 : szOf cx.P 204 = some 7 ∧ isAg cx.P 204 = some true ∧ fldOf cx.P 204 0 = some (0, 26) ∧ fldOf cx.P 204 1 = some (5, 24) ∧ fldOf cx.P 204 2 = some (6, 3) ∧ zeroImm cx.P 204 = some (.agg [.i .i64 0, .i .i64 0, .s ByteArray.empty, .sl 1 false true [], .sl 1 false true [], .sl 1 false true [], .i .i64 0]) ∧ byOf cx.P 204 = some 112 := by
  refine ⟨?_, ?_, ?_, ?_, ?_, ?_, ?_⟩ <;> kernel_rfl
@[go_sem] theorem ty205 : szOf cx.P 205 = some 1 ∧ isAg cx.P 205 = some false ∧ byOf cx.P 205 = some 0 := by
  refine ⟨?_, ?_, ?_⟩ <;> kernel_rfl
@[go_sem] theorem ty215 : szOf cx.P 215 = some 25 ∧ isAg cx.P 215 = some true ∧ fldOf cx.P 215 0 = some (0, 22) ∧ fldOf cx.P 215 1 = some (1, 60) ∧ fldOf cx.P 215 2 = some (2, 54) ∧ zeroImm cx.P 215 = some (.agg [.sl 1 false true [], .sl 1 false true [], .i .i64 0, .s ByteArray.empty, .i .i64 0, .i .i64 0, .i .i64 0, .s ByteArray.empty, .sl 1 false true [], .sl 1 false true [], .i .i64 0, .i .i64 0, .s ByteArray.empty, .sl 1 false true [], .sl 1 false true [], .i .i64 0, .sl 1 false true [], .i .i64 0, .i .i64 0, .i .i64 0, .s ByteArray.empty, .sl 1 false true [], .sl 1 false true [], .sl 1 false true [], .sl 1 false true []]) ∧ byOf cx.P 215 = some 408 := by
  refine ⟨?_, ?_, ?_, ?_, ?_, ?_, ?_⟩ <;> kernel_rfl
@[go_sem] theorem ty227 : szOf cx.P 227 = some 1 ∧ isAg cx.P 227 = some false ∧ cx.P.underlying 227 = some (.pointer 229) ∧ zeroImm cx.P 227 = some (.nilp) ∧ byOf cx.P 227 = some 8 := by
  refine ⟨?_, ?_, ?_, ?_, ?_⟩ <;> kernel_rfl
@[go_sem] theorem ty229 : szOf cx.P 229 = some 2 ∧ isAg cx.P 229 = some true ∧ fldOf cx.P 229 0 = some (0, 3) ∧ fldOf cx.P 229 1 = some (1, 3) ∧ zeroImm cx.P 229 = some (.agg [.i .i64 0, .i .i64 0]) ∧ byOf cx.P 229 = some 16 := by
  refine ⟨?_, ?_, ?_, ?_, ?_, ?_⟩ <;> kernel_rfl
@[go_sem] theorem ty231 : szOf cx.P 231 = some 1 ∧ isAg cx.P 231 = some false ∧ byOf cx.P 231 = some 0 := by
  refine ⟨?_, ?_, ?_⟩ <;> kernel_rfl
@[go_sem] theorem ty273 : szOf cx.P 273 = some 1 ∧ isAg cx.P 273 = some false ∧ byOf cx.P 273 = some 0 := by
  refine ⟨?_, ?_, ?_⟩ <;> kernel_rfl
@[go_sem] theorem kp3 (i : Nat) : cx.keep 3 i = lkK i [(0, [0, 4, 5]), (1, [0, 4, 5, 12]), (2, [6]), (3, [6])] := (show cx.keep 3 i = keep3.lookup i by kernel_rfl).trans (lkK_eq _ _)
@[go_sem] theorem rs3 : Try.f3.results.toList = [.tmp 6] := by kernel_rfl
@[go_sem] theorem sc3_3 : cx.sched 3 3 = [0, 1, 2, 4, 5, 6, 3, 7, 8, 9, 10, 11, 12] := by kernel_rfl
@[go_sem] theorem lt3 (d : Nat) : cx.late 3 d = memN d [] := (show cx.late 3 d = List.contains [] d by kernel_rfl).trans (memN_eq _ _)
@[go_sem] theorem bs3 : cx.bs 3 = false := by kernel_rfl
@[go_sem] theorem cb3 : cx.cbox 3 4 = true ∧ cx.cbox 3 5 = true := by
  refine ⟨?_, ?_⟩ <;> kernel_rfl
@[go_sem] theorem vr3 : cx.vrow 3 6 = false ∧ cx.vrow 3 10 = false := by
  refine ⟨?_, ?_⟩ <;> kernel_rfl
@[go_sem] theorem kp4 (i : Nat) : cx.keep 4 i = lkK i [(0, [0, 3]), (1, [0, 3, 11]), (2, [4]), (3, [0, 3, 5, 6, 7]), (4, [5, 6, 7, 45]), (5, [4]), (6, [5, 6, 7, 51]), (7, [4]), (8, [4])] := (show cx.keep 4 i = keep4.lookup i by kernel_rfl).trans (lkK_eq _ _)
@[go_sem] theorem rs4 : Try.f4.results.toList = [.tmp 4] := by kernel_rfl
@[go_sem] theorem sc4_3 : cx.sched 4 3 = [0, 1, 2, 3, 4, 6, 7, 8, 9, 10, 12, 13, 14, 15, 16, 5, 11, 17, 18, 19, 20] := by kernel_rfl
@[go_sem] theorem lt4 (d : Nat) : cx.late 4 d = memN d [] := (show cx.late 4 d = List.contains [] d by kernel_rfl).trans (memN_eq _ _)
@[go_sem] theorem bs4 : cx.bs 4 = false := by kernel_rfl
@[go_sem] theorem cb4 : cx.cbox 4 3 = true := by kernel_rfl
@[go_sem] theorem vr4 : cx.vrow 4 4 = false ∧ cx.vrow 4 5 = false ∧ cx.vrow 4 6 = false ∧ cx.vrow 4 7 = false := by
  refine ⟨?_, ?_, ?_, ?_⟩ <;> kernel_rfl
@[go_sem] theorem kp5 (i : Nat) : cx.keep 5 i = lkK i [(0, [0, 4, 5]), (1, [0, 4, 5, 14]), (2, [6]), (3, [4, 5, 20]), (4, [6]), (5, [4, 5, 7, 8]), (6, [4, 5, 7, 34]), (7, [6]), (8, [6])] := (show cx.keep 5 i = keep5.lookup i by kernel_rfl).trans (lkK_eq _ _)
@[go_sem] theorem rs5 : Try.f5.results.toList = [.tmp 6] := by kernel_rfl
@[go_sem] theorem sc5_8 : cx.sched 5 8 = [0, 1, 2, 3, 4, 6, 5, 7, 8, 9, 10, 11, 12, 13] := by kernel_rfl
@[go_sem] theorem lt5 (d : Nat) : cx.late 5 d = memN d [] := (show cx.late 5 d = List.contains [] d by kernel_rfl).trans (memN_eq _ _)
@[go_sem] theorem bs5 : cx.bs 5 = false := by kernel_rfl
@[go_sem] theorem cb5 : cx.cbox 5 4 = true ∧ cx.cbox 5 5 = true := by
  refine ⟨?_, ?_⟩ <;> kernel_rfl
@[go_sem] theorem vr5 : cx.vrow 5 6 = false ∧ cx.vrow 5 12 = false ∧ cx.vrow 5 7 = false ∧ cx.vrow 5 8 = false := by
  refine ⟨?_, ?_, ?_, ?_⟩ <;> kernel_rfl
@[go_sem] theorem kp11 (i : Nat) : cx.keep 11 i = lkK i [(0, [0, 1]), (1, [4])] := (show cx.keep 11 i = keep11.lookup i by kernel_rfl).trans (lkK_eq _ _)
@[go_sem] theorem rs11 : Try.f11.results.toList = [.tmp 4] := by kernel_rfl
@[go_sem] theorem vr11 : cx.vrow 11 4 = false := by kernel_rfl
@[go_sem] theorem kp12 (i : Nat) : cx.keep 12 i = lkK i [(0, []), (1, [1]), (2, [1, 2]), (3, [1, 2, 3]), (4, [1, 2, 3, 4]), (5, [1, 3, 4, 5]), (6, [0])] := (show cx.keep 12 i = keep12.lookup i by kernel_rfl).trans (lkK_eq _ _)
@[go_sem] theorem rs12 : Try.f12.results.toList = [.tmp 0] := by kernel_rfl
@[go_sem] theorem sc12_6 : cx.sched 12 6 = [0, 1, 3, 4, 2, 5, 6, 7, 8, 9, 10, 11, 13, 14, 15, 12, 16, 17, 18, 19, 20, 21, 22, 23, 24, 26, 27, 25, 28, 29, 30, 31, 32, 33, 34, 35, 36, 39, 40, 37, 38, 41, 42, 43, 44, 45, 46, 47, 48, 50, 54, 49, 51, 52, 53, 55, 56, 57, 58, 59, 60, 62, 61, 63, 64, 65, 66, 67, 68, 70, 69, 71, 72, 73, 74, 75, 76, 78, 80, 84, 77, 79, 81, 82, 83, 85, 86, 87, 88, 89, 90, 92, 96, 91, 93, 94, 95, 97, 98, 99, 100] := by kernel_rfl
@[go_sem] theorem lt12 (d : Nat) : cx.late 12 d = memN d [] := (show cx.late 12 d = List.contains [] d by kernel_rfl).trans (memN_eq _ _)
@[go_sem] theorem bs12 : cx.bs 12 = false := by kernel_rfl
@[go_sem] theorem vr12 : cx.vrow 12 0 = false ∧ cx.vrow 12 1 = false ∧ cx.vrow 12 2 = true ∧ cx.vrow 12 3 = false ∧ cx.vrow 12 12 = false ∧ cx.vrow 12 4 = false ∧ cx.vrow 12 5 = false ∧ cx.vrow 12 67 = false ∧ cx.vrow 12 97 = false ∧ cx.vrow 12 109 = false := by
  refine ⟨?_, ?_, ?_, ?_, ?_, ?_, ?_, ?_, ?_, ?_⟩ <;> kernel_rfl
@[go_sem] theorem kp13 (i : Nat) : cx.keep 13 i = lkK i [(0, [0, 4, 5]), (1, [0, 4, 5, 18]), (2, [6]), (3, [0, 4, 7, 8]), (4, [0, 4, 7, 26]), (5, [6]), (6, [0, 4, 7, 9, 10]), (7, [0, 4, 7, 9, 10, 11]), (8, [0, 4, 9, 10, 11, 35, 36, 37]), (9, [0, 4, 9, 10, 11, 35, 36, 37, 38]), (10, [0, 4, 9, 10, 11, 12, 13, 35, 36, 37]), (11, [0, 4, 9, 10, 11, 13, 14, 15, 35, 36, 37]), (12, [0, 4, 9, 10, 11, 13, 14, 35, 36, 37, 49]), (13, [0, 4, 9, 10, 11, 13, 14, 35, 36, 37, 54]), (14, [6]), (15, [0, 4, 9, 10, 11, 35, 36, 37, 73]), (16, [6]), (17, [0, 4, 9, 10, 11, 35, 36, 37]), (18, [6])] := (show cx.keep 13 i = keep13.lookup i by kernel_rfl).trans (lkK_eq _ _)
@[go_sem] theorem rs13 : Try.f13.results.toList = [.tmp 6] := by kernel_rfl
@[go_sem] theorem cb13 : cx.cbox 13 4 = true ∧ cx.cbox 13 5 = true := by
  refine ⟨?_, ?_⟩ <;> kernel_rfl
@[go_sem] theorem vr13 : cx.vrow 13 6 = false ∧ cx.vrow 13 7 = false ∧ cx.vrow 13 8 = false ∧ cx.vrow 13 9 = false ∧ cx.vrow 13 10 = false ∧ cx.vrow 13 11 = false ∧ cx.vrow 13 13 = false ∧ cx.vrow 13 12 = false ∧ cx.vrow 13 14 = false ∧ cx.vrow 13 15 = false := by
  refine ⟨?_, ?_, ?_, ?_, ?_, ?_, ?_, ?_, ?_, ?_⟩ <;> kernel_rfl
@[go_sem] theorem kp14 (i : Nat) : cx.keep 14 i = lkK i [(0, [0, 4, 5]), (1, [0, 4, 5, 18]), (2, [6]), (3, [0, 4, 7, 8, 9, 10]), (4, [0, 4, 7, 8, 9, 28]), (5, [6]), (6, [0, 4, 7, 8, 9, 11, 12]), (7, [0, 4, 7, 8, 9, 11, 12, 13]), (8, [0, 4, 7, 8, 9, 11, 12, 13, 37]), (9, [0, 4, 7, 8, 9, 11, 12, 13]), (10, [0, 4, 7, 8, 9, 11, 12, 13, 14, 15]), (11, [0, 4, 7, 8, 9, 11, 12, 13, 14, 48]), (12, [0, 4, 7, 8, 9, 11, 12, 13, 14, 56]), (13, [6]), (14, [0, 4, 7, 8, 9, 11, 12, 13, 78]), (15, [6]), (16, [6])] := (show cx.keep 14 i = keep14.lookup i by kernel_rfl).trans (lkK_eq _ _)
@[go_sem] theorem rs14 : Try.f14.results.toList = [.tmp 6] := by kernel_rfl
@[go_sem] theorem sc14_12 : cx.sched 14 12 = [0, 1, 2, 3, 4, 5, 6, 7] := by kernel_rfl
@[go_sem] theorem sc14_14 : cx.sched 14 14 = [0, 1, 2, 3, 4, 5, 6, 7, 8, 9, 10, 11, 12, 13, 14, 15, 16, 17, 18, 19, 20, 21] := by kernel_rfl
@[go_sem] theorem lt14 (d : Nat) : cx.late 14 d = memN d [] := (show cx.late 14 d = List.contains [] d by kernel_rfl).trans (memN_eq _ _)
@[go_sem] theorem bs14 : cx.bs 14 = false := by kernel_rfl
@[go_sem] theorem cb14 : cx.cbox 14 4 = true ∧ cx.cbox 14 5 = true := by
  refine ⟨?_, ?_⟩ <;> kernel_rfl
@[go_sem] theorem vr14 : cx.vrow 14 6 = false ∧ cx.vrow 14 7 = false ∧ cx.vrow 14 8 = false ∧ cx.vrow 14 9 = false ∧ cx.vrow 14 10 = false ∧ cx.vrow 14 11 = false ∧ cx.vrow 14 12 = false ∧ cx.vrow 14 13 = false ∧ cx.vrow 14 14 = false ∧ cx.vrow 14 15 = false := by
  refine ⟨?_, ?_, ?_, ?_, ?_, ?_, ?_, ?_, ?_, ?_⟩ <;> kernel_rfl
@[go_sem] theorem kp15 (i : Nat) : cx.keep 15 i = lkK i [(0, [1, 2]), (1, [1, 2, 14]), (2, [2, 3]), (3, [1, 2, 4, 5]), (4, [2, 3])] := (show cx.keep 15 i = keep15.lookup i by kernel_rfl).trans (lkK_eq _ _)
@[go_sem] theorem rs15 : Try.f15.results.toList = [.cell 2 26, .tmp 3] := by kernel_rfl
@[go_sem] theorem sc15_4 : cx.sched 15 4 = [0, 1, 2, 3, 4, 5, 6, 7, 8, 9] := by kernel_rfl
@[go_sem] theorem lt15 (d : Nat) : cx.late 15 d = memN d [] := (show cx.late 15 d = List.contains [] d by kernel_rfl).trans (memN_eq _ _)
@[go_sem] theorem bs15 : cx.bs 15 = false := by kernel_rfl
@[go_sem] theorem cb15 : cx.cbox 15 1 = true := by kernel_rfl
@[go_sem] theorem vr15 : cx.vrow 15 2 = false ∧ cx.vrow 15 3 = true ∧ cx.vrow 15 4 = false ∧ cx.vrow 15 5 = false ∧ cx.vrow 15 30 = false := by
  refine ⟨?_, ?_, ?_, ?_, ?_⟩ <;> kernel_rfl
@[go_sem] theorem kp16 (i : Nat) : cx.keep 16 i = lkK i [(0, [2, 3]), (1, [2, 3, 9]), (2, [4]), (3, [2, 6]), (4, [4])] := (show cx.keep 16 i = keep16.lookup i by kernel_rfl).trans (lkK_eq _ _)
@[go_sem] theorem rs16 : Try.f16.results.toList = [.tmp 4] := by kernel_rfl
@[go_sem] theorem cb16 : cx.cbox 16 2 = true ∧ cx.cbox 16 3 = true := by
  refine ⟨?_, ?_⟩ <;> kernel_rfl
@[go_sem] theorem vr16 : cx.vrow 16 4 = false ∧ cx.vrow 16 5 = false ∧ cx.vrow 16 6 = false := by
  refine ⟨?_, ?_, ?_⟩ <;> kernel_rfl
@[go_sem] theorem kp17 (i : Nat) : cx.keep 17 i = lkK i [(0, [1]), (1, [1, 3]), (2, [1, 3, 4]), (3, [1, 3, 4, 9]), (4, [1, 3, 4]), (5, [1, 3, 4]), (6, [2])] := (show cx.keep 17 i = keep17.lookup i by kernel_rfl).trans (lkK_eq _ _)
@[go_sem] theorem rs17 : Try.f17.results.toList = [.tmp 2] := by kernel_rfl
@[go_sem] theorem cb17 : cx.cbox 17 1 = true := by kernel_rfl
@[go_sem] theorem vr17 : cx.vrow 17 2 = false ∧ cx.vrow 17 3 = false ∧ cx.vrow 17 4 = false := by
  refine ⟨?_, ?_, ?_⟩ <;> kernel_rfl
@[go_sem] theorem kp18 (i : Nat) : cx.keep 18 i = lkK i [(0, [0]), (1, [0, 3]), (2, [0, 3, 11]), (3, [0, 3]), (4, [0, 3, 19]), (5, [2]), (6, [2])] := (show cx.keep 18 i = keep18.lookup i by kernel_rfl).trans (lkK_eq _ _)
@[go_sem] theorem rs18 : Try.f18.results.toList = [.tmp 2] := by kernel_rfl
@[go_sem] theorem vr18 : cx.vrow 18 2 = false ∧ cx.vrow 18 3 = false := by
  refine ⟨?_, ?_⟩ <;> kernel_rfl
@[go_sem] theorem kp21 (i : Nat) : cx.keep 21 i = lkK i [(0, [0]), (1, [0, 8]), (2, [2, 3]), (3, [0, 4]), (4, [0, 4, 12]), (5, [0, 4]), (6, [0, 4, 5]), (7, [0, 4, 5, 24]), (8, [2, 3]), (9, [2, 3])] := (show cx.keep 21 i = keep21.lookup i by kernel_rfl).trans (lkK_eq _ _)
@[go_sem] theorem rs21 : Try.f21.results.toList = [.tmp 2, .tmp 3] := by kernel_rfl
@[go_sem] theorem sc21_6 : cx.sched 21 6 = [0, 1, 2, 3, 4, 5, 6, 7, 8] := by kernel_rfl
@[go_sem] theorem lt21 (d : Nat) : cx.late 21 d = memN d [] := (show cx.late 21 d = List.contains [] d by kernel_rfl).trans (memN_eq _ _)
@[go_sem] theorem bs21 : cx.bs 21 = false := by kernel_rfl
@[go_sem] theorem vr21 : cx.vrow 21 2 = false ∧ cx.vrow 21 3 = false ∧ cx.vrow 21 4 = false ∧ cx.vrow 21 5 = false := by
  refine ⟨?_, ?_, ?_, ?_⟩ <;> kernel_rfl
@[go_sem] theorem kp22 (i : Nat) : cx.keep 22 i = lkK i [(0, [0]), (1, [0, 7]), (2, [2]), (3, [4]), (4, [2])] := (show cx.keep 22 i = keep22.lookup i by kernel_rfl).trans (lkK_eq _ _)
@[go_sem] theorem rs22 : Try.f22.results.toList = [.tmp 2] := by kernel_rfl
@[go_sem] theorem vr22 : cx.vrow 22 2 = false ∧ cx.vrow 22 3 = false ∧ cx.vrow 22 4 = false := by
  refine ⟨?_, ?_, ?_⟩ <;> kernel_rfl
@[go_sem] theorem kp23 (i : Nat) : cx.keep 23 i = lkK i [(0, [0, 3, 4, 5]), (1, [3, 4, 5, 10, 11, 12]), (2, [3, 4, 5, 10, 11, 12, 13]), (3, [3, 4, 5, 6, 7, 10, 11, 12]), (4, [3, 4, 5, 10, 11, 12, 19]), (5, [3, 4, 5, 8, 21]), (6, [3, 4, 5, 8, 9]), (7, [4, 5, 9, 24]), (8, []), (9, [3, 4, 5, 10, 11, 12]), (10, [4, 5])] := (show cx.keep 23 i = keep23.lookup i by kernel_rfl).trans (lkK_eq _ _)
@[go_sem] theorem rs23 : Try.f23.results.toList = [.cell 4 44, .cell 5 38] := by kernel_rfl
@[go_sem] theorem bu44 (ps : List (Nat × AV)) : abuild cx.P 44 ps = (fillA (([(0, 1), (1, 1), (2, 1), (3, 1), (4, 5)] : List (Nat × Nat))[·]?) [.im (.i .i64 0), .im (.i .i64 0), .im (.i .i64 0), .im (.i .i64 0), .im (.i .i64 0), .im (.i .i64 0), .im (.s ByteArray.empty), .im (.sl 1 false true []), .im (.sl 1 false true [])] ps).map mkAgg := by kernel_rfl
@[go_sem] theorem cb23 : cx.cbox 23 3 = true := by kernel_rfl
@[go_sem] theorem vr23 : cx.vrow 23 4 = false ∧ cx.vrow 23 5 = false ∧ cx.vrow 23 7 = false ∧ cx.vrow 23 6 = false ∧ cx.vrow 23 8 = false ∧ cx.vrow 23 9 = false := by
  refine ⟨?_, ?_, ?_, ?_, ?_, ?_⟩ <;> kernel_rfl
@[go_sem] theorem kp24 (i : Nat) : cx.keep 24 i = lkK i [(0, [0, 1, 4]), (1, [0, 1, 4, 6]), (2, [0, 1, 4, 6, 10]), (3, [0, 1, 4, 6]), (4, [0, 1, 4, 6, 18]), (5, [4, 5]), (6, [4, 5])] := (show cx.keep 24 i = keep24.lookup i by kernel_rfl).trans (lkK_eq _ _)
@[go_sem] theorem rs24 : Try.f24.results.toList = [.cell 4 44, .tmp 5] := by kernel_rfl
@[go_sem] theorem vr24 : cx.vrow 24 4 = false ∧ cx.vrow 24 5 = false ∧ cx.vrow 24 6 = false := by
  refine ⟨?_, ?_, ?_⟩ <;> kernel_rfl
@[go_sem] theorem kp25 (i : Nat) : cx.keep 25 i = lkK i [(0, [0, 1, 4]), (1, [0, 4, 7, 8]), (2, [0, 4, 7, 16]), (3, [4, 5, 6]), (4, [0, 4, 7, 19]), (5, [0, 4, 7, 19, 20]), (6, [4, 5, 6]), (7, [0, 4, 7, 19, 27]), (8, [4, 5, 6]), (9, [0, 4, 7, 36]), (10, [4, 5, 6]), (11, [4, 5, 6])] := (show cx.keep 25 i = keep25.lookup i by kernel_rfl).trans (lkK_eq _ _)
@[go_sem] theorem rs25 : Try.f25.results.toList = [.cell 4 54, .tmp 5, .tmp 6] := by kernel_rfl
@[go_sem] theorem sc25_8 : cx.sched 25 8 = [0, 1, 2, 3, 4, 5, 6, 7, 8, 9] := by kernel_rfl
@[go_sem] theorem lt25 (d : Nat) : cx.late 25 d = memN d [] := (show cx.late 25 d = List.contains [] d by kernel_rfl).trans (memN_eq _ _)
@[go_sem] theorem bs25 : cx.bs 25 = false := by kernel_rfl
@[go_sem] theorem bu54 (ps : List (Nat × AV)) : abuild cx.P 54 ps = (fillA (([(0, 1), (1, 1), (2, 1), (3, 5), (8, 5), (13, 1), (14, 1), (15, 7), (22, 1)] : List (Nat × Nat))[·]?) [.im (.i .i64 0), .im (.s ByteArray.empty), .im (.i .i64 0), .im (.i .i64 0), .im (.i .i64 0), .im (.s ByteArray.empty), .im (.sl 1 false true []), .im (.sl 1 false true []), .im (.i .i64 0), .im (.i .i64 0), .im (.s ByteArray.empty), .im (.sl 1 false true []), .im (.sl 1 false true []), .im (.i .i64 0), .im (.sl 1 false true []), .im (.i .i64 0), .im (.i .i64 0), .im (.i .i64 0), .im (.s ByteArray.empty), .im (.sl 1 false true []), .im (.sl 1 false true []), .im (.sl 1 false true []), .im (.sl 1 false true [])] ps).map mkAgg := by kernel_rfl
@[go_sem] theorem vr25 : cx.vrow 25 4 = false ∧ cx.vrow 25 5 = false ∧ cx.vrow 25 6 = false ∧ cx.vrow 25 7 = false ∧ cx.vrow 25 8 = false ∧ cx.vrow 25 20 = false ∧ cx.vrow 25 27 = false ∧ cx.vrow 25 36 = false := by
  refine ⟨?_, ?_, ?_, ?_, ?_, ?_, ?_, ?_⟩ <;> kernel_rfl
@[go_sem] theorem kp26 (i : Nat) : cx.keep 26 i = lkK i [(0, [0, 1, 4]), (1, [0, 4, 7, 8]), (2, [0, 4, 7, 16]), (3, [4, 5, 6]), (4, [0, 4, 7, 19]), (5, [0, 4, 7, 19, 20]), (6, [4, 5, 6]), (7, [0, 4, 7, 19, 27]), (8, [4, 5, 6]), (9, [0, 4, 7, 36]), (10, [4, 5, 6]), (11, [4, 5, 6])] := (show cx.keep 26 i = keep26.lookup i by kernel_rfl).trans (lkK_eq _ _)
@[go_sem] theorem rs26 : Try.f26.results.toList = [.cell 4 54, .tmp 5, .tmp 6] := by kernel_rfl
@[go_sem] theorem sc26_8 : cx.sched 26 8 = [0, 1, 2, 3, 4, 5, 6, 7, 8, 9] := by kernel_rfl
@[go_sem] theorem lt26 (d : Nat) : cx.late 26 d = memN d [] := (show cx.late 26 d = List.contains [] d by kernel_rfl).trans (memN_eq _ _)
@[go_sem] theorem bs26 : cx.bs 26 = false := by kernel_rfl
@[go_sem] theorem vr26 : cx.vrow 26 4 = false ∧ cx.vrow 26 5 = false ∧ cx.vrow 26 6 = false ∧ cx.vrow 26 7 = false ∧ cx.vrow 26 8 = false ∧ cx.vrow 26 20 = false ∧ cx.vrow 26 27 = false ∧ cx.vrow 26 36 = false := by
  refine ⟨?_, ?_, ?_, ?_, ?_, ?_, ?_, ?_⟩ <;> kernel_rfl
@[go_sem] theorem kp44 (i : Nat) : cx.keep 44 i = lkK i [(0, [0, 1]), (1, [0, 1, 5]), (2, [0, 5, 8, 9, 10]), (3, [0, 5, 8, 9, 10, 11]), (4, [0, 5, 7, 8, 9, 10]), (5, [0, 5, 7, 8, 9, 10, 16]), (6, [4]), (7, [0, 5, 8, 9, 10]), (8, [0, 5, 8, 9, 10]), (9, [4])] := (show cx.keep 44 i = keep44.lookup i by kernel_rfl).trans (lkK_eq _ _)
@[go_sem] theorem rs44 : Try.f44.results.toList = [.tmp 4] := by kernel_rfl
@[go_sem] theorem vr44 : cx.vrow 44 4 = false ∧ cx.vrow 44 5 = false ∧ cx.vrow 44 7 = false := by
  refine ⟨?_, ?_, ?_⟩ <;> kernel_rfl
@[go_sem] theorem kp45 (i : Nat) : cx.keep 45 i = lkK i [(0, [0]), (1, [0, 7]), (2, [2]), (3, [8, 9, 10]), (4, [8, 9, 10, 11]), (5, [4, 8, 9, 10]), (6, [8, 9, 10, 16]), (7, [2]), (8, [8, 9, 10]), (9, [2])] := (show cx.keep 45 i = keep45.lookup i by kernel_rfl).trans (lkK_eq _ _)
@[go_sem] theorem rs45 : Try.f45.results.toList = [.tmp 2] := by kernel_rfl
@[go_sem] theorem vr45 : cx.vrow 45 2 = false ∧ cx.vrow 45 4 = false := by
  refine ⟨?_, ?_⟩ <;> kernel_rfl
@[go_sem] theorem kp46 (i : Nat) : cx.keep 46 i = lkK i [(0, [0, 1]), (1, [4])] := (show cx.keep 46 i = keep46.lookup i by kernel_rfl).trans (lkK_eq _ _)
@[go_sem] theorem rs46 : Try.f46.results.toList = [.tmp 4] := by kernel_rfl
@[go_sem] theorem vr46 : cx.vrow 46 4 = false := by kernel_rfl
@[go_sem] theorem kp47 (i : Nat) : cx.keep 47 i = lkK i [(0, [1]), (1, [2])] := (show cx.keep 47 i = keep47.lookup i by kernel_rfl).trans (lkK_eq _ _)
@[go_sem] theorem rs47 : Try.f47.results.toList = [.tmp 2] := by kernel_rfl
@[go_sem] theorem cb47 : cx.cbox 47 1 = true := by kernel_rfl
@[go_sem] theorem vr47 : cx.vrow 47 2 = false := by kernel_rfl
@[go_sem] theorem kp48 (i : Nat) : cx.keep 48 i = lkK i [(0, [0, 2]), (1, [2])] := (show cx.keep 48 i = keep48.lookup i by kernel_rfl).trans (lkK_eq _ _)
@[go_sem] theorem rs48 : Try.f48.results.toList = [.cell 2 26] := by kernel_rfl
@[go_sem] theorem bu26 (ps : List (Nat × AV)) : abuild cx.P 26 ps = (fillA (([(0, 1), (1, 1), (2, 1), (3, 1), (4, 1)] : List (Nat × Nat))[·]?) [.im (.i .i64 0), .im (.i .i64 0), .im (.s ByteArray.empty), .im (.sl 1 false true []), .im (.sl 1 false true [])] ps).map mkAgg := by kernel_rfl
@[go_sem] theorem vr48 : cx.vrow 48 2 = false := by kernel_rfl
@[go_sem] theorem kp49 (i : Nat) : cx.keep 49 i = lkK i [(0, []), (1, [1, 2]), (2, [1, 2, 3]), (3, [0])] := (show cx.keep 49 i = keep49.lookup i by kernel_rfl).trans (lkK_eq _ _)
@[go_sem] theorem rs49 : Try.f49.results.toList = [.tmp 0] := by kernel_rfl
@[go_sem] theorem sc49_3 : cx.sched 49 3 = [0, 1, 2, 3, 4, 8, 9, 10, 11, 12, 14, 15, 16, 17, 19, 24, 25, 26, 27, 5, 6, 7, 13, 18, 20, 21, 22, 23, 28, 29, 30] := by kernel_rfl
@[go_sem] theorem lt49 (d : Nat) : cx.late 49 d = memN d [] := (show cx.late 49 d = List.contains [] d by kernel_rfl).trans (memN_eq _ _)
@[go_sem] theorem bs49 : cx.bs 49 = true := by kernel_rfl
@[go_sem] theorem bu151 (ps : List (Nat × AV)) : abuild cx.P 151 ps = (fillA (([(0, 1), (1, 1)] : List (Nat × Nat))[·]?) [.im (.i .i64 0), .im (.sl 1 false true [])] ps).map mkAgg := by kernel_rfl
@[go_sem] theorem bu121 (ps : List (Nat × AV)) : abuild cx.P 121 ps = (fillA (([(0, 1), (1, 5)] : List (Nat × Nat))[·]?) [.im (.s ByteArray.empty), .im (.i .i64 0), .im (.i .i64 0), .im (.s ByteArray.empty), .im (.sl 1 false true []), .im (.sl 1 false true [])] ps).map mkAgg := by kernel_rfl
@[go_sem] theorem bu51 (ps : List (Nat × AV)) : abuild cx.P 51 ps = (fillA (([(0, 1), (1, 5), (6, 1)] : List (Nat × Nat))[·]?) [.im (.i .i64 0), .im (.i .i64 0), .im (.i .i64 0), .im (.s ByteArray.empty), .im (.sl 1 false true []), .im (.sl 1 false true []), .im (.sl 1 false true [])] ps).map mkAgg := by kernel_rfl
@[go_sem] theorem vr49 : cx.vrow 49 0 = false ∧ cx.vrow 49 1 = false ∧ cx.vrow 49 2 = false ∧ cx.vrow 49 7 = false ∧ cx.vrow 49 3 = false ∧ cx.vrow 49 16 = false ∧ cx.vrow 49 20 = false ∧ cx.vrow 49 32 = false ∧ cx.vrow 49 35 = false ∧ cx.vrow 49 38 = false := by
  refine ⟨?_, ?_, ?_, ?_, ?_, ?_, ?_, ?_, ?_, ?_⟩ <;> kernel_rfl
@[go_sem] theorem kp50 (i : Nat) : cx.keep 50 i = lkK i [(0, [1, 2]), (1, [2])] := (show cx.keep 50 i = keep50.lookup i by kernel_rfl).trans (lkK_eq _ _)
@[go_sem] theorem rs50 : Try.f50.results.toList = [.cell 2 26] := by kernel_rfl
@[go_sem] theorem sc50_1 : cx.sched 50 1 = [1, 2, 0, 3, 4] := by kernel_rfl
@[go_sem] theorem lt50 (d : Nat) : cx.late 50 d = memN d [] := (show cx.late 50 d = List.contains [] d by kernel_rfl).trans (memN_eq _ _)
@[go_sem] theorem bs50 : cx.bs 50 = true := by kernel_rfl
@[go_sem] theorem cb50 : cx.cbox 50 1 = true := by kernel_rfl
@[go_sem] theorem vr50 : cx.vrow 50 2 = false ∧ cx.vrow 50 5 = false := by
  refine ⟨?_, ?_⟩ <;> kernel_rfl
@[go_sem] theorem kp51 (i : Nat) : cx.keep 51 i = lkK i [(0, [1, 2, 4]), (1, [4])] := (show cx.keep 51 i = keep51.lookup i by kernel_rfl).trans (lkK_eq _ _)
@[go_sem] theorem rs51 : Try.f51.results.toList = [.cell 4 26] := by kernel_rfl
@[go_sem] theorem cb51 : cx.cbox 51 2 = true := by kernel_rfl
@[go_sem] theorem vr51 : cx.vrow 51 4 = false := by kernel_rfl
@[go_sem] theorem kp52 (i : Nat) : cx.keep 52 i = lkK i [(0, [0, 2]), (1, [2])] := (show cx.keep 52 i = keep52.lookup i by kernel_rfl).trans (lkK_eq _ _)
@[go_sem] theorem rs52 : Try.f52.results.toList = [.cell 2 26] := by kernel_rfl
@[go_sem] theorem vr52 : cx.vrow 52 2 = false := by kernel_rfl
@[go_sem] theorem kp53 (i : Nat) : cx.keep 53 i = lkK i [(0, [2, 3, 4]), (1, [5])] := (show cx.keep 53 i = keep53.lookup i by kernel_rfl).trans (lkK_eq _ _)
@[go_sem] theorem rs53 : Try.f53.results.toList = [.tmp 5] := by kernel_rfl
@[go_sem] theorem cb53 : cx.cbox 53 3 = true ∧ cx.cbox 53 4 = true := by
  refine ⟨?_, ?_⟩ <;> kernel_rfl
@[go_sem] theorem vr53 : cx.vrow 53 5 = false := by kernel_rfl
@[go_sem] theorem kp54 (i : Nat) : cx.keep 54 i = lkK i [(0, [2, 3]), (1, [4])] := (show cx.keep 54 i = keep54.lookup i by kernel_rfl).trans (lkK_eq _ _)
@[go_sem] theorem rs54 : Try.f54.results.toList = [.tmp 4] := by kernel_rfl
@[go_sem] theorem cb54 : cx.cbox 54 2 = true ∧ cx.cbox 54 3 = true := by
  refine ⟨?_, ?_⟩ <;> kernel_rfl
@[go_sem] theorem vr54 : cx.vrow 54 4 = false := by kernel_rfl
@[go_sem] theorem kp55 (i : Nat) : cx.keep 55 i = lkK i [(0, [0, 3, 4]), (1, [0, 4, 6, 7]), (2, [0, 4, 6, 7, 20]), (3, [4, 5]), (4, [4, 7, 8, 9, 10]), (5, [4, 7, 8, 9, 42]), (6, [4, 5]), (7, [4, 7, 8, 9, 11]), (8, [4, 7, 8, 9, 65]), (9, [4, 5]), (10, [4, 5])] := (show cx.keep 55 i = keep55.lookup i by kernel_rfl).trans (lkK_eq _ _)
@[go_sem] theorem rs55 : Try.f55.results.toList = [.cell 4 96, .tmp 5] := by kernel_rfl
@[go_sem] theorem sc55_10 : cx.sched 55 10 = [0, 1, 2, 3, 4, 5, 6, 7, 8] := by kernel_rfl
@[go_sem] theorem lt55 (d : Nat) : cx.late 55 d = memN d [] := (show cx.late 55 d = List.contains [] d by kernel_rfl).trans (memN_eq _ _)
@[go_sem] theorem bs55 : cx.bs 55 = false := by kernel_rfl
@[go_sem] theorem bu96 (ps : List (Nat × AV)) : abuild cx.P 96 ps = (fillA (([(0, 23), (23, 1), (24, 1)] : List (Nat × Nat))[·]?) [.im (.i .i64 0), .im (.s ByteArray.empty), .im (.i .i64 0), .im (.i .i64 0), .im (.i .i64 0), .im (.s ByteArray.empty), .im (.sl 1 false true []), .im (.sl 1 false true []), .im (.i .i64 0), .im (.i .i64 0), .im (.s ByteArray.empty), .im (.sl 1 false true []), .im (.sl 1 false true []), .im (.i .i64 0), .im (.sl 1 false true []), .im (.i .i64 0), .im (.i .i64 0), .im (.i .i64 0), .im (.s ByteArray.empty), .im (.sl 1 false true []), .im (.sl 1 false true []), .im (.sl 1 false true []), .im (.sl 1 false true []), .im (.i .i64 0), .im (.sl 1 false true [])] ps).map mkAgg := by kernel_rfl
@[go_sem] theorem cb55 : cx.cbox 55 3 = true := by kernel_rfl
@[go_sem] theorem vr55 : cx.vrow 55 4 = false ∧ cx.vrow 55 5 = false ∧ cx.vrow 55 6 = false ∧ cx.vrow 55 7 = false ∧ cx.vrow 55 8 = false ∧ cx.vrow 55 9 = false ∧ cx.vrow 55 10 = false ∧ cx.vrow 55 12 = false ∧ cx.vrow 55 11 = false := by
  refine ⟨?_, ?_, ?_, ?_, ?_, ?_, ?_, ?_, ?_⟩ <;> kernel_rfl
@[go_sem] theorem kp56 (i : Nat) : cx.keep 56 i = lkK i [(0, [1, 2]), (1, [1, 2, 4]), (2, [1, 2, 4, 13]), (3, [1, 2, 4]), (4, [1, 2, 4]), (5, [1, 2, 4]), (6, [2, 3])] := (show cx.keep 56 i = keep56.lookup i by kernel_rfl).trans (lkK_eq _ _)
@[go_sem] theorem rs56 : Try.f56.results.toList = [.cell 2 26, .tmp 3] := by kernel_rfl
@[go_sem] theorem cb56 : cx.cbox 56 1 = false := by kernel_rfl
@[go_sem] theorem vr56 : cx.vrow 56 2 = false ∧ cx.vrow 56 3 = false ∧ cx.vrow 56 4 = true ∧ cx.vrow 56 19 = false := by
  refine ⟨?_, ?_, ?_, ?_⟩ <;> kernel_rfl
@[go_sem] theorem kp57 (i : Nat) : cx.keep 57 i = lkK i [(0, [1]), (1, [1, 3, 4]), (2, [1, 3, 21]), (3, [2]), (4, [1, 3, 5]), (5, [5, 29, 30, 31]), (6, [5, 29, 30, 31, 32]), (7, [5, 7, 29, 30, 31]), (8, [5, 29, 30, 31]), (9, [5, 29, 30, 31]), (10, [2])] := (show cx.keep 57 i = keep57.lookup i by kernel_rfl).trans (lkK_eq _ _)
@[go_sem] theorem rs57 : Try.f57.results.toList = [.tmp 2] := by kernel_rfl
@[go_sem] theorem cb57 : cx.cbox 57 1 = true := by kernel_rfl
@[go_sem] theorem vr57 : cx.vrow 57 2 = false ∧ cx.vrow 57 3 = false ∧ cx.vrow 57 4 = false ∧ cx.vrow 57 5 = false ∧ cx.vrow 57 7 = false := by
  refine ⟨?_, ?_, ?_, ?_, ?_⟩ <;> kernel_rfl
@[go_sem] theorem kp58 (i : Nat) : cx.keep 58 i = lkK i [(0, [2, 3]), (1, [2, 3, 41]), (2, [4]), (3, [2, 3, 5]), (4, [2, 3, 5, 46]), (5, [2, 3, 5]), (6, [2, 3, 5, 60]), (7, [4]), (8, [4])] := (show cx.keep 58 i = keep58.lookup i by kernel_rfl).trans (lkK_eq _ _)
@[go_sem] theorem rs58 : Try.f58.results.toList = [.tmp 4] := by kernel_rfl
@[go_sem] theorem sc58_6 : cx.sched 58 6 = [0, 1, 2, 3, 4, 5, 6, 7, 8, 9, 10, 11] := by kernel_rfl
@[go_sem] theorem lt58 (d : Nat) : cx.late 58 d = memN d [] := (show cx.late 58 d = List.contains [] d by kernel_rfl).trans (memN_eq _ _)
@[go_sem] theorem bs58 : cx.bs 58 = false := by kernel_rfl
@[go_sem] theorem cb58 : cx.cbox 58 2 = true ∧ cx.cbox 58 3 = true := by
  refine ⟨?_, ?_⟩ <;> kernel_rfl
@[go_sem] theorem vr58 : cx.vrow 58 4 = false ∧ cx.vrow 58 5 = false := by
  refine ⟨?_, ?_⟩ <;> kernel_rfl
@[go_sem] theorem kp59 (i : Nat) : cx.keep 59 i = lkK i [(0, [0, 3, 4]), (1, [0, 4, 8, 9]), (2, [0, 4, 8, 9, 20]), (3, [4, 5, 6, 7]), (4, [4, 9, 10, 11, 12]), (5, [4, 9, 10, 11, 46]), (6, [4, 5, 6, 7]), (7, [4, 5, 6, 7])] := (show cx.keep 59 i = keep59.lookup i by kernel_rfl).trans (lkK_eq _ _)
@[go_sem] theorem rs59 : Try.f59.results.toList = [.cell 4 54, .tmp 5, .tmp 6, .tmp 7] := by kernel_rfl
@[go_sem] theorem sc59_5 : cx.sched 59 5 = [0, 1, 2, 3, 4, 5, 6, 7, 8, 9, 10, 11, 12, 13, 14, 15, 16] := by kernel_rfl
@[go_sem] theorem sc59_7 : cx.sched 59 7 = [0, 1, 2, 3, 4, 5, 6, 7, 8, 9] := by kernel_rfl
@[go_sem] theorem lt59 (d : Nat) : cx.late 59 d = memN d [] := (show cx.late 59 d = List.contains [] d by kernel_rfl).trans (memN_eq _ _)
@[go_sem] theorem bs59 : cx.bs 59 = false := by kernel_rfl
@[go_sem] theorem cb59 : cx.cbox 59 3 = true := by kernel_rfl
@[go_sem] theorem vr59 : cx.vrow 59 4 = false ∧ cx.vrow 59 5 = false ∧ cx.vrow 59 6 = false ∧ cx.vrow 59 7 = false ∧ cx.vrow 59 8 = false ∧ cx.vrow 59 9 = false ∧ cx.vrow 59 10 = false ∧ cx.vrow 59 11 = false ∧ cx.vrow 59 12 = false := by
  refine ⟨?_, ?_, ?_, ?_, ?_, ?_, ?_, ?_, ?_⟩ <;> kernel_rfl
@[go_sem] theorem kp60 (i : Nat) : cx.keep 60 i = lkK i [(0, [1, 2, 3]), (1, [1, 2, 8, 9]), (2, [1, 2, 8, 31]), (3, [6, 7]), (4, [2, 10]), (5, [2, 10, 11]), (6, [2, 10, 11, 41]), (7, [2, 10, 11]), (8, [2, 10, 11, 50]), (9, [6, 7]), (10, [6, 7])] := (show cx.keep 60 i = keep60.lookup i by kernel_rfl).trans (lkK_eq _ _)
@[go_sem] theorem rs60 : Try.f60.results.toList = [.tmp 6, .tmp 7] := by kernel_rfl
@[go_sem] theorem cb60 : cx.cbox 60 3 = true := by kernel_rfl
@[go_sem] theorem vr60 : cx.vrow 60 6 = false ∧ cx.vrow 60 7 = false ∧ cx.vrow 60 8 = false ∧ cx.vrow 60 9 = false ∧ cx.vrow 60 10 = false ∧ cx.vrow 60 11 = false := by
  refine ⟨?_, ?_, ?_, ?_, ?_, ?_⟩ <;> kernel_rfl
@[go_sem] theorem kp61 (i : Nat) : cx.keep 61 i = lkK i [(0, [1, 2]), (1, [3])] := (show cx.keep 61 i = keep61.lookup i by kernel_rfl).trans (lkK_eq _ _)
@[go_sem] theorem rs61 : Try.f61.results.toList = [.tmp 3] := by kernel_rfl
@[go_sem] theorem cb61 : cx.cbox 61 2 = true := by kernel_rfl
@[go_sem] theorem vr61 : cx.vrow 61 3 = false := by kernel_rfl
@[go_sem] theorem kp62 (i : Nat) : cx.keep 62 i = lkK i [(0, [1]), (1, [1, 47]), (2, [2]), (3, [1, 3]), (4, [1, 3, 52]), (5, [1, 3]), (6, [1, 3, 72]), (7, [2]), (8, [1, 4]), (9, [1, 4, 78]), (10, [1, 4]), (11, [1, 4, 88]), (12, [2]), (13, [1, 5]), (14, [1, 5, 93]), (15, [1, 5]), (16, [1, 5, 123]), (17, [2]), (18, [2])] := (show cx.keep 62 i = keep62.lookup i by kernel_rfl).trans (lkK_eq _ _)
@[go_sem] theorem rs62 : Try.f62.results.toList = [.tmp 2] := by kernel_rfl
@[go_sem] theorem cb62 : cx.cbox 62 1 = true := by kernel_rfl
@[go_sem] theorem vr62 : cx.vrow 62 2 = false ∧ cx.vrow 62 3 = false ∧ cx.vrow 62 4 = false ∧ cx.vrow 62 5 = false := by
  refine ⟨?_, ?_, ?_, ?_⟩ <;> kernel_rfl
@[go_sem] theorem kp69 (i : Nat) : cx.keep 69 i = lkK i [(0, [2, 3]), (1, [4])] := (show cx.keep 69 i = keep69.lookup i by kernel_rfl).trans (lkK_eq _ _)
@[go_sem] theorem rs69 : Try.f69.results.toList = [.tmp 4] := by kernel_rfl
@[go_sem] theorem cb69 : cx.cbox 69 2 = true ∧ cx.cbox 69 3 = true := by
  refine ⟨?_, ?_⟩ <;> kernel_rfl
@[go_sem] theorem vr69 : cx.vrow 69 4 = false := by kernel_rfl
@[go_sem] theorem kp70 (i : Nat) : cx.keep 70 i = lkK i [(0, [0, 3]), (1, [0, 3, 14]), (2, [4]), (3, [0, 3, 17]), (4, [4]), (5, [0, 3, 5]), (6, [0, 3, 5, 21]), (7, [4]), (8, [0, 3, 6]), (9, [0, 3, 6, 27]), (10, [4]), (11, [4])] := (show cx.keep 70 i = keep70.lookup i by kernel_rfl).trans (lkK_eq _ _)
@[go_sem] theorem rs70 : Try.f70.results.toList = [.tmp 4] := by kernel_rfl
@[go_sem] theorem cb70 : cx.cbox 70 3 = true := by kernel_rfl
@[go_sem] theorem vr70 : cx.vrow 70 4 = false ∧ cx.vrow 70 5 = false ∧ cx.vrow 70 6 = false := by
  refine ⟨?_, ?_, ?_⟩ <;> kernel_rfl
@[go_sem] theorem kp71 (i : Nat) : cx.keep 71 i = lkK i [(0, [1, 2]), (1, [1, 2, 9]), (2, [1, 2, 9, 10]), (3, [1, 2, 9, 10]), (4, [1, 2, 9, 10]), (5, [4]), (6, [1, 2, 9, 18]), (7, [1, 2, 5]), (8, [1, 2, 5, 24]), (9, [1, 2, 5]), (10, [1, 2, 5, 34]), (11, [4]), (12, [1, 2, 6]), (13, [4]), (14, [1, 2, 63]), (15, [1, 2, 7]), (16, [1, 2, 7, 69]), (17, [1, 2, 7]), (18, [1, 2, 7, 79]), (19, [4]), (20, [4])] := (show cx.keep 71 i = keep71.lookup i by kernel_rfl).trans (lkK_eq _ _)
@[go_sem] theorem rs71 : Try.f71.results.toList = [.tmp 4] := by kernel_rfl
@[go_sem] theorem sc71_13 : cx.sched 71 13 = [0, 1, 2, 3, 4, 5, 6, 7, 8, 9, 10, 11, 12, 13, 14, 15, 16, 17, 18, 19, 20, 21, 22, 23, 24, 25] := by kernel_rfl
@[go_sem] theorem lt71 (d : Nat) : cx.late 71 d = memN d [] := (show cx.late 71 d = List.contains [] d by kernel_rfl).trans (memN_eq _ _)
@[go_sem] theorem bs71 : cx.bs 71 = false := by kernel_rfl
@[go_sem] theorem cb71 : cx.cbox 71 2 = true := by kernel_rfl
@[go_sem] theorem vr71 : cx.vrow 71 4 = false ∧ cx.vrow 71 10 = false ∧ cx.vrow 71 18 = false ∧ cx.vrow 71 5 = false ∧ cx.vrow 71 6 = false ∧ cx.vrow 71 63 = false ∧ cx.vrow 71 7 = false := by
  refine ⟨?_, ?_, ?_, ?_, ?_, ?_, ?_⟩ <;> kernel_rfl
@[go_sem] theorem kp72 (i : Nat) : cx.keep 72 i = lkK i [(0, [1, 2, 3, 6]), (1, [1, 2, 3, 6, 7]), (2, [1, 2, 3, 6, 7, 17]), (3, [1, 2, 3, 6, 7, 9]), (4, [1, 2, 3, 6, 7, 9, 22]), (5, [1, 2, 3, 6, 7, 9]), (6, [1, 2, 3, 6, 7, 9, 32]), (7, [6]), (8, [1, 2, 3, 6, 7, 17, 44]), (9, [6, 7]), (10, [1, 2, 3, 6, 7, 17, 47]), (11, [6, 7]), (12, [1, 2, 3, 6, 7, 17, 50]), (13, [6, 7]), (14, [1, 2, 3, 6, 7, 53]), (15, [1, 2, 3, 6, 7]), (16, [1, 2, 3, 6, 7, 59]), (17, [6]), (18, [1, 2, 3, 6, 8]), (19, [1, 2, 3, 6, 8, 65]), (20, [1, 2, 3, 6, 8]), (21, [1, 2, 3, 6, 8, 75]), (22, [6]), (23, [6]), (24, [6])] := (show cx.keep 72 i = keep72.lookup i by kernel_rfl).trans (lkK_eq _ _)
@[go_sem] theorem rs72 : Try.f72.results.toList = [.cell 6 44] := by kernel_rfl
@[go_sem] theorem sc72_22 : cx.sched 72 22 = [0, 1, 2, 3, 4, 5, 6, 7, 8, 9, 10, 11] := by kernel_rfl
@[go_sem] theorem sc72_7 : cx.sched 72 7 = [0, 1, 2, 3, 4, 5, 6, 7, 8, 9, 10, 11] := by kernel_rfl
@[go_sem] theorem lt72 (d : Nat) : cx.late 72 d = memN d [] := (show cx.late 72 d = List.contains [] d by kernel_rfl).trans (memN_eq _ _)
@[go_sem] theorem bs72 : cx.bs 72 = false := by kernel_rfl
@[go_sem] theorem cb72 : cx.cbox 72 3 = true := by kernel_rfl
@[go_sem] theorem vr72 : cx.vrow 72 6 = false ∧ cx.vrow 72 7 = false ∧ cx.vrow 72 44 = false ∧ cx.vrow 72 47 = false ∧ cx.vrow 72 50 = false ∧ cx.vrow 72 53 = false ∧ cx.vrow 72 8 = false ∧ cx.vrow 72 9 = false := by
  refine ⟨?_, ?_, ?_, ?_, ?_, ?_, ?_, ?_⟩ <;> kernel_rfl
@[go_sem] theorem kp74 (i : Nat) : cx.keep 74 i = lkK i [(0, [2, 3]), (1, [2, 3, 36]), (2, [4]), (3, [2, 3, 5]), (4, [2, 3, 5, 41]), (5, [2, 3, 5]), (6, [2, 3, 5, 6, 7]), (7, [2, 3, 5, 73]), (8, [4]), (9, [4])] := (show cx.keep 74 i = keep74.lookup i by kernel_rfl).trans (lkK_eq _ _)
@[go_sem] theorem rs74 : Try.f74.results.toList = [.tmp 4] := by kernel_rfl
@[go_sem] theorem sc74_6 : cx.sched 74 6 = [0, 1, 2, 3, 4, 5, 6, 7, 8, 9, 10, 11, 12, 13] := by kernel_rfl
@[go_sem] theorem lt74 (d : Nat) : cx.late 74 d = memN d [] := (show cx.late 74 d = List.contains [] d by kernel_rfl).trans (memN_eq _ _)
@[go_sem] theorem bs74 : cx.bs 74 = false := by kernel_rfl
@[go_sem] theorem cb74 : cx.cbox 74 2 = true ∧ cx.cbox 74 3 = true := by
  refine ⟨?_, ?_⟩ <;> kernel_rfl
@[go_sem] theorem vr74 : cx.vrow 74 4 = false ∧ cx.vrow 74 5 = false ∧ cx.vrow 74 6 = false ∧ cx.vrow 74 7 = false := by
  refine ⟨?_, ?_, ?_, ?_⟩ <;> kernel_rfl
@[go_sem] theorem kp83 (i : Nat) : cx.keep 83 i = lkK i [(0, [1]), (1, [1, 8]), (2, [1, 8, 9]), (3, [1, 8, 9]), (4, [1, 8, 9]), (5, [2]), (6, [1, 8, 16]), (7, [1, 3]), (8, [1, 3, 4]), (9, [1, 3, 4, 25]), (10, [1, 3, 4]), (11, [1, 3, 4]), (12, [2]), (13, [1, 43]), (14, [1, 5]), (15, [1, 5, 6]), (16, [1, 5, 6, 49]), (17, [1, 5, 6]), (18, [1, 5, 6]), (19, [2]), (20, [2])] := (show cx.keep 83 i = keep83.lookup i by kernel_rfl).trans (lkK_eq _ _)
@[go_sem] theorem rs83 : Try.f83.results.toList = [.tmp 2] := by kernel_rfl
@[go_sem] theorem cb83 : cx.cbox 83 1 = true := by kernel_rfl
@[go_sem] theorem vr83 : cx.vrow 83 2 = true ∧ cx.vrow 83 9 = false ∧ cx.vrow 83 15 = false ∧ cx.vrow 83 16 = false ∧ cx.vrow 83 20 = false ∧ cx.vrow 83 3 = false ∧ cx.vrow 83 4 = false ∧ cx.vrow 83 35 = false ∧ cx.vrow 83 41 = false ∧ cx.vrow 83 43 = false ∧ cx.vrow 83 5 = true ∧ cx.vrow 83 6 = false ∧ cx.vrow 83 59 = false := by
  refine ⟨?_, ?_, ?_, ?_, ?_, ?_, ?_, ?_, ?_, ?_, ?_, ?_, ?_⟩ <;> kernel_rfl
@[go_sem] theorem kp90 (i : Nat) : cx.keep 90 i = lkK i [(0, [0]), (1, [0, 7]), (2, [2]), (3, [8, 9, 10]), (4, [8, 9, 10, 11]), (5, [4, 8, 9, 10]), (6, [8, 9, 10, 34]), (7, [2]), (8, [8, 9, 10]), (9, [2])] := (show cx.keep 90 i = keep90.lookup i by kernel_rfl).trans (lkK_eq _ _)
@[go_sem] theorem rs90 : Try.f90.results.toList = [.tmp 2] := by kernel_rfl
@[go_sem] theorem vr90 : cx.vrow 90 2 = false ∧ cx.vrow 90 4 = false := by
  refine ⟨?_, ?_⟩ <;> kernel_rfl
@[go_sem] theorem kp91 (i : Nat) : cx.keep 91 i = lkK i [(0, [1, 2, 3, 4, 5]), (1, [5, 11]), (2, [5, 11, 20]), (3, [10]), (4, [5, 24]), (5, [10]), (6, [27]), (7, [10]), (8, [10])] := (show cx.keep 91 i = keep91.lookup i by kernel_rfl).trans (lkK_eq _ _)
@[go_sem] theorem rs91 : Try.f91.results.toList = [.tmp 10] := by kernel_rfl
@[go_sem] theorem cb91 : cx.cbox 91 5 = true := by kernel_rfl
@[go_sem] theorem vr91 : cx.vrow 91 10 = false ∧ cx.vrow 91 11 = false := by
  refine ⟨?_, ?_⟩ <;> kernel_rfl
@[go_sem] theorem kp92 (i : Nat) : cx.keep 92 i = lkK i [(0, [0, 1]), (1, [0, 1, 7, 8]), (2, [0, 1, 7, 8, 9]), (3, [0, 1, 5, 7, 8]), (4, [0, 1, 5, 7, 8, 16]), (5, [4]), (6, [0, 1, 7, 8]), (7, [4])] := (show cx.keep 92 i = keep92.lookup i by kernel_rfl).trans (lkK_eq _ _)
@[go_sem] theorem rs92 : Try.f92.results.toList = [.tmp 4] := by kernel_rfl
@[go_sem] theorem vr92 : cx.vrow 92 4 = false ∧ cx.vrow 92 5 = false := by
  refine ⟨?_, ?_⟩ <;> kernel_rfl
@[go_sem] theorem kp93 (i : Nat) : cx.keep 93 i = lkK i [(0, [2, 3, 4]), (1, [2, 4, 5]), (2, [4])] := (show cx.keep 93 i = keep93.lookup i by kernel_rfl).trans (lkK_eq _ _)
@[go_sem] theorem rs93 : Try.f93.results.toList = [.cell 4 26] := by kernel_rfl
@[go_sem] theorem cb93 : cx.cbox 93 2 = true ∧ cx.cbox 93 3 = true := by
  refine ⟨?_, ?_⟩ <;> kernel_rfl
@[go_sem] theorem vr93 : cx.vrow 93 4 = false ∧ cx.vrow 93 5 = false ∧ cx.vrow 93 6 = false ∧ cx.vrow 93 14 = false := by
  refine ⟨?_, ?_, ?_, ?_⟩ <;> kernel_rfl
@[go_sem] theorem kp94 (i : Nat) : cx.keep 94 i = lkK i [(0, [1, 2, 4]), (1, [1, 2, 4, 5]), (2, [1, 2, 4, 5, 9]), (3, [1, 2, 4, 5]), (4, [1, 2, 4, 5]), (5, [4])] := (show cx.keep 94 i = keep94.lookup i by kernel_rfl).trans (lkK_eq _ _)
@[go_sem] theorem rs94 : Try.f94.results.toList = [.cell 4 26] := by kernel_rfl
@[go_sem] theorem sc94_4 : cx.sched 94 4 = [0, 1, 2, 3, 4, 5, 6, 7] := by kernel_rfl
@[go_sem] theorem lt94 (d : Nat) : cx.late 94 d = memN d [] := (show cx.late 94 d = List.contains [] d by kernel_rfl).trans (memN_eq _ _)
@[go_sem] theorem bs94 : cx.bs 94 = false := by kernel_rfl
@[go_sem] theorem cb94 : cx.cbox 94 2 = false := by kernel_rfl
@[go_sem] theorem vr94 : cx.vrow 94 4 = false ∧ cx.vrow 94 5 = false ∧ cx.vrow 94 17 = false := by
  refine ⟨?_, ?_, ?_⟩ <;> kernel_rfl
@[go_sem] theorem kp95 (i : Nat) : cx.keep 95 i = lkK i [(0, [0, 1, 2]), (1, [0, 1, 2, 14]), (2, [6]), (3, [1, 2, 15, 16, 17]), (4, [1, 2, 15, 16, 17, 18]), (5, [1, 2, 7, 8, 15, 16, 17]), (6, [1, 2, 8, 9, 15, 16, 17]), (7, [1, 2, 15, 16, 17, 30]), (8, [6]), (9, [1, 2, 15, 16, 17]), (10, [6])] := (show cx.keep 95 i = keep95.lookup i by kernel_rfl).trans (lkK_eq _ _)
@[go_sem] theorem rs95 : Try.f95.results.toList = [.tmp 6] := by kernel_rfl
@[go_sem] theorem vr95 : cx.vrow 95 6 = false ∧ cx.vrow 95 8 = false ∧ cx.vrow 95 7 = false ∧ cx.vrow 95 9 = false := by
  refine ⟨?_, ?_, ?_, ?_⟩ <;> kernel_rfl
@[go_sem] theorem kp96 (i : Nat) : cx.keep 96 i = lkK i [(0, [2, 3]), (1, [4])] := (show cx.keep 96 i = keep96.lookup i by kernel_rfl).trans (lkK_eq _ _)
@[go_sem] theorem rs96 : Try.f96.results.toList = [.tmp 4] := by kernel_rfl
@[go_sem] theorem cb96 : cx.cbox 96 2 = true ∧ cx.cbox 96 3 = true := by
  refine ⟨?_, ?_⟩ <;> kernel_rfl
@[go_sem] theorem vr96 : cx.vrow 96 4 = false := by kernel_rfl
@[go_sem] theorem kp97 (i : Nat) : cx.keep 97 i = lkK i [(0, [0, 1, 2]), (1, [0, 1, 2, 14]), (2, [6]), (3, [1, 2, 15, 16, 17]), (4, [1, 2, 15, 16, 17, 18]), (5, [1, 2, 7, 8, 15, 16, 17]), (6, [1, 2, 8, 9, 15, 16, 17]), (7, [1, 2, 15, 16, 17, 30]), (8, [6]), (9, [1, 2, 15, 16, 17]), (10, [6])] := (show cx.keep 97 i = keep97.lookup i by kernel_rfl).trans (lkK_eq _ _)
@[go_sem] theorem rs97 : Try.f97.results.toList = [.tmp 6] := by kernel_rfl
@[go_sem] theorem vr97 : cx.vrow 97 6 = false ∧ cx.vrow 97 8 = false ∧ cx.vrow 97 7 = false ∧ cx.vrow 97 9 = false := by
  refine ⟨?_, ?_, ?_, ?_⟩ <;> kernel_rfl
@[go_sem] theorem kp98 (i : Nat) : cx.keep 98 i = lkK i [(0, [1, 3]), (1, [1, 3, 4]), (2, [1, 3, 4, 13]), (3, [1, 3, 4]), (4, [1, 3, 4]), (5, [2, 3])] := (show cx.keep 98 i = keep98.lookup i by kernel_rfl).trans (lkK_eq _ _)
@[go_sem] theorem rs98 : Try.f98.results.toList = [.tmp 2, .cell 3 26] := by kernel_rfl
@[go_sem] theorem sc98_5 : cx.sched 98 5 = [0, 1, 2, 3] := by kernel_rfl
@[go_sem] theorem lt98 (d : Nat) : cx.late 98 d = memN d [] := (show cx.late 98 d = List.contains [] d by kernel_rfl).trans (memN_eq _ _)
@[go_sem] theorem bs98 : cx.bs 98 = false := by kernel_rfl
@[go_sem] theorem cb98 : cx.cbox 98 1 = false := by kernel_rfl
@[go_sem] theorem vr98 : cx.vrow 98 2 = false ∧ cx.vrow 98 3 = false ∧ cx.vrow 98 4 = true ∧ cx.vrow 98 19 = false := by
  refine ⟨?_, ?_, ?_, ?_⟩ <;> kernel_rfl
@[go_sem] theorem kp99 (i : Nat) : cx.keep 99 i = lkK i [(0, [0, 2, 3]), (1, [0, 2, 3, 9]), (2, [0, 2, 3]), (3, [0, 2, 3])] := (show cx.keep 99 i = keep99.lookup i by kernel_rfl).trans (lkK_eq _ _)
@[go_sem] theorem rs99 : Try.f99.results.toList = [] := by kernel_rfl
@[go_sem] theorem sc99_3 : cx.sched 99 3 = [0, 1, 2, 3, 4, 5, 6, 7, 8, 9, 10, 11, 12, 13, 14, 15] := by kernel_rfl
@[go_sem] theorem lt99 (d : Nat) : cx.late 99 d = memN d [2, 3] := (show cx.late 99 d = List.contains [2, 3] d by kernel_rfl).trans (memN_eq _ _)
@[go_sem] theorem bs99 : cx.bs 99 = false := by kernel_rfl
@[go_sem] theorem vr99 : cx.vrow 99 2 = false ∧ cx.vrow 99 3 = false := by
  refine ⟨?_, ?_⟩ <;> kernel_rfl
@[go_sem] theorem kp100 (i : Nat) : cx.keep 100 i = lkK i [(0, [1, 2]), (1, [1, 2, 14]), (2, [2, 3]), (3, [1, 2, 4, 5]), (4, [1, 2, 4, 5, 41]), (5, [2, 3]), (6, [1, 2, 6]), (7, [1, 2, 6, 7]), (8, [2, 6, 7, 69, 70, 71]), (9, [2, 6, 7, 69, 70, 71, 72]), (10, [2, 6, 7, 9, 69, 70, 71]), (11, [2, 6, 7, 10, 11, 69, 70, 71]), (12, [2, 6, 7, 10, 69, 70, 71, 82]), (13, [2, 3]), (14, [2, 6, 7, 69, 70, 71]), (15, [2, 6, 7, 69, 70, 71]), (16, [2, 3])] := (show cx.keep 100 i = keep100.lookup i by kernel_rfl).trans (lkK_eq _ _)
@[go_sem] theorem rs100 : Try.f100.results.toList = [.cell 2 161, .tmp 3] := by kernel_rfl
@[go_sem] theorem sc100_6 : cx.sched 100 6 = [0, 1, 2, 3, 4, 5, 6, 7, 8, 9, 10, 11, 12, 13, 14, 15] := by kernel_rfl
@[go_sem] theorem sc100_7 : cx.sched 100 7 = [0, 1, 2, 3, 5, 6, 7, 8, 9, 11, 4, 10, 12] := by kernel_rfl
@[go_sem] theorem lt100 (d : Nat) : cx.late 100 d = memN d [] := (show cx.late 100 d = List.contains [] d by kernel_rfl).trans (memN_eq _ _)
@[go_sem] theorem bs100 : cx.bs 100 = false := by kernel_rfl
@[go_sem] theorem bu161 (ps : List (Nat × AV)) : abuild cx.P 161 ps = (fillA (([(0, 1), (1, 1), (2, 1), (3, 1), (4, 5), (9, 1)] : List (Nat × Nat))[·]?) [.im (.s ByteArray.empty), .im (.i .i64 0), .im (.sl 1 false true []), .im (.sl 1 false true []), .im (.i .i64 0), .im (.i .i64 0), .im (.s ByteArray.empty), .im (.sl 1 false true []), .im (.sl 1 false true []), .im (.sl 1 false true [])] ps).map mkAgg := by kernel_rfl
@[go_sem] theorem bu204 (ps : List (Nat × AV)) : abuild cx.P 204 ps = (fillA (([(0, 5), (5, 1), (6, 1)] : List (Nat × Nat))[·]?) [.im (.i .i64 0), .im (.i .i64 0), .im (.s ByteArray.empty), .im (.sl 1 false true []), .im (.sl 1 false true []), .im (.sl 1 false true []), .im (.i .i64 0)] ps).map mkAgg := by kernel_rfl
@[go_sem] theorem cb100 : cx.cbox 100 1 = true := by kernel_rfl
@[go_sem] theorem vr100 : cx.vrow 100 2 = false ∧ cx.vrow 100 3 = false ∧ cx.vrow 100 5 = false ∧ cx.vrow 100 4 = false ∧ cx.vrow 100 6 = false ∧ cx.vrow 100 7 = false ∧ cx.vrow 100 9 = false ∧ cx.vrow 100 10 = false ∧ cx.vrow 100 11 = false ∧ cx.vrow 100 87 = false := by
  refine ⟨?_, ?_, ?_, ?_, ?_, ?_, ?_, ?_, ?_, ?_⟩ <;> kernel_rfl
@[go_sem] theorem kp101 (i : Nat) : cx.keep 101 i = lkK i [(0, [0, 1]), (1, [0, 1, 10]), (2, [4]), (3, [0, 1, 5]), (4, [0, 1, 5, 14]), (5, [0, 1, 5]), (6, [0, 1, 5, 26]), (7, [4]), (8, [4])] := (show cx.keep 101 i = keep101.lookup i by kernel_rfl).trans (lkK_eq _ _)
@[go_sem] theorem rs101 : Try.f101.results.toList = [.tmp 4] := by kernel_rfl
@[go_sem] theorem sc101_6 : cx.sched 101 6 = [0, 1, 2, 3, 4, 5, 6, 7, 8, 9] := by kernel_rfl
@[go_sem] theorem lt101 (d : Nat) : cx.late 101 d = memN d [] := (show cx.late 101 d = List.contains [] d by kernel_rfl).trans (memN_eq _ _)
@[go_sem] theorem bs101 : cx.bs 101 = false := by kernel_rfl
@[go_sem] theorem vr101 : cx.vrow 101 4 = false ∧ cx.vrow 101 5 = false := by
  refine ⟨?_, ?_⟩ <;> kernel_rfl
@[go_sem] theorem kp102 (i : Nat) : cx.keep 102 i = lkK i [(0, [1, 2]), (1, [2, 5]), (2, [4])] := (show cx.keep 102 i = keep102.lookup i by kernel_rfl).trans (lkK_eq _ _)
@[go_sem] theorem rs102 : Try.f102.results.toList = [.tmp 4] := by kernel_rfl
@[go_sem] theorem cb102 : cx.cbox 102 2 = true := by kernel_rfl
@[go_sem] theorem vr102 : cx.vrow 102 4 = false ∧ cx.vrow 102 6 = false ∧ cx.vrow 102 5 = false := by
  refine ⟨?_, ?_, ?_⟩ <;> kernel_rfl
@[go_sem] theorem kp103 (i : Nat) : cx.keep 103 i = lkK i [(0, [1, 2]), (1, [1, 2, 12]), (2, [2, 3]), (3, [1, 2, 4, 5]), (4, [1, 2, 4, 5, 34]), (5, [2, 3]), (6, [1, 2, 6]), (7, [1, 2, 6, 7]), (8, [1, 2, 6, 7, 54]), (9, [1, 2, 6, 7]), (10, [1, 2, 6, 7, 8, 9]), (11, [1, 2, 6, 7, 8, 68]), (12, [2, 3]), (13, [1, 2, 6, 7]), (14, [2, 3])] := (show cx.keep 103 i = keep103.lookup i by kernel_rfl).trans (lkK_eq _ _)
@[go_sem] theorem rs103 : Try.f103.results.toList = [.cell 2 161, .tmp 3] := by kernel_rfl
@[go_sem] theorem sc103_6 : cx.sched 103 6 = [0, 1, 2, 3, 4, 5, 6, 7, 8, 9, 10, 11, 12, 13, 14, 15] := by kernel_rfl
@[go_sem] theorem sc103_10 : cx.sched 103 10 = [0, 1, 2, 3, 4, 5, 10, 6, 7, 8, 9, 11, 12] := by kernel_rfl
@[go_sem] theorem lt103 (d : Nat) : cx.late 103 d = memN d [] := (show cx.late 103 d = List.contains [] d by kernel_rfl).trans (memN_eq _ _)
@[go_sem] theorem bs103 : cx.bs 103 = false := by kernel_rfl
@[go_sem] theorem cb103 : cx.cbox 103 1 = true := by kernel_rfl
@[go_sem] theorem vr103 : cx.vrow 103 2 = false ∧ cx.vrow 103 3 = false ∧ cx.vrow 103 5 = false ∧ cx.vrow 103 4 = false ∧ cx.vrow 103 6 = false ∧ cx.vrow 103 7 = false ∧ cx.vrow 103 8 = false ∧ cx.vrow 103 9 = false ∧ cx.vrow 103 73 = false := by
  refine ⟨?_, ?_, ?_, ?_, ?_, ?_, ?_, ?_, ?_⟩ <;> kernel_rfl
@[go_sem] theorem kp104 (i : Nat) : cx.keep 104 i = lkK i [(0, [1]), (1, [2])] := (show cx.keep 104 i = keep104.lookup i by kernel_rfl).trans (lkK_eq _ _)
@[go_sem] theorem rs104 : Try.f104.results.toList = [.tmp 2] := by kernel_rfl
@[go_sem] theorem cb104 : cx.cbox 104 1 = true := by kernel_rfl
@[go_sem] theorem vr104 : cx.vrow 104 2 = false := by kernel_rfl
@[go_sem] theorem kp105 (i : Nat) : cx.keep 105 i = lkK i [(0, [1, 2]), (1, [1, 2, 19]), (2, [4]), (3, [1, 2, 5]), (4, [1, 2, 5, 24]), (5, [1, 2, 5]), (6, [1, 2, 5, 46]), (7, [4]), (8, [4])] := (show cx.keep 105 i = keep105.lookup i by kernel_rfl).trans (lkK_eq _ _)
@[go_sem] theorem rs105 : Try.f105.results.toList = [.tmp 4] := by kernel_rfl
@[go_sem] theorem cb105 : cx.cbox 105 2 = true := by kernel_rfl
@[go_sem] theorem vr105 : cx.vrow 105 4 = false ∧ cx.vrow 105 5 = false := by
  refine ⟨?_, ?_⟩ <;> kernel_rfl
@[go_sem] theorem kp112 (i : Nat) : cx.keep 112 i = lkK i [(0, [0, 1, 2, 4]), (1, [0, 1, 2, 4, 16]), (2, [0, 1, 2, 4, 16, 17]), (3, [0, 1, 2, 4, 16, 17]), (4, [0, 1, 2, 4, 16, 17]), (5, [0, 2, 4]), (6, []), (7, [0, 1, 2, 4, 16, 32]), (8, [0, 1, 2, 4]), (9, [0, 1, 2, 40]), (10, [0, 1, 2, 42, 43, 44]), (11, [0, 1, 2, 42, 43, 44, 45]), (12, [0, 1, 2, 5, 6, 42, 43, 44]), (13, [0, 1, 2, 42, 43, 44, 60]), (14, [0, 1, 2, 42, 43, 44]), (15, []), (16, [0, 1, 2, 75]), (17, [0, 1, 2, 78, 79, 80]), (18, [0, 1, 2, 78, 79, 80, 81]), (19, [0, 1, 2, 7, 8, 78, 79, 80]), (20, [0, 1, 2, 78, 79, 80, 96]), (21, [0, 1, 2, 78, 79, 80])] := (show cx.keep 112 i = keep112.lookup i by kernel_rfl).trans (lkK_eq _ _)
@[go_sem] theorem rs112 : Try.f112.results.toList = [] := by kernel_rfl
@[go_sem] theorem vr112 : cx.vrow 112 4 = false ∧ cx.vrow 112 17 = false ∧ cx.vrow 112 21 = false ∧ cx.vrow 112 32 = false ∧ cx.vrow 112 6 = false ∧ cx.vrow 112 5 = false ∧ cx.vrow 112 75 = false ∧ cx.vrow 112 8 = false ∧ cx.vrow 112 7 = false := by
  refine ⟨?_, ?_, ?_, ?_, ?_, ?_, ?_, ?_, ?_⟩ <;> kernel_rfl
@[go_sem] theorem kp113 (i : Nat) : cx.keep 113 i = lkK i [(0, [1]), (1, [1, 3]), (2, [1, 4]), (3, [1, 4, 35]), (4, [1, 4, 35, 36]), (5, [2]), (6, [1, 4, 35, 50]), (7, [1, 4, 35, 50]), (8, [2]), (9, [1, 4, 60]), (10, [2]), (11, [2])] := (show cx.keep 113 i = keep113.lookup i by kernel_rfl).trans (lkK_eq _ _)
@[go_sem] theorem rs113 : Try.f113.results.toList = [.tmp 2] := by kernel_rfl
@[go_sem] theorem cb113 : cx.cbox 113 1 = true := by kernel_rfl
@[go_sem] theorem vr113 : cx.vrow 113 2 = false ∧ cx.vrow 113 3 = false ∧ cx.vrow 113 4 = false ∧ cx.vrow 113 36 = false ∧ cx.vrow 113 50 = false ∧ cx.vrow 113 60 = false := by
  refine ⟨?_, ?_, ?_, ?_, ?_, ?_⟩ <;> kernel_rfl
@[go_sem] theorem kp114 (i : Nat) : cx.keep 114 i = lkK i [(0, [1]), (1, [1, 16]), (2, [2]), (3, [1, 37]), (4, [2]), (5, [1, 3]), (6, [1, 3, 42]), (7, [1, 3]), (8, [1, 3, 60]), (9, [2]), (10, [95]), (11, [2]), (12, [2])] := (show cx.keep 114 i = keep114.lookup i by kernel_rfl).trans (lkK_eq _ _)
@[go_sem] theorem rs114 : Try.f114.results.toList = [.tmp 2] := by kernel_rfl
@[go_sem] theorem cb114 : cx.cbox 114 1 = true := by kernel_rfl
@[go_sem] theorem vr114 : cx.vrow 114 2 = false ∧ cx.vrow 114 3 = false := by
  refine ⟨?_, ?_⟩ <;> kernel_rfl
@[go_sem] theorem kp115 (i : Nat) : cx.keep 115 i = lkK i [(0, [0, 3]), (1, [0, 5]), (2, [0, 5, 6]), (3, [0, 5, 6, 14]), (4, [0, 5, 6]), (5, [0, 5, 6, 22]), (6, [4]), (7, [0, 5, 6, 8]), (8, [0, 5, 6, 43]), (9, [4]), (10, [4])] := (show cx.keep 115 i = keep115.lookup i by kernel_rfl).trans (lkK_eq _ _)
@[go_sem] theorem rs115 : Try.f115.results.toList = [.tmp 4] := by kernel_rfl
@[go_sem] theorem sc115_8 : cx.sched 115 8 = [0, 1, 2, 3, 4, 5, 6, 7, 8, 9, 10, 11] := by kernel_rfl
@[go_sem] theorem lt115 (d : Nat) : cx.late 115 d = memN d [] := (show cx.late 115 d = List.contains [] d by kernel_rfl).trans (memN_eq _ _)
@[go_sem] theorem bs115 : cx.bs 115 = false := by kernel_rfl
@[go_sem] theorem cb115 : cx.cbox 115 3 = true := by kernel_rfl
@[go_sem] theorem vr115 : cx.vrow 115 4 = false ∧ cx.vrow 115 5 = false ∧ cx.vrow 115 6 = false ∧ cx.vrow 115 7 = false ∧ cx.vrow 115 8 = false := by
  refine ⟨?_, ?_, ?_, ?_, ?_⟩ <;> kernel_rfl
@[go_sem] theorem kp116 (i : Nat) : cx.keep 116 i = lkK i [(0, [0, 3]), (1, [3, 5]), (2, [3, 5, 22]), (3, [3, 5, 6]), (4, [3, 5, 6, 30]), (5, [4]), (6, [3, 5, 33]), (7, [3, 5, 33, 34]), (8, [3, 5, 33, 34]), (9, [4]), (10, [3, 5, 33, 43]), (11, [3, 5]), (12, [3, 5, 7]), (13, [3, 5, 7, 53]), (14, [3, 5, 7]), (15, [3, 5, 7, 8]), (16, [3, 5, 7, 8, 67]), (17, [4]), (18, [3, 5, 9]), (19, [3, 5, 9]), (20, [3, 5, 9, 10]), (21, [3, 5, 9, 10, 86]), (22, [4]), (23, [3, 5]), (24, [3, 5, 11]), (25, [3, 5, 11, 95]), (26, [3, 5, 11]), (27, [3, 5, 11, 12]), (28, [3, 5, 11, 12, 110]), (29, [4]), (30, [3, 5, 112]), (31, [3, 5, 13]), (32, [3, 5, 13, 118]), (33, [3, 5, 13]), (34, [3, 5, 13, 14]), (35, [3, 5, 13, 14, 132]), (36, [4]), (37, [3, 5]), (38, [3, 5, 15]), (39, [3, 5, 15, 141]), (40, [3, 5, 15]), (41, [3, 5, 15, 16]), (42, [3, 5, 15, 16, 159]), (43, [4]), (44, [4])] := (show cx.keep 116 i = keep116.lookup i by kernel_rfl).trans (lkK_eq _ _)
@[go_sem] theorem rs116 : Try.f116.results.toList = [.tmp 4] := by kernel_rfl
@[go_sem] theorem sc116_15 : cx.sched 116 15 = [0, 1, 2, 3, 4, 5, 6, 7, 8, 9, 10] := by kernel_rfl
@[go_sem] theorem sc116_27 : cx.sched 116 27 = [0, 1, 2, 3, 4, 5, 6, 7, 8, 9, 10, 11] := by kernel_rfl
@[go_sem] theorem sc116_34 : cx.sched 116 34 = [0, 1, 2, 3, 4, 5, 6, 7, 8, 9, 10] := by kernel_rfl
@[go_sem] theorem sc116_41 : cx.sched 116 41 = [0, 1, 2, 3, 4, 5, 6, 7, 8, 9, 10, 11, 12, 13, 14] := by kernel_rfl
@[go_sem] theorem lt116 (d : Nat) : cx.late 116 d = memN d [] := (show cx.late 116 d = List.contains [] d by kernel_rfl).trans (memN_eq _ _)
@[go_sem] theorem bs116 : cx.bs 116 = false := by kernel_rfl
@[go_sem] theorem bu215 (ps : List (Nat × AV)) : abuild cx.P 215 ps = (fillA (([(0, 1), (1, 1), (2, 23)] : List (Nat × Nat))[·]?) [.im (.sl 1 false true []), .im (.sl 1 false true []), .im (.i .i64 0), .im (.s ByteArray.empty), .im (.i .i64 0), .im (.i .i64 0), .im (.i .i64 0), .im (.s ByteArray.empty), .im (.sl 1 false true []), .im (.sl 1 false true []), .im (.i .i64 0), .im (.i .i64 0), .im (.s ByteArray.empty), .im (.sl 1 false true []), .im (.sl 1 false true []), .im (.i .i64 0), .im (.sl 1 false true []), .im (.i .i64 0), .im (.i .i64 0), .im (.i .i64 0), .im (.s ByteArray.empty), .im (.sl 1 false true []), .im (.sl 1 false true []), .im (.sl 1 false true []), .im (.sl 1 false true [])] ps).map mkAgg := by kernel_rfl
@[go_sem] theorem cb116 : cx.cbox 116 3 = true := by kernel_rfl
@[go_sem] theorem vr116 : cx.vrow 116 4 = false ∧ cx.vrow 116 5 = false ∧ cx.vrow 116 6 = false ∧ cx.vrow 116 34 = false ∧ cx.vrow 116 43 = false ∧ cx.vrow 116 47 = false ∧ cx.vrow 116 7 = false ∧ cx.vrow 116 8 = false ∧ cx.vrow 116 9 = false ∧ cx.vrow 116 10 = false ∧ cx.vrow 116 11 = false ∧ cx.vrow 116 12 = false ∧ cx.vrow 116 112 = false ∧ cx.vrow 116 13 = false ∧ cx.vrow 116 14 = false ∧ cx.vrow 116 15 = false ∧ cx.vrow 116 16 = false := by
  refine ⟨?_, ?_, ?_, ?_, ?_, ?_, ?_, ?_, ?_, ?_, ?_, ?_, ?_, ?_, ?_, ?_, ?_⟩ <;> kernel_rfl
@[go_sem] theorem kp117 (i : Nat) : cx.keep 117 i = lkK i [(0, [0, 1]), (1, [0, 1, 10]), (2, [4]), (3, [0, 1, 5]), (4, [0, 1, 5, 14]), (5, [0, 1, 5]), (6, [0, 1, 5, 26]), (7, [4]), (8, [4])] := (show cx.keep 117 i = keep117.lookup i by kernel_rfl).trans (lkK_eq _ _)
@[go_sem] theorem rs117 : Try.f117.results.toList = [.tmp 4] := by kernel_rfl
@[go_sem] theorem sc117_6 : cx.sched 117 6 = [0, 1, 2, 3, 4, 5, 6, 7, 8, 9] := by kernel_rfl
@[go_sem] theorem lt117 (d : Nat) : cx.late 117 d = memN d [] := (show cx.late 117 d = List.contains [] d by kernel_rfl).trans (memN_eq _ _)
@[go_sem] theorem bs117 : cx.bs 117 = false := by kernel_rfl
@[go_sem] theorem vr117 : cx.vrow 117 4 = false ∧ cx.vrow 117 5 = false := by
  refine ⟨?_, ?_⟩ <;> kernel_rfl
@[go_sem] theorem kp126 (i : Nat) : cx.keep 126 i = lkK i [(0, [0, 1]), (1, [0, 1, 5]), (2, [0, 1, 5, 9]), (3, [0, 1, 5]), (4, [0, 1, 5, 17]), (5, [4]), (6, [4])] := (show cx.keep 126 i = keep126.lookup i by kernel_rfl).trans (lkK_eq _ _)
@[go_sem] theorem rs126 : Try.f126.results.toList = [.tmp 4] := by kernel_rfl
@[go_sem] theorem vr126 : cx.vrow 126 4 = false ∧ cx.vrow 126 5 = false := by
  refine ⟨?_, ?_⟩ <;> kernel_rfl
@[go_sem] theorem kp128 (i : Nat) : cx.keep 128 i = lkK i [(0, [0, 1]), (1, [4])] := (show cx.keep 128 i = keep128.lookup i by kernel_rfl).trans (lkK_eq _ _)
@[go_sem] theorem rs128 : Try.f128.results.toList = [.tmp 4] := by kernel_rfl
@[go_sem] theorem vr128 : cx.vrow 128 4 = false := by kernel_rfl
@[go_sem] theorem kp129 (i : Nat) : cx.keep 129 i = lkK i [(0, [1]), (1, [2])] := (show cx.keep 129 i = keep129.lookup i by kernel_rfl).trans (lkK_eq _ _)
@[go_sem] theorem rs129 : Try.f129.results.toList = [.tmp 2] := by kernel_rfl
@[go_sem] theorem cb129 : cx.cbox 129 1 = true := by kernel_rfl
@[go_sem] theorem vr129 : cx.vrow 129 2 = false := by kernel_rfl
@[go_sem] theorem kp130 (i : Nat) : cx.keep 130 i = lkK i [(0, [1, 2, 3, 4, 5, 6]), (1, [1, 2, 3, 4, 5, 6, 19]), (2, [12]), (3, [1, 2, 3, 4, 5, 6, 28]), (4, [12]), (5, [1, 2, 3, 4, 5, 6, 32]), (6, [12]), (7, [1, 2, 3, 4, 5, 6, 13]), (8, [1, 2, 3, 4, 5, 6, 13, 37]), (9, [1, 2, 3, 4, 5, 6, 13]), (10, [1, 2, 3, 4, 5, 6, 13, 14]), (11, [1, 2, 3, 4, 5, 6, 13, 14, 49]), (12, [12]), (13, [1, 2, 3, 4, 5, 6, 66]), (14, [12]), (15, [1, 2, 3, 4, 5, 6, 80]), (16, [12]), (17, [1, 2, 3, 4, 5, 6, 15]), (18, [1, 2, 3, 4, 5, 6, 15, 85]), (19, [1, 2, 3, 4, 5, 6, 15]), (20, [1, 2, 3, 4, 5, 6, 15, 16]), (21, [1, 2, 3, 4, 5, 6, 15, 16, 105]), (22, [12]), (23, [12])] := (show cx.keep 130 i = keep130.lookup i by kernel_rfl).trans (lkK_eq _ _)
@[go_sem] theorem rs130 : Try.f130.results.toList = [.tmp 12] := by kernel_rfl
@[go_sem] theorem sc130_20 : cx.sched 130 20 = [0, 1, 2, 3, 4, 5, 6, 7, 8, 11, 12, 13, 14, 9, 10, 15, 16] := by kernel_rfl
@[go_sem] theorem lt130 (d : Nat) : cx.late 130 d = memN d [] := (show cx.late 130 d = List.contains [] d by kernel_rfl).trans (memN_eq _ _)
@[go_sem] theorem bs130 : cx.bs 130 = false := by kernel_rfl
@[go_sem] theorem cb130 : cx.cbox 130 6 = true := by kernel_rfl
@[go_sem] theorem vr130 : cx.vrow 130 12 = false ∧ cx.vrow 130 13 = false ∧ cx.vrow 130 14 = false ∧ cx.vrow 130 15 = false ∧ cx.vrow 130 16 = false := by
  refine ⟨?_, ?_, ?_, ?_, ?_⟩ <;> kernel_rfl
@[go_sem] theorem kp131 (i : Nat) : cx.keep 131 i = lkK i [(0, [1]), (1, [1, 3]), (2, [1, 3, 4]), (3, [1, 3, 4, 9]), (4, [1, 3, 4]), (5, [1, 3, 4]), (6, [2])] := (show cx.keep 131 i = keep131.lookup i by kernel_rfl).trans (lkK_eq _ _)
@[go_sem] theorem rs131 : Try.f131.results.toList = [.tmp 2] := by kernel_rfl
@[go_sem] theorem cb131 : cx.cbox 131 1 = true := by kernel_rfl
@[go_sem] theorem vr131 : cx.vrow 131 2 = false ∧ cx.vrow 131 3 = false ∧ cx.vrow 131 4 = false := by
  refine ⟨?_, ?_, ?_⟩ <;> kernel_rfl
@[go_sem] theorem kp132 (i : Nat) : cx.keep 132 i = lkK i [(0, [1, 2, 3, 6]), (1, [1, 2, 3, 6, 19]), (2, [6, 7]), (3, [1, 2, 3, 6, 8]), (4, [6, 8, 9]), (5, [6, 8, 9, 33]), (6, [6, 7]), (7, [6, 7])] := (show cx.keep 132 i = keep132.lookup i by kernel_rfl).trans (lkK_eq _ _)
@[go_sem] theorem rs132 : Try.f132.results.toList = [.cell 6 26, .tmp 7] := by kernel_rfl
@[go_sem] theorem sc132_6 : cx.sched 132 6 = [0, 1, 2, 3, 4, 5, 6] := by kernel_rfl
@[go_sem] theorem lt132 (d : Nat) : cx.late 132 d = memN d [] := (show cx.late 132 d = List.contains [] d by kernel_rfl).trans (memN_eq _ _)
@[go_sem] theorem bs132 : cx.bs 132 = false := by kernel_rfl
@[go_sem] theorem bu229 (ps : List (Nat × AV)) : abuild cx.P 229 ps = (fillA (([(0, 1), (1, 1)] : List (Nat × Nat))[·]?) [.im (.i .i64 0), .im (.i .i64 0)] ps).map mkAgg := by kernel_rfl
@[go_sem] theorem cb132 : cx.cbox 132 3 = true ∧ cx.cbox 132 22 = false := by
  refine ⟨?_, ?_⟩ <;> kernel_rfl
@[go_sem] theorem vr132 : cx.vrow 132 6 = false ∧ cx.vrow 132 7 = false ∧ cx.vrow 132 8 = false ∧ cx.vrow 132 9 = false := by
  refine ⟨?_, ?_, ?_, ?_⟩ <;> kernel_rfl
@[go_sem] theorem kp133 (i : Nat) : cx.keep 133 i = lkK i [(0, [0, 1]), (1, [0, 1, 10]), (2, [4]), (3, [0, 1, 12, 13]), (4, [0, 1, 12, 13, 14]), (5, [0, 1, 5, 12, 13]), (6, [0, 1, 12, 13, 24]), (7, [4]), (8, [0, 1, 12, 13]), (9, [4])] := (show cx.keep 133 i = keep133.lookup i by kernel_rfl).trans (lkK_eq _ _)
@[go_sem] theorem rs133 : Try.f133.results.toList = [.tmp 4] := by kernel_rfl
@[go_sem] theorem sc133_6 : cx.sched 133 6 = [0, 1, 2, 3, 4, 5, 6, 7, 8] := by kernel_rfl
@[go_sem] theorem lt133 (d : Nat) : cx.late 133 d = memN d [] := (show cx.late 133 d = List.contains [] d by kernel_rfl).trans (memN_eq _ _)
@[go_sem] theorem bs133 : cx.bs 133 = false := by kernel_rfl
@[go_sem] theorem vr133 : cx.vrow 133 4 = false ∧ cx.vrow 133 5 = false := by
  refine ⟨?_, ?_⟩ <;> kernel_rfl
@[go_sem] theorem kp134 (i : Nat) : cx.keep 134 i = lkK i [(0, [0, 1, 4]), (1, [1, 4, 5]), (2, [4, 5, 9, 10]), (3, [4, 5, 9, 10, 11]), (4, [4, 5, 6, 9, 10]), (5, [4, 5, 9, 10]), (6, [4, 5, 9, 10]), (7, [4])] := (show cx.keep 134 i = keep134.lookup i by kernel_rfl).trans (lkK_eq _ _)
@[go_sem] theorem rs134 : Try.f134.results.toList = [.cell 4 26] := by kernel_rfl
@[go_sem] theorem bu201 (ps : List (Nat × AV)) : abuild cx.P 201 ps = (fillA (([(0, 1), (1, 1)] : List (Nat × Nat))[·]?) [.im (.i .i64 0), .im (.i .i64 0)] ps).map mkAgg := by kernel_rfl
@[go_sem] theorem vr134 : cx.vrow 134 4 = false ∧ cx.vrow 134 5 = false ∧ cx.vrow 134 6 = false ∧ cx.vrow 134 17 = false ∧ cx.vrow 134 19 = false := by
  refine ⟨?_, ?_, ?_, ?_, ?_⟩ <;> kernel_rfl
@[go_sem] theorem kp135 (i : Nat) : cx.keep 135 i = lkK i [(0, [2, 3, 4]), (1, [2, 3, 4, 6, 7]), (2, [2, 3, 4, 6, 7, 8]), (3, [2, 3, 4, 6, 7, 8, 33]), (4, [4, 5]), (5, [2, 3, 4, 7, 9]), (6, [2, 3, 4, 9, 10, 11]), (7, [2, 3, 4, 9, 10, 47]), (8, [4, 5]), (9, [4, 5])] := (show cx.keep 135 i = keep135.lookup i by kernel_rfl).trans (lkK_eq _ _)
@[go_sem] theorem rs135 : Try.f135.results.toList = [.cell 4 166, .tmp 5] := by kernel_rfl
@[go_sem] theorem sc135_3 : cx.sched 135 3 = [0, 1, 2, 3, 4, 5, 6, 7, 8, 9, 10, 11, 12] := by kernel_rfl
@[go_sem] theorem sc135_9 : cx.sched 135 9 = [0, 1, 2, 3, 4, 6, 5, 7, 8, 9] := by kernel_rfl
@[go_sem] theorem lt135 (d : Nat) : cx.late 135 d = memN d [] := (show cx.late 135 d = List.contains [] d by kernel_rfl).trans (memN_eq _ _)
@[go_sem] theorem bs135 : cx.bs 135 = false := by kernel_rfl
@[go_sem] theorem bu166 (ps : List (Nat × AV)) : abuild cx.P 166 ps = (fillA (([(0, 1), (1, 1), (2, 1), (3, 1)] : List (Nat × Nat))[·]?) [.im (.s ByteArray.empty), .im (.sl 1 false true []), .im (.sl 1 false true []), .im (.sl 1 false true [])] ps).map mkAgg := by kernel_rfl
@[go_sem] theorem cb135 : cx.cbox 135 2 = true ∧ cx.cbox 135 3 = true := by
  refine ⟨?_, ?_⟩ <;> kernel_rfl
@[go_sem] theorem vr135 : cx.vrow 135 4 = false ∧ cx.vrow 135 5 = false ∧ cx.vrow 135 7 = false ∧ cx.vrow 135 6 = false ∧ cx.vrow 135 8 = false ∧ cx.vrow 135 9 = false ∧ cx.vrow 135 10 = false ∧ cx.vrow 135 11 = false := by
  refine ⟨?_, ?_, ?_, ?_, ?_, ?_, ?_, ?_⟩ <;> kernel_rfl
@[go_sem] theorem kp136 (i : Nat) : cx.keep 136 i = lkK i [(0, [2, 3]), (1, [2, 3, 19]), (2, [4]), (3, [2, 3, 5]), (4, [2, 3, 5, 24]), (5, [2, 3, 5]), (6, [2, 3, 5, 37]), (7, [4]), (8, [4])] := (show cx.keep 136 i = keep136.lookup i by kernel_rfl).trans (lkK_eq _ _)
@[go_sem] theorem rs136 : Try.f136.results.toList = [.tmp 4] := by kernel_rfl
@[go_sem] theorem sc136_6 : cx.sched 136 6 = [0, 1, 2, 3, 4, 5, 6, 7, 8, 9, 10] := by kernel_rfl
@[go_sem] theorem lt136 (d : Nat) : cx.late 136 d = memN d [] := (show cx.late 136 d = List.contains [] d by kernel_rfl).trans (memN_eq _ _)
@[go_sem] theorem bs136 : cx.bs 136 = false := by kernel_rfl
@[go_sem] theorem cb136 : cx.cbox 136 2 = true ∧ cx.cbox 136 3 = true := by
  refine ⟨?_, ?_⟩ <;> kernel_rfl
@[go_sem] theorem vr136 : cx.vrow 136 4 = false ∧ cx.vrow 136 5 = false := by
  refine ⟨?_, ?_⟩ <;> kernel_rfl
@[go_sem] theorem kp137 (i : Nat) : cx.keep 137 i = lkK i [(0, [1, 3]), (1, [1, 3, 4]), (2, [1, 3, 4, 13]), (3, [1, 3, 4]), (4, [1, 3, 4]), (5, [2, 3])] := (show cx.keep 137 i = keep137.lookup i by kernel_rfl).trans (lkK_eq _ _)
@[go_sem] theorem rs137 : Try.f137.results.toList = [.tmp 2, .cell 3 26] := by kernel_rfl
@[go_sem] theorem sc137_5 : cx.sched 137 5 = [0, 1, 2, 3] := by kernel_rfl
@[go_sem] theorem lt137 (d : Nat) : cx.late 137 d = memN d [] := (show cx.late 137 d = List.contains [] d by kernel_rfl).trans (memN_eq _ _)
@[go_sem] theorem bs137 : cx.bs 137 = false := by kernel_rfl
@[go_sem] theorem cb137 : cx.cbox 137 1 = false := by kernel_rfl
@[go_sem] theorem vr137 : cx.vrow 137 2 = false ∧ cx.vrow 137 3 = false ∧ cx.vrow 137 4 = true ∧ cx.vrow 137 19 = false := by
  refine ⟨?_, ?_, ?_, ?_⟩ <;> kernel_rfl
@[go_sem] theorem kp138 (i : Nat) : cx.keep 138 i = lkK i [(0, [1]), (1, [2])] := (show cx.keep 138 i = keep138.lookup i by kernel_rfl).trans (lkK_eq _ _)
@[go_sem] theorem rs138 : Try.f138.results.toList = [.tmp 2] := by kernel_rfl
@[go_sem] theorem cb138 : cx.cbox 138 1 = true := by kernel_rfl
@[go_sem] theorem vr138 : cx.vrow 138 2 = false := by kernel_rfl
@[go_sem] theorem kp139 (i : Nat) : cx.keep 139 i = lkK i [(0, [2, 3, 4]), (1, [2, 3, 4, 6]), (2, [2, 3, 4, 6, 7, 8]), (3, [2, 3, 4, 6, 7, 8, 9, 10]), (4, [3, 4, 6, 7, 8, 9, 10, 48]), (5, [4, 5]), (6, [4, 6, 8, 9, 10, 11]), (7, [4, 6, 9, 10, 11, 12, 13]), (8, [4, 6, 9, 10, 11, 12, 68]), (9, [4, 5]), (10, [4, 6, 9, 10, 11]), (11, [4, 6, 9, 10, 11, 14]), (12, [4, 6, 9, 10, 11, 14, 76]), (13, [4, 6, 9, 10, 11, 14]), (14, [4, 6, 9, 10, 11, 14, 15, 16]), (15, [4, 6, 9, 10, 11, 14, 15, 17, 18]), (16, [4, 6, 9, 10, 11, 14, 15, 17, 100]), (17, [4, 6, 9, 10, 11, 14]), (18, [4, 5])] := (show cx.keep 139 i = keep139.lookup i by kernel_rfl).trans (lkK_eq _ _)
@[go_sem] theorem rs139 : Try.f139.results.toList = [.cell 4 166, .tmp 5] := by kernel_rfl
@[go_sem] theorem sc139_4 : cx.sched 139 4 = [0, 1, 2, 3, 4, 5, 6, 7, 8, 9, 10, 11, 12] := by kernel_rfl
@[go_sem] theorem sc139_6 : cx.sched 139 6 = [0, 1, 2, 3, 4, 5, 6, 7] := by kernel_rfl
@[go_sem] theorem lt139 (d : Nat) : cx.late 139 d = memN d [] := (show cx.late 139 d = List.contains [] d by kernel_rfl).trans (memN_eq _ _)
@[go_sem] theorem bs139 : cx.bs 139 = false := by kernel_rfl
@[go_sem] theorem bu168 (ps : List (Nat × AV)) : abuild cx.P 168 ps = (fillA (([(0, 1), (1, 1), (2, 1)] : List (Nat × Nat))[·]?) [.im (.i .i64 0), .im (.sl 1 false true []), .im (.sl 1 false true [])] ps).map mkAgg := by kernel_rfl
@[go_sem] theorem cb139 : cx.cbox 139 2 = true ∧ cx.cbox 139 3 = true := by
  refine ⟨?_, ?_⟩ <;> kernel_rfl
@[go_sem] theorem vr139 : cx.vrow 139 4 = false ∧ cx.vrow 139 5 = false ∧ cx.vrow 139 6 = false ∧ cx.vrow 139 8 = false ∧ cx.vrow 139 7 = false ∧ cx.vrow 139 9 = false ∧ cx.vrow 139 10 = false ∧ cx.vrow 139 11 = false ∧ cx.vrow 139 12 = false ∧ cx.vrow 139 13 = false ∧ cx.vrow 139 14 = false ∧ cx.vrow 139 16 = false ∧ cx.vrow 139 15 = false ∧ cx.vrow 139 17 = false ∧ cx.vrow 139 18 = false ∧ cx.vrow 139 107 = false := by
  refine ⟨?_, ?_, ?_, ?_, ?_, ?_, ?_, ?_, ?_, ?_, ?_, ?_, ?_, ?_, ?_, ?_⟩ <;> kernel_rfl
@[go_sem] theorem kp146 (i : Nat) : cx.keep 146 i = lkK i [(0, [1]), (1, [2])] := (show cx.keep 146 i = keep146.lookup i by kernel_rfl).trans (lkK_eq _ _)
@[go_sem] theorem rs146 : Try.f146.results.toList = [.tmp 2] := by kernel_rfl
@[go_sem] theorem cb146 : cx.cbox 146 1 = true := by kernel_rfl
@[go_sem] theorem vr146 : cx.vrow 146 2 = false := by kernel_rfl
@[go_sem] theorem kp147 (i : Nat) : cx.keep 147 i = lkK i [(0, [1]), (1, [1, 3]), (2, [1, 3, 4]), (3, [1, 3, 4, 15]), (4, [1, 3, 4]), (5, [1, 3, 4]), (6, [2])] := (show cx.keep 147 i = keep147.lookup i by kernel_rfl).trans (lkK_eq _ _)
@[go_sem] theorem rs147 : Try.f147.results.toList = [.tmp 2] := by kernel_rfl
@[go_sem] theorem sc147_1 : cx.sched 147 1 = [0, 1, 3, 4, 2, 5, 6] := by kernel_rfl
@[go_sem] theorem sc147_5 : cx.sched 147 5 = [0, 1, 2, 3, 4, 5, 6, 7, 9, 10, 8, 11, 12, 13] := by kernel_rfl
@[go_sem] theorem lt147 (d : Nat) : cx.late 147 d = memN d [3] := (show cx.late 147 d = List.contains [3] d by kernel_rfl).trans (memN_eq _ _)
@[go_sem] theorem bs147 : cx.bs 147 = false := by kernel_rfl
@[go_sem] theorem cb147 : cx.cbox 147 1 = true := by kernel_rfl
@[go_sem] theorem vr147 : cx.vrow 147 2 = false ∧ cx.vrow 147 3 = false ∧ cx.vrow 147 4 = false := by
  refine ⟨?_, ?_, ?_⟩ <;> kernel_rfl
@[go_sem] theorem kp148 (i : Nat) : cx.keep 148 i = lkK i [(0, [0]), (1, [0, 12]), (2, [2]), (3, [0, 3]), (4, [0, 3, 4]), (5, [0, 3, 4, 16]), (6, [0, 3, 4]), (7, [0, 3, 4, 5]), (8, [0, 3, 4, 5, 22]), (9, [0, 4, 25]), (10, [2]), (11, [0, 3, 4]), (12, [0, 3, 4, 5, 27]), (13, [0, 3, 4]), (14, [0, 3, 4, 42]), (15, [2]), (16, [2])] := (show cx.keep 148 i = keep148.lookup i by kernel_rfl).trans (lkK_eq _ _)
@[go_sem] theorem rs148 : Try.f148.results.toList = [.tmp 2] := by kernel_rfl
@[go_sem] theorem vr148 : cx.vrow 148 2 = false ∧ cx.vrow 148 3 = false ∧ cx.vrow 148 4 = false ∧ cx.vrow 148 5 = false := by
  refine ⟨?_, ?_, ?_, ?_⟩ <;> kernel_rfl
@[go_sem] theorem kp149 (i : Nat) : cx.keep 149 i = lkK i [(0, [2, 3, 4, 5]), (1, [4, 5, 9]), (2, [4, 5, 9, 15]), (3, [8]), (4, [8])] := (show cx.keep 149 i = keep149.lookup i by kernel_rfl).trans (lkK_eq _ _)
@[go_sem] theorem rs149 : Try.f149.results.toList = [.tmp 8] := by kernel_rfl
@[go_sem] theorem cb149 : cx.cbox 149 4 = true ∧ cx.cbox 149 5 = true := by
  refine ⟨?_, ?_⟩ <;> kernel_rfl
@[go_sem] theorem vr149 : cx.vrow 149 8 = false ∧ cx.vrow 149 9 = false := by
  refine ⟨?_, ?_⟩ <;> kernel_rfl
@[go_sem] theorem kp150 (i : Nat) : cx.keep 150 i = lkK i [(0, [2, 3, 4, 5]), (1, [2, 3, 4, 5, 15]), (2, [8]), (3, [2, 3, 4, 5, 17]), (4, [8]), (5, [2, 3, 4, 5, 17, 18]), (6, [2, 4, 5, 28]), (7, [8]), (8, [8]), (9, [2, 3, 4, 5, 37]), (10, [2, 3, 4, 5, 42]), (11, [8]), (12, [2, 3, 4, 5, 51]), (13, [8]), (14, [2, 3, 4, 5, 55]), (15, [8]), (16, [2, 3, 4, 5, 9]), (17, [2, 3, 4, 5, 9, 60]), (18, [2, 3, 4, 5, 9]), (19, [2, 3, 4, 5, 9, 10]), (20, [2, 3, 4, 5, 9, 10, 11, 12]), (21, [2, 3, 4, 5, 9, 10, 11, 82]), (22, [8]), (23, [2, 3, 4, 5, 9, 10, 11, 84]), (24, [2, 3, 4, 5, 9, 89]), (25, [8]), (26, [2, 3, 4, 5, 9, 13]), (27, [2, 3, 4, 5, 9, 13, 108]), (28, [8]), (29, [8])] := (show cx.keep 150 i = keep150.lookup i by kernel_rfl).trans (lkK_eq _ _)
@[go_sem] theorem rs150 : Try.f150.results.toList = [.tmp 8] := by kernel_rfl
@[go_sem] theorem sc150_26 : cx.sched 150 26 = [0, 1, 2, 3, 4, 5, 6, 7, 8, 9, 10, 11, 14, 15, 12, 13, 16, 17] := by kernel_rfl
@[go_sem] theorem lt150 (d : Nat) : cx.late 150 d = memN d [] := (show cx.late 150 d = List.contains [] d by kernel_rfl).trans (memN_eq _ _)
@[go_sem] theorem bs150 : cx.bs 150 = false := by kernel_rfl
@[go_sem] theorem bu124 (ps : List (Nat × AV)) : abuild cx.P 124 ps = (fillA (([(0, 1), (1, 5), (6, 1), (7, 1)] : List (Nat × Nat))[·]?) [.im (.i .i64 0), .im (.i .i64 0), .im (.i .i64 0), .im (.s ByteArray.empty), .im (.sl 1 false true []), .im (.sl 1 false true []), .im (.i .i64 0), .im (.sl 1 false true [])] ps).map mkAgg := by kernel_rfl
@[go_sem] theorem cb150 : cx.cbox 150 4 = true ∧ cx.cbox 150 5 = true := by
  refine ⟨?_, ?_⟩ <;> kernel_rfl
@[go_sem] theorem vr150 : cx.vrow 150 8 = false ∧ cx.vrow 150 18 = false ∧ cx.vrow 150 37 = false ∧ cx.vrow 150 9 = false ∧ cx.vrow 150 10 = false ∧ cx.vrow 150 11 = false ∧ cx.vrow 150 12 = false ∧ cx.vrow 150 13 = false := by
  refine ⟨?_, ?_, ?_, ?_, ?_, ?_, ?_, ?_⟩ <;> kernel_rfl
@[go_sem] theorem kp155 (i : Nat) : cx.keep 155 i = lkK i [(0, [0, 1]), (1, [0, 1, 7, 8]), (2, [0, 1, 7, 8, 9]), (3, [0, 1, 5, 7, 8]), (4, [0, 1, 5, 7, 8, 16]), (5, [4]), (6, [0, 1, 7, 8]), (7, [4])] := (show cx.keep 155 i = keep155.lookup i by kernel_rfl).trans (lkK_eq _ _)
@[go_sem] theorem rs155 : Try.f155.results.toList = [.tmp 4] := by kernel_rfl
@[go_sem] theorem vr155 : cx.vrow 155 4 = false ∧ cx.vrow 155 5 = false := by
  refine ⟨?_, ?_⟩ <;> kernel_rfl
@[go_sem] theorem kp156 (i : Nat) : cx.keep 156 i = lkK i [(0, [1]), (1, [1, 19]), (2, [2]), (3, [1, 32]), (4, [2]), (5, [1, 40]), (6, [2]), (7, [1, 43]), (8, [2]), (9, [2])] := (show cx.keep 156 i = keep156.lookup i by kernel_rfl).trans (lkK_eq _ _)
@[go_sem] theorem rs156 : Try.f156.results.toList = [.tmp 2] := by kernel_rfl
@[go_sem] theorem sc156_1 : cx.sched 156 1 = [0, 1, 2, 3, 4, 5, 6, 7, 8, 9, 10, 11, 12, 13, 14, 15, 16] := by kernel_rfl
@[go_sem] theorem lt156 (d : Nat) : cx.late 156 d = memN d [] := (show cx.late 156 d = List.contains [] d by kernel_rfl).trans (memN_eq _ _)
@[go_sem] theorem bs156 : cx.bs 156 = false := by kernel_rfl
@[go_sem] theorem cb156 : cx.cbox 156 1 = true := by kernel_rfl
@[go_sem] theorem vr156 : cx.vrow 156 2 = false := by kernel_rfl
@[go_sem] theorem kp157 (i : Nat) : cx.keep 157 i = lkK i [(0, [1, 2, 3]), (1, [1, 2, 3, 11]), (2, [6]), (3, [1, 2, 3, 7]), (4, [1, 2, 3, 7, 16]), (5, [1, 2, 3, 7]), (6, [1, 2, 3, 7, 35]), (7, [6]), (8, [2, 3, 8]), (9, [2, 3, 8, 40]), (10, [2, 3, 8]), (11, [2, 3, 8, 60]), (12, [6]), (13, [6])] := (show cx.keep 157 i = keep157.lookup i by kernel_rfl).trans (lkK_eq _ _)
@[go_sem] theorem rs157 : Try.f157.results.toList = [.tmp 6] := by kernel_rfl
@[go_sem] theorem cb157 : cx.cbox 157 3 = true := by kernel_rfl
@[go_sem] theorem vr157 : cx.vrow 157 6 = false ∧ cx.vrow 157 7 = false ∧ cx.vrow 157 8 = false := by
  refine ⟨?_, ?_, ?_⟩ <;> kernel_rfl
@[go_sem] theorem kp158 (i : Nat) : cx.keep 158 i = lkK i [(0, [0, 1]), (1, [26]), (2, [4]), (3, [4])] := (show cx.keep 158 i = keep158.lookup i by kernel_rfl).trans (lkK_eq _ _)
@[go_sem] theorem rs158 : Try.f158.results.toList = [.tmp 4] := by kernel_rfl
@[go_sem] theorem vr158 : cx.vrow 158 4 = false := by kernel_rfl
@[go_sem] theorem kp159 (i : Nat) : cx.keep 159 i = lkK i [(0, [0, 2, 3, 4, 6, 10]), (1, [0, 2, 3, 4, 6, 10, 15]), (2, [0, 2, 3, 4, 6, 10, 21]), (3, [10]), (4, [0, 2, 6, 10, 30]), (5, [6, 10]), (6, [10]), (7, [10]), (8, [0, 2, 3, 4, 6, 10, 11]), (9, [0, 2, 3, 4, 6, 10, 11, 12]), (10, [0, 2, 3, 4, 6, 10, 11, 12, 44]), (11, [0, 2, 3, 4, 6, 10, 11, 12]), (12, [0, 2, 3, 4, 6, 10, 11, 12]), (13, [6, 10]), (14, [10])] := (show cx.keep 159 i = keep159.lookup i by kernel_rfl).trans (lkK_eq _ _)
@[go_sem] theorem rs159 : Try.f159.results.toList = [.cell 10 26] := by kernel_rfl
@[go_sem] theorem sc159_12 : cx.sched 159 12 = [0, 1, 2, 3, 4, 5, 6, 7, 8, 9, 10, 11, 12, 13, 14, 15, 16, 17, 18] := by kernel_rfl
@[go_sem] theorem lt159 (d : Nat) : cx.late 159 d = memN d [11] := (show cx.late 159 d = List.contains [11] d by kernel_rfl).trans (memN_eq _ _)
@[go_sem] theorem bs159 : cx.bs 159 = false := by kernel_rfl
@[go_sem] theorem cb159 : cx.cbox 159 6 = false := by kernel_rfl
@[go_sem] theorem vr159 : cx.vrow 159 10 = false ∧ cx.vrow 159 11 = true ∧ cx.vrow 159 12 = false ∧ cx.vrow 159 63 = false := by
  refine ⟨?_, ?_, ?_, ?_⟩ <;> kernel_rfl
@[go_sem] theorem kp160 (i : Nat) : cx.keep 160 i = lkK i [(0, [0, 1, 2]), (1, [6])] := (show cx.keep 160 i = keep160.lookup i by kernel_rfl).trans (lkK_eq _ _)
@[go_sem] theorem rs160 : Try.f160.results.toList = [.tmp 6] := by kernel_rfl
@[go_sem] theorem vr160 : cx.vrow 160 6 = false := by kernel_rfl
@[go_sem] theorem kp161 (i : Nat) : cx.keep 161 i = lkK i [(0, [2, 3, 4]), (1, [2, 3, 8, 9]), (2, [2, 3, 8, 9, 10]), (3, [9, 10, 42]), (4, [6, 7]), (5, [6, 7])] := (show cx.keep 161 i = keep161.lookup i by kernel_rfl).trans (lkK_eq _ _)
@[go_sem] theorem rs161 : Try.f161.results.toList = [.tmp 6, .tmp 7] := by kernel_rfl
@[go_sem] theorem sc161_3 : cx.sched 161 3 = [0, 1, 2, 3, 4, 5, 6, 7, 8, 9, 10, 11, 12, 13, 14, 15, 16, 17, 18, 19, 20, 21, 22, 23] := by kernel_rfl
@[go_sem] theorem lt161 (d : Nat) : cx.late 161 d = memN d [] := (show cx.late 161 d = List.contains [] d by kernel_rfl).trans (memN_eq _ _)
@[go_sem] theorem bs161 : cx.bs 161 = false := by kernel_rfl
@[go_sem] theorem cb161 : cx.cbox 161 3 = true ∧ cx.cbox 161 4 = true := by
  refine ⟨?_, ?_⟩ <;> kernel_rfl
@[go_sem] theorem vr161 : cx.vrow 161 6 = false ∧ cx.vrow 161 7 = false ∧ cx.vrow 161 8 = false ∧ cx.vrow 161 9 = false ∧ cx.vrow 161 10 = false := by
  refine ⟨?_, ?_, ?_, ?_, ?_⟩ <;> kernel_rfl
@[go_sem] theorem kp162 (i : Nat) : cx.keep 162 i = lkK i [(0, [1, 2]), (1, [1, 2, 5]), (2, [2, 5, 12, 13, 14]), (3, [2, 5, 12, 13, 14, 15]), (4, [2, 5, 6, 7, 12, 13, 14]), (5, [2, 5, 6, 8, 9, 12, 13, 14]), (6, [2, 5, 6, 8, 10, 11, 12, 13, 14]), (7, [2, 5, 6, 8, 10, 12, 13, 14, 35]), (8, [2, 5, 12, 13, 14]), (9, [2, 5, 12, 13, 14]), (10, [4])] := (show cx.keep 162 i = keep162.lookup i by kernel_rfl).trans (lkK_eq _ _)
@[go_sem] theorem rs162 : Try.f162.results.toList = [.tmp 4] := by kernel_rfl
@[go_sem] theorem cb162 : cx.cbox 162 2 = true := by kernel_rfl
@[go_sem] theorem vr162 : cx.vrow 162 4 = false ∧ cx.vrow 162 5 = true ∧ cx.vrow 162 7 = false ∧ cx.vrow 162 6 = false ∧ cx.vrow 162 9 = false ∧ cx.vrow 162 8 = false ∧ cx.vrow 162 10 = false ∧ cx.vrow 162 11 = false ∧ cx.vrow 162 41 = false := by
  refine ⟨?_, ?_, ?_, ?_, ?_, ?_, ?_, ?_, ?_⟩ <;> kernel_rfl
@[go_sem] theorem kp163 (i : Nat) : cx.keep 163 i = lkK i [(0, [0, 1, 4]), (1, [4])] := (show cx.keep 163 i = keep163.lookup i by kernel_rfl).trans (lkK_eq _ _)
@[go_sem] theorem rs163 : Try.f163.results.toList = [.cell 4 26] := by kernel_rfl
@[go_sem] theorem vr163 : cx.vrow 163 4 = false := by kernel_rfl
@[go_sem] theorem kp164 (i : Nat) : cx.keep 164 i = lkK i [(0, [2, 3, 4, 5, 6]), (1, [2, 3, 4, 5, 12, 13]), (2, [2, 13, 40]), (3, [10, 11]), (4, [10, 11])] := (show cx.keep 164 i = keep164.lookup i by kernel_rfl).trans (lkK_eq _ _)
@[go_sem] theorem rs164 : Try.f164.results.toList = [.tmp 10, .tmp 11] := by kernel_rfl
@[go_sem] theorem sc164_2 : cx.sched 164 2 = [0, 1, 2, 3, 4, 5, 6, 7, 8, 9, 10, 11, 12, 13, 14, 15, 16, 17, 18, 19, 20, 21] := by kernel_rfl
@[go_sem] theorem lt164 (d : Nat) : cx.late 164 d = memN d [] := (show cx.late 164 d = List.contains [] d by kernel_rfl).trans (memN_eq _ _)
@[go_sem] theorem bs164 : cx.bs 164 = false := by kernel_rfl
@[go_sem] theorem cb164 : cx.cbox 164 5 = true ∧ cx.cbox 164 6 = true := by
  refine ⟨?_, ?_⟩ <;> kernel_rfl
@[go_sem] theorem vr164 : cx.vrow 164 10 = false ∧ cx.vrow 164 11 = false ∧ cx.vrow 164 12 = false ∧ cx.vrow 164 13 = false := by
  refine ⟨?_, ?_, ?_, ?_⟩ <;> kernel_rfl
@[go_sem] theorem kp171 (i : Nat) : cx.keep 171 i = lkK i [(0, [1]), (1, [1, 3]), (2, [1, 3, 12]), (3, [1, 3]), (4, [1, 3]), (5, [2])] := (show cx.keep 171 i = keep171.lookup i by kernel_rfl).trans (lkK_eq _ _)
@[go_sem] theorem rs171 : Try.f171.results.toList = [.tmp 2] := by kernel_rfl
@[go_sem] theorem cb171 : cx.cbox 171 1 = false := by kernel_rfl
@[go_sem] theorem vr171 : cx.vrow 171 2 = false ∧ cx.vrow 171 3 = false := by
  refine ⟨?_, ?_⟩ <;> kernel_rfl
@[go_sem] theorem kp172 (i : Nat) : cx.keep 172 i = lkK i [(0, [0]), (1, [2])] := (show cx.keep 172 i = keep172.lookup i by kernel_rfl).trans (lkK_eq _ _)
@[go_sem] theorem rs172 : Try.f172.results.toList = [.tmp 2] := by kernel_rfl
@[go_sem] theorem vr172 : cx.vrow 172 2 = false := by kernel_rfl
@[go_sem] theorem kp173 (i : Nat) : cx.keep 173 i = lkK i [(0, [2, 3]), (1, [2, 3, 11]), (2, [2, 3, 5, 6]), (3, [2, 3, 5, 21]), (4, [2, 3, 5, 27]), (5, [4]), (6, [2, 3, 5]), (7, [2, 3, 41]), (8, [4]), (9, [2, 3, 7]), (10, [2, 3, 7, 46]), (11, [2, 3, 7]), (12, [2, 3, 7, 8]), (13, [2, 3, 7, 8, 57]), (14, [4]), (15, [4])] := (show cx.keep 173 i = keep173.lookup i by kernel_rfl).trans (lkK_eq _ _)
@[go_sem] theorem rs173 : Try.f173.results.toList = [.tmp 4] := by kernel_rfl
@[go_sem] theorem sc173_12 : cx.sched 173 12 = [0, 1, 2, 3, 4, 5, 6, 7] := by kernel_rfl
@[go_sem] theorem lt173 (d : Nat) : cx.late 173 d = memN d [] := (show cx.late 173 d = List.contains [] d by kernel_rfl).trans (memN_eq _ _)
@[go_sem] theorem bs173 : cx.bs 173 = false := by kernel_rfl
@[go_sem] theorem cb173 : cx.cbox 173 2 = true ∧ cx.cbox 173 3 = true := by
  refine ⟨?_, ?_⟩ <;> kernel_rfl
@[go_sem] theorem vr173 : cx.vrow 173 4 = false ∧ cx.vrow 173 5 = false ∧ cx.vrow 173 6 = false ∧ cx.vrow 173 7 = false ∧ cx.vrow 173 8 = false := by
  refine ⟨?_, ?_, ?_, ?_, ?_⟩ <;> kernel_rfl
@[go_sem] theorem kp188 (i : Nat) : cx.keep 188 i = lkK i [(0, [0]), (1, [3]), (2, [3, 4]), (3, [3, 4]), (4, [3, 4]), (5, [3, 4]), (6, [2]), (7, [3, 9]), (8, [3, 9]), (9, [2]), (10, [3, 12]), (11, [12]), (12, [2]), (13, [2])] := (show cx.keep 188 i = keep188.lookup i by kernel_rfl).trans (lkK_eq _ _)
@[go_sem] theorem rs188 : Try.f188.results.toList = [.tmp 2] := by kernel_rfl
@[go_sem] theorem vr188 : cx.vrow 188 2 = false ∧ cx.vrow 188 4 = false ∧ cx.vrow 188 9 = false ∧ cx.vrow 188 12 = false := by
  refine ⟨?_, ?_, ?_, ?_⟩ <;> kernel_rfl
@[go_sem] theorem kp189 (i : Nat) : cx.keep 189 i = lkK i [(0, [1]), (1, [1, 12]), (2, [2]), (3, [1, 3]), (4, [1, 3, 17]), (5, [1, 3]), (6, [1, 3, 4]), (7, [1, 3, 4, 42]), (8, [2]), (9, [1, 3, 4, 56]), (10, [2]), (11, [1, 3, 66]), (12, [2]), (13, [2])] := (show cx.keep 189 i = keep189.lookup i by kernel_rfl).trans (lkK_eq _ _)
@[go_sem] theorem rs189 : Try.f189.results.toList = [.tmp 2] := by kernel_rfl
@[go_sem] theorem sc189_9 : cx.sched 189 9 = [0, 1, 2, 3, 4, 5, 6, 7, 8, 9, 10, 11, 12, 13] := by kernel_rfl
@[go_sem] theorem lt189 (d : Nat) : cx.late 189 d = memN d [] := (show cx.late 189 d = List.contains [] d by kernel_rfl).trans (memN_eq _ _)
@[go_sem] theorem bs189 : cx.bs 189 = false := by kernel_rfl
@[go_sem] theorem cb189 : cx.cbox 189 1 = true := by kernel_rfl
@[go_sem] theorem vr189 : cx.vrow 189 2 = false ∧ cx.vrow 189 3 = false ∧ cx.vrow 189 4 = false := by
  refine ⟨?_, ?_, ?_⟩ <;> kernel_rfl
@[go_sem] theorem kp190 (i : Nat) : cx.keep 190 i = lkK i [(0, [0, 1, 8]), (1, [])] := (show cx.keep 190 i = keep190.lookup i by kernel_rfl).trans (lkK_eq _ _)
@[go_sem] theorem rs190 : Try.f190.results.toList = [] := by kernel_rfl
@[go_sem] theorem kp191 (i : Nat) : cx.keep 191 i = lkK i [(0, [0, 1, 4]), (1, [0, 1, 4, 6]), (2, [1, 4]), (3, [4])] := (show cx.keep 191 i = keep191.lookup i by kernel_rfl).trans (lkK_eq _ _)
@[go_sem] theorem rs191 : Try.f191.results.toList = [.cell 4 26] := by kernel_rfl
@[go_sem] theorem vr191 : cx.vrow 191 4 = false := by kernel_rfl
@[go_sem] theorem kp192 (i : Nat) : cx.keep 192 i = lkK i [(0, [0, 1]), (1, [0, 1, 16]), (2, [4]), (3, [0, 1, 5]), (4, [0, 1, 5, 20, 21]), (5, [0, 1, 5, 20, 21, 22]), (6, [0, 1, 5, 6, 20, 21]), (7, [0, 1, 5, 20, 21]), (8, [0, 1, 5, 20, 21]), (9, [4])] := (show cx.keep 192 i = keep192.lookup i by kernel_rfl).trans (lkK_eq _ _)
@[go_sem] theorem rs192 : Try.f192.results.toList = [.tmp 4] := by kernel_rfl
@[go_sem] theorem vr192 : cx.vrow 192 4 = false ∧ cx.vrow 192 5 = false ∧ cx.vrow 192 6 = false := by
  refine ⟨?_, ?_, ?_⟩ <;> kernel_rfl
@[go_sem] theorem kp193 (i : Nat) : cx.keep 193 i = lkK i [(0, [0]), (1, [0, 3]), (2, [0, 3, 4]), (3, [0, 3, 4, 9]), (4, [0, 3, 4]), (5, [0, 3, 4, 5]), (6, [0, 3, 4]), (7, [2])] := (show cx.keep 193 i = keep193.lookup i by kernel_rfl).trans (lkK_eq _ _)
@[go_sem] theorem rs193 : Try.f193.results.toList = [.tmp 2] := by kernel_rfl
@[go_sem] theorem vr193 : cx.vrow 193 2 = false ∧ cx.vrow 193 3 = true ∧ cx.vrow 193 4 = false ∧ cx.vrow 193 5 = false ∧ cx.vrow 193 6 = false ∧ cx.vrow 193 19 = false := by
  refine ⟨?_, ?_, ?_, ?_, ?_, ?_⟩ <;> kernel_rfl
@[go_sem] theorem kp194 (i : Nat) : cx.keep 194 i = lkK i [(0, [0, 1]), (1, [0, 1, 16]), (2, [4]), (3, [0, 1, 5]), (4, [1, 5, 6]), (5, [1, 5, 6, 20]), (6, [1, 5, 6]), (7, [1, 5, 6]), (8, [4])] := (show cx.keep 194 i = keep194.lookup i by kernel_rfl).trans (lkK_eq _ _)
@[go_sem] theorem rs194 : Try.f194.results.toList = [.tmp 4] := by kernel_rfl
@[go_sem] theorem vr194 : cx.vrow 194 4 = false ∧ cx.vrow 194 5 = true ∧ cx.vrow 194 6 = false ∧ cx.vrow 194 28 = false := by
  refine ⟨?_, ?_, ?_, ?_⟩ <;> kernel_rfl
@[go_sem] theorem kp208 (i : Nat) : cx.keep 208 i = lkK i [(0, [0, 1, 4]), (1, [0, 1, 4, 15]), (2, [4, 5]), (3, [0, 1, 4, 18]), (4, [4, 5]), (5, [4, 5])] := (show cx.keep 208 i = keep208.lookup i by kernel_rfl).trans (lkK_eq _ _)
@[go_sem] theorem rs208 : Try.f208.results.toList = [.cell 4 151, .tmp 5] := by kernel_rfl
@[go_sem] theorem vr208 : cx.vrow 208 4 = false ∧ cx.vrow 208 5 = false ∧ cx.vrow 208 23 = false := by
  refine ⟨?_, ?_, ?_⟩ <;> kernel_rfl
end Go.Proofs.Ytnbbhbbhgcipjaa.Am
