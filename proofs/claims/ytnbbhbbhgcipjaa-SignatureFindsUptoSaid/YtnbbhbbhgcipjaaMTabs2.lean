/-
  Further facts on the types and the hints of this program; printed by wip/am/Tabs.lean.
-/
import Derived.Test.YtnbbhbbhgcipjaaMTabs
set_option linter.unusedVariables false
set_option linter.unnecessarySimpa false
set_option linter.unusedSimpArgs false
set_option linter.unusedSectionVars false
namespace Go.Proofs.Ytnbbhbbhgcipjaa.Am
@[go_sem] theorem ty1 : szOf cx.P 1 = some 1 ∧ isAg cx.P 1 = some false ∧ zeroImm cx.P 1 = some (.nilf) ∧ byOf cx.P 1 = some 8 := by
  refine ⟨?_, ?_, ?_, ?_⟩ <;> kernel_rfl
@[go_sem] theorem ty20 : szOf cx.P 20 = some 1 ∧ isAg cx.P 20 = some false ∧ zeroImm cx.P 20 = some (.nili) ∧ byOf cx.P 20 = some 16 := by
  refine ⟨?_, ?_, ?_, ?_⟩ <;> kernel_rfl
@[go_sem] theorem ty39 : szOf cx.P 39 = some 1 ∧ isAg cx.P 39 = some false ∧ byOf cx.P 39 = some 0 := by
  refine ⟨?_, ?_, ?_⟩ <;> kernel_rfl
@[go_sem] theorem ty109 : szOf cx.P 109 = some 1 ∧ isAg cx.P 109 = some false ∧ cx.P.underlying 109 = some (.pointer 112) ∧ zeroImm cx.P 109 = some (.nilp) ∧ byOf cx.P 109 = some 8 := by
  refine ⟨?_, ?_, ?_, ?_, ?_⟩ <;> kernel_rfl
@[go_sem] theorem ty110 : szOf cx.P 110 = some 1 ∧ isAg cx.P 110 = some false ∧ cx.P.underlying 110 = some (.map 9 44) ∧ zeroImm cx.P 110 = some (.nilm) ∧ byOf cx.P 110 = some 8 := by
  refine ⟨?_, ?_, ?_, ?_, ?_⟩ <;> kernel_rfl
@[go_sem] theorem ty112 : szOf cx.P 112 = some 2 ∧ isAg cx.P 112 = some true ∧ fldOf cx.P 112 0 = some (0, 22) ∧ fldOf cx.P 112 1 = some (1, 110) ∧ zeroImm cx.P 112 = some (.agg [.sl 1 false true [], .nilm]) ∧ byOf cx.P 112 = some 32 := by
  refine ⟨?_, ?_, ?_, ?_, ?_, ?_⟩ <;> kernel_rfl
@[go_sem] theorem ty175 : szOf cx.P 175 = some 1 ∧ isAg cx.P 175 = some true ∧ fldOf cx.P 175 0 = some (0, 38) ∧ zeroImm cx.P 175 = some (.agg [.i .i64 0]) ∧ byOf cx.P 175 = some 8 := by
  refine ⟨?_, ?_, ?_, ?_, ?_⟩ <;> kernel_rfl
@[go_sem] theorem ty176 : szOf cx.P 176 = some 1 ∧ isAg cx.P 176 = some false ∧ byOf cx.P 176 = some 0 := by
  refine ⟨?_, ?_, ?_⟩ <;> kernel_rfl
@[go_sem] theorem ty209 : szOf cx.P 209 = some 1 ∧ isAg cx.P 209 = some false ∧ cx.P.underlying 209 = some (.map 9 4) ∧ zeroImm cx.P 209 = some (.nilm) ∧ byOf cx.P 209 = some 8 := by
  refine ⟨?_, ?_, ?_, ?_, ?_⟩ <;> kernel_rfl
@[go_sem] theorem ty210 : szOf cx.P 210 = some 1 ∧ isAg cx.P 210 = some false ∧ byOf cx.P 210 = some 0 := by
  refine ⟨?_, ?_, ?_⟩ <;> kernel_rfl
@[go_sem] theorem ty212 : szOf cx.P 212 = some 1 ∧ isAg cx.P 212 = some false ∧ zeroImm cx.P 212 = some (.nilf) ∧ byOf cx.P 212 = some 8 := by
  refine ⟨?_, ?_, ?_, ?_⟩ <;> kernel_rfl
@[go_sem] theorem ty237 : szOf cx.P 237 = some 4 ∧ isAg cx.P 237 = some true ∧ fldOf cx.P 237 0 = some (0, 3) ∧ fldOf cx.P 237 1 = some (1, 3) ∧ fldOf cx.P 237 2 = some (2, 3) ∧ fldOf cx.P 237 3 = some (3, 3) ∧ zeroImm cx.P 237 = some (.agg [.i .i64 0, .i .i64 0, .i .i64 0, .i .i64 0]) ∧ byOf cx.P 237 = some 32 := by
  refine ⟨?_, ?_, ?_, ?_, ?_, ?_, ?_, ?_⟩ <;> kernel_rfl
@[go_sem] theorem ty238 : szOf cx.P 238 = some 1 ∧ isAg cx.P 238 = some false ∧ zeroImm cx.P 238 = some (.nilf) ∧ byOf cx.P 238 = some 8 := by
  refine ⟨?_, ?_, ?_, ?_⟩ <;> kernel_rfl
@[go_sem] theorem ty239 : szOf cx.P 239 = some 1 ∧ isAg cx.P 239 = some false ∧ zeroImm cx.P 239 = some (.nilf) ∧ byOf cx.P 239 = some 8 := by
  refine ⟨?_, ?_, ?_, ?_⟩ <;> kernel_rfl
@[go_sem] theorem ty260 : szOf cx.P 260 = some 1 ∧ isAg cx.P 260 = some false ∧ zeroImm cx.P 260 = some (.nilf) ∧ byOf cx.P 260 = some 8 := by
  refine ⟨?_, ?_, ?_, ?_⟩ <;> kernel_rfl
@[go_sem] theorem ty262 : szOf cx.P 262 = some 5 ∧ isAg cx.P 262 = some true ∧ fldOf cx.P 262 0 = some (0, 4) ∧ fldOf cx.P 262 1 = some (1, 4) ∧ fldOf cx.P 262 2 = some (2, 3) ∧ fldOf cx.P 262 3 = some (3, 3) ∧ fldOf cx.P 262 4 = some (4, 3) ∧ zeroImm cx.P 262 = some (.agg [.b false, .b false, .i .i64 0, .i .i64 0, .i .i64 0]) ∧ byOf cx.P 262 = some 32 := by
  refine ⟨?_, ?_, ?_, ?_, ?_, ?_, ?_, ?_, ?_⟩ <;> kernel_rfl
@[go_sem] theorem ty263 : szOf cx.P 263 = some 65 ∧ isAg cx.P 263 = some true ∧ cx.P.underlying 263 = some (.array 13 262) ∧ zeroImm cx.P 263 = some (.agg [.b false, .b false, .i .i64 0, .i .i64 0, .i .i64 0, .b false, .b false, .i .i64 0, .i .i64 0, .i .i64 0, .b false, .b false, .i .i64 0, .i .i64 0, .i .i64 0, .b false, .b false, .i .i64 0, .i .i64 0, .i .i64 0, .b false, .b false, .i .i64 0, .i .i64 0, .i .i64 0, .b false, .b false, .i .i64 0, .i .i64 0, .i .i64 0, .b false, .b false, .i .i64 0, .i .i64 0, .i .i64 0, .b false, .b false, .i .i64 0, .i .i64 0, .i .i64 0, .b false, .b false, .i .i64 0, .i .i64 0, .i .i64 0, .b false, .b false, .i .i64 0, .i .i64 0, .i .i64 0, .b false, .b false, .i .i64 0, .i .i64 0, .i .i64 0, .b false, .b false, .i .i64 0, .i .i64 0, .i .i64 0, .b false, .b false, .i .i64 0, .i .i64 0, .i .i64 0]) ∧ byOf cx.P 263 = some 416 := by
  refine ⟨?_, ?_, ?_, ?_, ?_⟩ <;> kernel_rfl
@[go_sem] theorem ty265 : szOf cx.P 265 = some 1 ∧ isAg cx.P 265 = some false ∧ zeroImm cx.P 265 = some (.nilf) ∧ byOf cx.P 265 = some 8 := by
  refine ⟨?_, ?_, ?_, ?_⟩ <;> kernel_rfl
@[go_sem] theorem ty278 : szOf cx.P 278 = some 1 ∧ isAg cx.P 278 = some false ∧ zeroImm cx.P 278 = some (.nilf) ∧ byOf cx.P 278 = some 8 := by
  refine ⟨?_, ?_, ?_, ?_⟩ <;> kernel_rfl
@[go_sem] theorem kp6 (i : Nat) : cx.keep 6 i = lkK i [(0, [0]), (1, [0, 9]), (2, [2]), (3, [0, 3, 4]), (4, [3, 4, 5, 6]), (5, [2])] := (show cx.keep 6 i = keep6.lookup i by kernel_rfl).trans (lkK_eq _ _)
@[go_sem] theorem rs6 : Try.f6.results.toList = [.tmp 2] := by kernel_rfl
@[go_sem] theorem vr6 : cx.vrow 6 2 = false ∧ cx.vrow 6 3 = false ∧ cx.vrow 6 4 = false ∧ cx.vrow 6 5 = false ∧ cx.vrow 6 6 = false := by
  refine ⟨?_, ?_, ?_, ?_, ?_⟩ <;> kernel_rfl
@[go_sem] theorem kp7 (i : Nat) : cx.keep 7 i = lkK i [(0, [0, 1]), (1, [0, 1, 22]), (2, [4]), (3, [0, 1, 5, 6]), (4, [0, 1, 5, 6, 7, 8]), (5, [0, 1, 5, 6, 7, 8, 9, 10, 11]), (6, [5, 6, 7, 8, 9, 10, 11, 12, 13, 14]), (7, [4])] := (show cx.keep 7 i = keep7.lookup i by kernel_rfl).trans (lkK_eq _ _)
@[go_sem] theorem rs7 : Try.f7.results.toList = [.tmp 4] := by kernel_rfl
@[go_sem] theorem vr7 : cx.vrow 7 4 = false ∧ cx.vrow 7 5 = false ∧ cx.vrow 7 6 = false ∧ cx.vrow 7 7 = false ∧ cx.vrow 7 8 = false ∧ cx.vrow 7 9 = false ∧ cx.vrow 7 10 = false ∧ cx.vrow 7 11 = false ∧ cx.vrow 7 12 = false ∧ cx.vrow 7 13 = false ∧ cx.vrow 7 14 = false := by
  refine ⟨?_, ?_, ?_, ?_, ?_, ?_, ?_, ?_, ?_, ?_, ?_⟩ <;> kernel_rfl
@[go_sem] theorem kp19 (i : Nat) : cx.keep 19 i = lkK i [(0, []), (1, [1]), (2, [1, 2]), (3, [1, 2, 4]), (4, [1, 2, 4, 5, 6]), (5, [1, 2, 4, 5, 6, 7, 8]), (6, [2, 4, 5, 6, 7, 8, 10, 11]), (7, [0])] := (show cx.keep 19 i = keep19.lookup i by kernel_rfl).trans (lkK_eq _ _)
@[go_sem] theorem rs19 : Try.f19.results.toList = [.tmp 0] := by kernel_rfl
@[go_sem] theorem sc19_7 : cx.sched 19 7 = [0, 1, 2, 3, 4, 5, 6, 7, 8, 9, 10, 11, 12, 13, 14, 15, 16, 17, 18, 19, 20, 21, 22, 23, 24, 25, 26, 27, 28, 29, 30, 31, 32, 33, 34, 35, 36, 37, 38, 39, 40, 41, 42, 43, 44, 45, 46, 47, 48, 49, 50, 51, 52, 53, 54] := by kernel_rfl
@[go_sem] theorem lt19 (d : Nat) : cx.late 19 d = memN d [] := (show cx.late 19 d = List.contains [] d by kernel_rfl).trans (memN_eq _ _)
@[go_sem] theorem bs19 : cx.bs 19 = false := by kernel_rfl
@[go_sem] theorem vr19 : cx.vrow 19 0 = false ∧ cx.vrow 19 1 = false ∧ cx.vrow 19 2 = false ∧ cx.vrow 19 17 = false ∧ cx.vrow 19 3 = false ∧ cx.vrow 19 4 = false ∧ cx.vrow 19 24 = false ∧ cx.vrow 19 5 = false ∧ cx.vrow 19 6 = false ∧ cx.vrow 19 30 = false ∧ cx.vrow 19 7 = false ∧ cx.vrow 19 8 = false ∧ cx.vrow 19 36 = false ∧ cx.vrow 19 9 = false ∧ cx.vrow 19 10 = false ∧ cx.vrow 19 11 = false ∧ cx.vrow 19 42 = false := by
  refine ⟨?_, ?_, ?_, ?_, ?_, ?_, ?_, ?_, ?_, ?_, ?_, ?_, ?_, ?_, ?_, ?_, ?_⟩ <;> kernel_rfl
@[go_sem] theorem kp20 (i : Nat) : cx.keep 20 i = lkK i [(0, [0]), (1, [0, 12]), (2, [2, 3]), (3, [0, 4]), (4, [0, 4, 16, 17, 18]), (5, [0, 4, 16, 17, 18, 19]), (6, [0, 4, 5, 6, 16, 17, 18]), (7, [0, 4, 5, 6, 16, 17, 18]), (8, [0, 4, 5, 6, 7, 16, 17, 18]), (9, [0, 4, 5, 6, 7, 16, 17, 18, 33]), (10, [2, 3]), (11, [0, 4, 16, 17, 18, 38]), (12, [4, 8, 40]), (13, [4, 8, 9]), (14, []), (15, [0, 4, 16, 17, 18]), (16, [2, 3])] := (show cx.keep 20 i = keep20.lookup i by kernel_rfl).trans (lkK_eq _ _)
@[go_sem] theorem rs20 : Try.f20.results.toList = [.tmp 2, .tmp 3] := by kernel_rfl
@[go_sem] theorem sc20_7 : cx.sched 20 7 = [0, 1, 2, 3, 4, 5, 6] := by kernel_rfl
@[go_sem] theorem sc20_14 : cx.sched 20 14 = [0, 1, 2, 3, 4, 5, 6] := by kernel_rfl
@[go_sem] theorem lt20 (d : Nat) : cx.late 20 d = memN d [] := (show cx.late 20 d = List.contains [] d by kernel_rfl).trans (memN_eq _ _)
@[go_sem] theorem bs20 : cx.bs 20 = false := by kernel_rfl
@[go_sem] theorem bu112 (ps : List (Nat × AV)) : abuild cx.P 112 ps = (fillA (([(0, 1), (1, 1)] : List (Nat × Nat))[·]?) [.im (.sl 1 false true []), .im (.nilm)] ps).map mkAgg := by kernel_rfl
@[go_sem] theorem cb20 : cx.cbox 20 15 = true := by kernel_rfl
@[go_sem] theorem vr20 : cx.vrow 20 2 = false ∧ cx.vrow 20 3 = false ∧ cx.vrow 20 4 = false ∧ cx.vrow 20 6 = false ∧ cx.vrow 20 5 = false ∧ cx.vrow 20 7 = false ∧ cx.vrow 20 8 = false ∧ cx.vrow 20 9 = false := by
  refine ⟨?_, ?_, ?_, ?_, ?_, ?_, ?_, ?_⟩ <;> kernel_rfl
@[go_sem] theorem kp27 (i : Nat) : cx.keep 27 i = lkK i [(0, [2, 3]), (1, [4])] := (show cx.keep 27 i = keep27.lookup i by kernel_rfl).trans (lkK_eq _ _)
@[go_sem] theorem rs27 : Try.f27.results.toList = [.tmp 4] := by kernel_rfl
@[go_sem] theorem cb27 : cx.cbox 27 2 = true ∧ cx.cbox 27 3 = true := by
  refine ⟨?_, ?_⟩ <;> kernel_rfl
@[go_sem] theorem vr27 : cx.vrow 27 4 = false := by kernel_rfl
@[go_sem] theorem kp28 (i : Nat) : cx.keep 28 i = lkK i [(0, [2, 3]), (1, [2, 3, 50]), (2, [4]), (3, [2, 3, 74]), (4, [4]), (5, [2, 3, 5]), (6, [2, 3, 5, 79]), (7, [2, 3, 5]), (8, [2, 3, 5, 110]), (9, [4]), (10, [2, 3, 6]), (11, [2, 3, 6, 115]), (12, [2, 3, 6]), (13, [2, 3, 6, 7, 8]), (14, [2, 3, 6, 155]), (15, [4]), (16, [4])] := (show cx.keep 28 i = keep28.lookup i by kernel_rfl).trans (lkK_eq _ _)
@[go_sem] theorem rs28 : Try.f28.results.toList = [.tmp 4] := by kernel_rfl
@[go_sem] theorem sc28_8 : cx.sched 28 8 = [0, 1, 2, 3, 4, 5, 6, 7, 8, 9, 10, 11, 12, 13, 14, 15, 16, 17, 18, 19, 20, 21, 22, 23, 24, 25, 26, 27, 28] := by kernel_rfl
@[go_sem] theorem sc28_13 : cx.sched 28 13 = [0, 1, 2, 3, 4, 5, 6, 7, 8, 9, 10, 11, 12, 13] := by kernel_rfl
@[go_sem] theorem lt28 (d : Nat) : cx.late 28 d = memN d [] := (show cx.late 28 d = List.contains [] d by kernel_rfl).trans (memN_eq _ _)
@[go_sem] theorem bs28 : cx.bs 28 = false := by kernel_rfl
@[go_sem] theorem cb28 : cx.cbox 28 2 = true ∧ cx.cbox 28 3 = true := by
  refine ⟨?_, ?_⟩ <;> kernel_rfl
@[go_sem] theorem vr28 : cx.vrow 28 4 = false ∧ cx.vrow 28 5 = false ∧ cx.vrow 28 6 = false ∧ cx.vrow 28 7 = false ∧ cx.vrow 28 8 = false := by
  refine ⟨?_, ?_, ?_, ?_, ?_⟩ <;> kernel_rfl
@[go_sem] theorem kp63 (i : Nat) : cx.keep 63 i = lkK i [(0, [0]), (1, [0, 1]), (2, [0, 1, 2]), (3, [0])] := (show cx.keep 63 i = keep63.lookup i by kernel_rfl).trans (lkK_eq _ _)
@[go_sem] theorem rs63 : Try.f63.results.toList = [.cell 0 54] := by kernel_rfl
@[go_sem] theorem sc63_3 : cx.sched 63 3 = [0, 1, 2, 3, 4, 8, 9, 10, 11, 12, 5, 6, 7, 13, 14] := by kernel_rfl
@[go_sem] theorem lt63 (d : Nat) : cx.late 63 d = memN d [] := (show cx.late 63 d = List.contains [] d by kernel_rfl).trans (memN_eq _ _)
@[go_sem] theorem bs63 : cx.bs 63 = true := by kernel_rfl
@[go_sem] theorem vr63 : cx.vrow 63 0 = false ∧ cx.vrow 63 1 = false ∧ cx.vrow 63 5 = false ∧ cx.vrow 63 2 = false ∧ cx.vrow 63 14 = false ∧ cx.vrow 63 18 = false := by
  refine ⟨?_, ?_, ?_, ?_, ?_, ?_⟩ <;> kernel_rfl
@[go_sem] theorem kp64 (i : Nat) : cx.keep 64 i = lkK i [(0, [1]), (1, [1, 3]), (2, [1, 3, 9]), (3, [1, 3, 9, 10]), (4, [1, 3, 9, 10]), (5, [1, 3, 9, 10]), (6, [3]), (7, [1, 3, 9, 19]), (8, [1, 3]), (9, [1, 3, 27, 28, 29]), (10, [1, 3, 27, 28, 29, 30]), (11, [1, 3, 5, 27, 28, 29]), (12, [1, 3, 27, 28, 29]), (13, [1, 3, 27, 28, 29]), (14, [3]), (15, [1, 3, 45]), (16, [3, 48, 49, 50]), (17, [3, 48, 49, 50, 51]), (18, [3, 7, 48, 49, 50]), (19, [3, 48, 49, 50]), (20, [3, 48, 49, 50]), (21, [2])] := (show cx.keep 64 i = keep64.lookup i by kernel_rfl).trans (lkK_eq _ _)
@[go_sem] theorem rs64 : Try.f64.results.toList = [.tmp 2] := by kernel_rfl
@[go_sem] theorem cb64 : cx.cbox 64 1 = true := by kernel_rfl
@[go_sem] theorem vr64 : cx.vrow 64 2 = false ∧ cx.vrow 64 3 = true ∧ cx.vrow 64 10 = false ∧ cx.vrow 64 17 = false ∧ cx.vrow 64 19 = false ∧ cx.vrow 64 24 = false ∧ cx.vrow 64 5 = false ∧ cx.vrow 64 36 = false ∧ cx.vrow 64 43 = false ∧ cx.vrow 64 45 = false ∧ cx.vrow 64 7 = false ∧ cx.vrow 64 57 = false := by
  refine ⟨?_, ?_, ?_, ?_, ?_, ?_, ?_, ?_, ?_, ?_, ?_, ?_⟩ <;> kernel_rfl
@[go_sem] theorem kp65 (i : Nat) : cx.keep 65 i = lkK i [(0, [0, 1]), (1, [0, 1, 10]), (2, [4]), (3, [0, 1, 5]), (4, [0, 1, 5, 14]), (5, [0, 1, 5]), (6, [0, 1, 5, 25]), (7, [4]), (8, [4])] := (show cx.keep 65 i = keep65.lookup i by kernel_rfl).trans (lkK_eq _ _)
@[go_sem] theorem rs65 : Try.f65.results.toList = [.tmp 4] := by kernel_rfl
@[go_sem] theorem sc65_6 : cx.sched 65 6 = [0, 1, 2, 3, 4, 5, 6, 7, 8] := by kernel_rfl
@[go_sem] theorem lt65 (d : Nat) : cx.late 65 d = memN d [] := (show cx.late 65 d = List.contains [] d by kernel_rfl).trans (memN_eq _ _)
@[go_sem] theorem bs65 : cx.bs 65 = false := by kernel_rfl
@[go_sem] theorem vr65 : cx.vrow 65 4 = false ∧ cx.vrow 65 5 = false := by
  refine ⟨?_, ?_⟩ <;> kernel_rfl
@[go_sem] theorem kp66 (i : Nat) : cx.keep 66 i = lkK i [(0, [2, 3, 4]), (1, [4])] := (show cx.keep 66 i = keep66.lookup i by kernel_rfl).trans (lkK_eq _ _)
@[go_sem] theorem rs66 : Try.f66.results.toList = [.cell 4 26] := by kernel_rfl
@[go_sem] theorem cb66 : cx.cbox 66 2 = true ∧ cx.cbox 66 3 = true := by
  refine ⟨?_, ?_⟩ <;> kernel_rfl
@[go_sem] theorem vr66 : cx.vrow 66 4 = false ∧ cx.vrow 66 7 = false := by
  refine ⟨?_, ?_⟩ <;> kernel_rfl
@[go_sem] theorem kp67 (i : Nat) : cx.keep 67 i = lkK i [(0, [0, 2]), (1, [2])] := (show cx.keep 67 i = keep67.lookup i by kernel_rfl).trans (lkK_eq _ _)
@[go_sem] theorem rs67 : Try.f67.results.toList = [.cell 2 26] := by kernel_rfl
@[go_sem] theorem vr67 : cx.vrow 67 2 = false := by kernel_rfl
@[go_sem] theorem kp68 (i : Nat) : cx.keep 68 i = lkK i [(0, [0, 3, 4]), (1, [0, 3, 4]), (2, [0, 3, 4]), (3, [0, 3, 4]), (4, [0, 3, 4, 5]), (5, [0, 3, 4, 5, 21]), (6, [0, 3, 4, 5]), (7, [0, 3, 4, 5, 36]), (8, [0, 3, 4, 5]), (9, [0, 3, 4, 5, 46]), (10, [0, 3, 4, 5]), (11, [0, 3, 4, 5, 52, 53, 54]), (12, [0, 3, 4, 5, 52, 53, 54, 55]), (13, [0, 3, 4, 5, 7, 52, 53, 54]), (14, [0, 3, 4, 5, 52, 53, 54]), (15, [0, 3, 4, 5, 52, 53, 54]), (16, [0, 3, 4, 5, 72]), (17, [4, 5, 8, 74]), (18, [4, 5, 8, 9]), (19, [4]), (20, [0, 3, 4, 5, 79, 80, 81]), (21, [0, 3, 4, 5, 79, 80, 81, 82]), (22, [0, 3, 4, 5, 11, 79, 80, 81]), (23, [0, 3, 4, 5, 79, 80, 81]), (24, [0, 3, 4, 5, 79, 80, 81]), (25, [4])] := (show cx.keep 68 i = keep68.lookup i by kernel_rfl).trans (lkK_eq _ _)
@[go_sem] theorem rs68 : Try.f68.results.toList = [.cell 4 38] := by kernel_rfl
@[go_sem] theorem sc68_16 : cx.sched 68 16 = [0, 1, 2, 3, 4, 5, 6] := by kernel_rfl
@[go_sem] theorem lt68 (d : Nat) : cx.late 68 d = memN d [] := (show cx.late 68 d = List.contains [] d by kernel_rfl).trans (memN_eq _ _)
@[go_sem] theorem bs68 : cx.bs 68 = false := by kernel_rfl
@[go_sem] theorem cb68 : cx.cbox 68 3 = true := by kernel_rfl
@[go_sem] theorem vr68 : cx.vrow 68 4 = false ∧ cx.vrow 68 5 = false ∧ cx.vrow 68 7 = false ∧ cx.vrow 68 8 = false ∧ cx.vrow 68 9 = false ∧ cx.vrow 68 11 = false := by
  refine ⟨?_, ?_, ?_, ?_, ?_, ?_⟩ <;> kernel_rfl
@[go_sem] theorem kp73 (i : Nat) : cx.keep 73 i = lkK i [(0, [2, 3]), (1, [4])] := (show cx.keep 73 i = keep73.lookup i by kernel_rfl).trans (lkK_eq _ _)
@[go_sem] theorem rs73 : Try.f73.results.toList = [.tmp 4] := by kernel_rfl
@[go_sem] theorem cb73 : cx.cbox 73 2 = true ∧ cx.cbox 73 3 = true := by
  refine ⟨?_, ?_⟩ <;> kernel_rfl
@[go_sem] theorem vr73 : cx.vrow 73 4 = false := by kernel_rfl
@[go_sem] theorem kp106 (i : Nat) : cx.keep 106 i = lkK i [(0, [0, 1]), (1, [0, 1, 6]), (2, [0, 1, 2, 3]), (3, [0, 1, 2, 13]), (4, [0, 2]), (5, [])] := (show cx.keep 106 i = keep106.lookup i by kernel_rfl).trans (lkK_eq _ _)
@[go_sem] theorem rs106 : Try.f106.results.toList = [] := by kernel_rfl
@[go_sem] theorem vr106 : cx.vrow 106 1 = false ∧ cx.vrow 106 2 = false ∧ cx.vrow 106 3 = false := by
  refine ⟨?_, ?_, ?_⟩ <;> kernel_rfl
@[go_sem] theorem kp107 (i : Nat) : cx.keep 107 i = lkK i [(0, [1]), (1, [1]), (2, [1, 2]), (3, [1, 2, 3]), (4, [1, 2, 3, 4]), (5, [1, 3, 4]), (6, [1, 3, 4]), (7, [1, 3, 4]), (8, [1, 3, 4, 5]), (9, [1, 3, 4]), (10, [1, 3, 4]), (11, [1, 3]), (12, [1, 3, 136, 137, 138]), (13, [1, 3, 136, 137, 138, 139]), (14, [1, 3, 7, 136, 137, 138]), (15, [1, 3, 136, 137, 138]), (16, [1, 3, 136, 137, 138]), (17, [1, 152]), (18, [1, 8]), (19, [1]), (20, [1, 9]), (21, [1, 9, 180, 181, 182]), (22, [1, 9, 180, 181, 182, 183]), (23, [1, 9, 11, 180, 181, 182]), (24, [1, 9, 180, 181, 182]), (25, [1, 9, 180, 181, 182]), (26, [1, 192, 193, 194]), (27, [1, 192, 193, 194, 195]), (28, [1, 13, 192, 193, 194]), (29, [1, 14, 192, 193, 194]), (30, [1, 192, 193, 194]), (31, [1, 192, 193, 194])] := (show cx.keep 107 i = keep107.lookup i by kernel_rfl).trans (lkK_eq _ _)
@[go_sem] theorem rs107 : Try.f107.results.toList = [] := by kernel_rfl
@[go_sem] theorem cb107 : cx.cbox 107 1 = true := by kernel_rfl
@[go_sem] theorem vr107 : cx.vrow 107 2 = false ∧ cx.vrow 107 3 = false ∧ cx.vrow 107 4 = false ∧ cx.vrow 107 5 = false ∧ cx.vrow 107 7 = false ∧ cx.vrow 107 8 = false ∧ cx.vrow 107 178 = false ∧ cx.vrow 107 9 = false ∧ cx.vrow 107 11 = false ∧ cx.vrow 107 189 = false ∧ cx.vrow 107 13 = false ∧ cx.vrow 107 15 = false ∧ cx.vrow 107 14 = false := by
  refine ⟨?_, ?_, ?_, ?_, ?_, ?_, ?_, ?_, ?_, ?_, ?_, ?_, ?_⟩ <;> kernel_rfl
@[go_sem] theorem kp108 (i : Nat) : cx.keep 108 i = lkK i [(0, [0, 3]), (1, [0, 3, 4]), (2, [0, 4, 11, 12, 13]), (3, [0, 4, 11, 12, 13, 14]), (4, [0, 4, 6, 11, 12, 13]), (5, [0, 4, 6, 11, 12, 13]), (6, [0, 4, 6, 8, 11, 12, 13]), (7, [0, 4, 6, 11, 12, 13]), (8, [0, 4, 11, 12, 13]), (9, [0, 4, 11, 12, 13])] := (show cx.keep 108 i = keep108.lookup i by kernel_rfl).trans (lkK_eq _ _)
@[go_sem] theorem rs108 : Try.f108.results.toList = [] := by kernel_rfl
@[go_sem] theorem cb108 : cx.cbox 108 3 = true := by kernel_rfl
@[go_sem] theorem vr108 : cx.vrow 108 4 = false ∧ cx.vrow 108 6 = false ∧ cx.vrow 108 7 = false ∧ cx.vrow 108 8 = false := by
  refine ⟨?_, ?_, ?_, ?_⟩ <;> kernel_rfl
@[go_sem] theorem kp109 (i : Nat) : cx.keep 109 i = lkK i [(0, [2, 3, 5, 6, 9]), (1, [5, 6, 9, 10]), (2, [5, 6, 9]), (3, [5, 9, 23]), (4, [5, 9, 11]), (5, [9, 11, 12, 13]), (6, [9, 11, 12, 13, 36]), (7, [11, 12, 13]), (8, [11, 12]), (9, [])] := (show cx.keep 109 i = keep109.lookup i by kernel_rfl).trans (lkK_eq _ _)
@[go_sem] theorem rs109 : Try.f109.results.toList = [] := by kernel_rfl
@[go_sem] theorem sc109_5 : cx.sched 109 5 = [0, 1, 2, 3, 4, 5, 6, 7, 8, 9, 10, 11, 12] := by kernel_rfl
@[go_sem] theorem lt109 (d : Nat) : cx.late 109 d = memN d [] := (show cx.late 109 d = List.contains [] d by kernel_rfl).trans (memN_eq _ _)
@[go_sem] theorem bs109 : cx.bs 109 = false := by kernel_rfl
@[go_sem] theorem cb109 : cx.cbox 109 5 = true ∧ cx.cbox 109 6 = true ∧ cx.cbox 109 9 = true := by
  refine ⟨?_, ?_, ?_⟩ <;> kernel_rfl
@[go_sem] theorem vr109 : cx.vrow 109 10 = false ∧ cx.vrow 109 11 = false ∧ cx.vrow 109 12 = false ∧ cx.vrow 109 13 = false := by
  refine ⟨?_, ?_, ?_, ?_⟩ <;> kernel_rfl
@[go_sem] theorem kp110 (i : Nat) : cx.keep 110 i = lkK i [(0, [0, 2, 4]), (1, [0, 2, 4, 6]), (2, [0, 2, 4, 6, 23]), (3, [6, 7, 25]), (4, [6, 7, 8]), (5, []), (6, [0, 2, 4, 6]), (7, [0, 2, 4, 6, 37, 38, 39]), (8, [0, 2, 4, 6, 37, 38, 39, 40]), (9, [0, 2, 4, 6, 10, 37, 38, 39]), (10, [0, 2, 4, 6, 37, 38, 39]), (11, [0, 2, 4, 6, 37, 38, 39]), (12, [0, 2, 4, 6, 52, 53, 54]), (13, [0, 2, 4, 6, 52, 53, 54, 55]), (14, [0, 2, 4, 6, 12, 52, 53, 54]), (15, [0, 2, 4, 6, 52, 53, 54]), (16, [0, 2, 4, 6, 52, 53, 54]), (17, [0, 2, 4, 6]), (18, [0, 2, 4, 6, 13]), (19, [0, 2, 4]), (20, [0, 2, 4, 85, 86, 87]), (21, [0, 2, 4, 85, 86, 87, 88]), (22, [0, 2, 4, 15, 85, 86, 87]), (23, [0, 2, 4, 85, 86, 87]), (24, [0, 2, 4, 85, 86, 87])] := (show cx.keep 110 i = keep110.lookup i by kernel_rfl).trans (lkK_eq _ _)
@[go_sem] theorem rs110 : Try.f110.results.toList = [] := by kernel_rfl
@[go_sem] theorem sc110_2 : cx.sched 110 2 = [0, 1, 2, 3, 4, 5, 6] := by kernel_rfl
@[go_sem] theorem lt110 (d : Nat) : cx.late 110 d = memN d [] := (show cx.late 110 d = List.contains [] d by kernel_rfl).trans (memN_eq _ _)
@[go_sem] theorem bs110 : cx.bs 110 = false := by kernel_rfl
@[go_sem] theorem cb110 : cx.cbox 110 4 = true := by kernel_rfl
@[go_sem] theorem vr110 : cx.vrow 110 6 = false ∧ cx.vrow 110 7 = false ∧ cx.vrow 110 8 = false ∧ cx.vrow 110 10 = false ∧ cx.vrow 110 12 = false ∧ cx.vrow 110 13 = false ∧ cx.vrow 110 15 = false := by
  refine ⟨?_, ?_, ?_, ?_, ?_, ?_, ?_⟩ <;> kernel_rfl
@[go_sem] theorem kp111 (i : Nat) : cx.keep 111 i = lkK i [(0, [0, 2, 3, 4, 5, 7]), (1, [0, 2, 3, 4, 5, 7]), (2, [0, 2, 3, 4, 5, 7, 22]), (3, [0, 2, 4, 5, 7]), (4, []), (5, [0, 2, 3, 4, 5, 7]), (6, [0, 2, 3, 4, 5, 7]), (7, [0, 2, 3, 4, 5, 7]), (8, [0, 2, 3, 4, 5, 65, 66, 67]), (9, [0, 2, 3, 4, 5, 65, 66, 67, 68]), (10, [0, 2, 3, 4, 5, 13, 65, 66, 67]), (11, [0, 2, 3, 4, 5, 13, 14, 15, 65, 66, 67]), (12, [0, 2, 3, 4, 5, 13, 14, 65, 66, 67]), (13, [0, 2, 3, 4, 5, 13, 14, 65, 66, 67, 89]), (14, [0, 2, 3, 4, 5, 16, 65, 66, 67]), (15, [0, 2, 3, 4, 5, 65, 66, 67]), (16, [0, 2, 3, 4, 5, 65, 66, 67]), (17, [0, 2, 3, 4, 5, 65, 66, 67])] := (show cx.keep 111 i = keep111.lookup i by kernel_rfl).trans (lkK_eq _ _)
@[go_sem] theorem rs111 : Try.f111.results.toList = [] := by kernel_rfl
@[go_sem] theorem sc111_11 : cx.sched 111 11 = [0, 1, 2, 3, 4, 5, 6, 7, 8, 9, 10, 11, 12] := by kernel_rfl
@[go_sem] theorem sc111_16 : cx.sched 111 16 = [0, 1, 2, 3, 4, 5, 6, 7, 8, 9, 10, 11, 12, 13, 16, 17, 18, 19, 14, 15, 20] := by kernel_rfl
@[go_sem] theorem lt111 (d : Nat) : cx.late 111 d = memN d [] := (show cx.late 111 d = List.contains [] d by kernel_rfl).trans (memN_eq _ _)
@[go_sem] theorem bs111 : cx.bs 111 = false := by kernel_rfl
@[go_sem] theorem cb111 : cx.cbox 111 7 = true := by kernel_rfl
@[go_sem] theorem vr111 : cx.vrow 111 13 = false ∧ cx.vrow 111 14 = false ∧ cx.vrow 111 15 = false ∧ cx.vrow 111 16 = false := by
  refine ⟨?_, ?_, ?_, ?_⟩ <;> kernel_rfl
@[go_sem] theorem kp140 (i : Nat) : cx.keep 140 i = lkK i [(0, [1, 5]), (1, [])] := (show cx.keep 140 i = keep140.lookup i by kernel_rfl).trans (lkK_eq _ _)
@[go_sem] theorem rs140 : Try.f140.results.toList = [] := by kernel_rfl
@[go_sem] theorem bu175 (ps : List (Nat × AV)) : abuild cx.P 175 ps = (fillA (([(0, 1)] : List (Nat × Nat))[·]?) [.im (.i .i64 0)] ps).map mkAgg := by kernel_rfl
@[go_sem] theorem kp141 (i : Nat) : cx.keep 141 i = lkK i [(0, [1]), (1, [2])] := (show cx.keep 141 i = keep141.lookup i by kernel_rfl).trans (lkK_eq _ _)
@[go_sem] theorem rs141 : Try.f141.results.toList = [.tmp 2] := by kernel_rfl
@[go_sem] theorem cb141 : cx.cbox 141 1 = true := by kernel_rfl
@[go_sem] theorem vr141 : cx.vrow 141 2 = false := by kernel_rfl
@[go_sem] theorem kp142 (i : Nat) : cx.keep 142 i = lkK i [(0, [0]), (1, [0, 3]), (2, [0, 3, 7, 8]), (3, [0, 3, 7, 8, 9]), (4, [0, 3, 4, 7, 8]), (5, [0, 3, 5, 7, 8]), (6, [0, 3, 5, 7, 8, 14]), (7, [0, 3, 7, 8]), (8, [0, 3, 5, 7, 8, 17]), (9, [2]), (10, [0, 3, 5, 7, 8, 19]), (11, [0, 3, 7, 8]), (12, [0, 3, 5, 7, 8, 22]), (13, [0, 3, 7, 8, 30]), (14, [2]), (15, [0, 3, 7, 8]), (16, [2])] := (show cx.keep 142 i = keep142.lookup i by kernel_rfl).trans (lkK_eq _ _)
@[go_sem] theorem rs142 : Try.f142.results.toList = [.tmp 2] := by kernel_rfl
@[go_sem] theorem vr142 : cx.vrow 142 2 = false ∧ cx.vrow 142 3 = false ∧ cx.vrow 142 4 = false ∧ cx.vrow 142 5 = false ∧ cx.vrow 142 14 = false ∧ cx.vrow 142 17 = false ∧ cx.vrow 142 19 = false ∧ cx.vrow 142 22 = false := by
  refine ⟨?_, ?_, ?_, ?_, ?_, ?_, ?_, ?_⟩ <;> kernel_rfl
@[go_sem] theorem kp143 (i : Nat) : cx.keep 143 i = lkK i [(0, [1, 2, 3, 4, 5, 10]), (1, [5, 10, 11]), (2, [5, 10, 11, 12]), (3, [5, 10, 11, 12, 26]), (4, [10, 11, 12, 13, 28]), (5, [10, 11, 12, 13, 14]), (6, [10, 12, 15]), (7, [10, 12, 15, 34]), (8, []), (9, []), (10, [5, 10, 38]), (11, [10]), (12, [10, 41]), (13, [10]), (14, [10])] := (show cx.keep 143 i = keep143.lookup i by kernel_rfl).trans (lkK_eq _ _)
@[go_sem] theorem rs143 : Try.f143.results.toList = [.cell 10 38] := by kernel_rfl
@[go_sem] theorem bu237 (ps : List (Nat × AV)) : abuild cx.P 237 ps = (fillA (([(0, 1), (1, 1), (2, 1), (3, 1)] : List (Nat × Nat))[·]?) [.im (.i .i64 0), .im (.i .i64 0), .im (.i .i64 0), .im (.i .i64 0)] ps).map mkAgg := by kernel_rfl
@[go_sem] theorem cb143 : cx.cbox 143 5 = true := by kernel_rfl
@[go_sem] theorem vr143 : cx.vrow 143 10 = false ∧ cx.vrow 143 11 = false ∧ cx.vrow 143 12 = false ∧ cx.vrow 143 13 = false ∧ cx.vrow 143 14 = false ∧ cx.vrow 143 15 = false ∧ cx.vrow 143 38 = false ∧ cx.vrow 143 41 = false := by
  refine ⟨?_, ?_, ?_, ?_, ?_, ?_, ?_, ?_⟩ <;> kernel_rfl
@[go_sem] theorem kp144 (i : Nat) : cx.keep 144 i = lkK i [(0, [1]), (1, [2])] := (show cx.keep 144 i = keep144.lookup i by kernel_rfl).trans (lkK_eq _ _)
@[go_sem] theorem rs144 : Try.f144.results.toList = [.tmp 2] := by kernel_rfl
@[go_sem] theorem cb144 : cx.cbox 144 1 = true := by kernel_rfl
@[go_sem] theorem vr144 : cx.vrow 144 2 = false := by kernel_rfl
@[go_sem] theorem kp145 (i : Nat) : cx.keep 145 i = lkK i [(0, [1, 2]), (1, [2, 5]), (2, [4])] := (show cx.keep 145 i = keep145.lookup i by kernel_rfl).trans (lkK_eq _ _)
@[go_sem] theorem rs145 : Try.f145.results.toList = [.tmp 4] := by kernel_rfl
@[go_sem] theorem cb145 : cx.cbox 145 2 = true := by kernel_rfl
@[go_sem] theorem vr145 : cx.vrow 145 4 = false ∧ cx.vrow 145 6 = false ∧ cx.vrow 145 5 = false := by
  refine ⟨?_, ?_, ?_⟩ <;> kernel_rfl
@[go_sem] theorem kp165 (i : Nat) : cx.keep 165 i = lkK i [(0, [0]), (1, [2])] := (show cx.keep 165 i = keep165.lookup i by kernel_rfl).trans (lkK_eq _ _)
@[go_sem] theorem rs165 : Try.f165.results.toList = [.tmp 2] := by kernel_rfl
@[go_sem] theorem vr165 : cx.vrow 165 2 = false := by kernel_rfl
@[go_sem] theorem kp166 (i : Nat) : cx.keep 166 i = lkK i [(0, [1]), (1, [2])] := (show cx.keep 166 i = keep166.lookup i by kernel_rfl).trans (lkK_eq _ _)
@[go_sem] theorem rs166 : Try.f166.results.toList = [.tmp 2] := by kernel_rfl
@[go_sem] theorem cb166 : cx.cbox 166 1 = true := by kernel_rfl
@[go_sem] theorem vr166 : cx.vrow 166 2 = false := by kernel_rfl
@[go_sem] theorem kp167 (i : Nat) : cx.keep 167 i = lkK i [(0, [2, 3, 4]), (1, [2, 3, 4, 12]), (2, [6]), (3, [2, 3, 4, 15]), (4, [2, 3, 4, 19]), (5, [6]), (6, [2, 3, 4, 23]), (7, [6]), (8, [2, 3, 4, 25, 26, 27]), (9, [2, 3, 4, 25, 26, 27, 28]), (10, [2, 3, 4, 8, 25, 26, 27]), (11, [2, 3, 4, 9, 25, 26, 27]), (12, [2, 3, 4, 9, 25, 26, 27, 35]), (13, [6]), (14, [2, 3, 4, 25, 26, 27]), (15, [3, 4, 38]), (16, [6]), (17, [56]), (18, [6]), (19, [6])] := (show cx.keep 167 i = keep167.lookup i by kernel_rfl).trans (lkK_eq _ _)
@[go_sem] theorem rs167 : Try.f167.results.toList = [.tmp 6] := by kernel_rfl
@[go_sem] theorem cb167 : cx.cbox 167 3 = true ∧ cx.cbox 167 4 = true := by
  refine ⟨?_, ?_⟩ <;> kernel_rfl
@[go_sem] theorem vr167 : cx.vrow 167 6 = false ∧ cx.vrow 167 8 = false ∧ cx.vrow 167 9 = false ∧ cx.vrow 167 38 = false ∧ cx.vrow 167 56 = false := by
  refine ⟨?_, ?_, ?_, ?_, ?_⟩ <;> kernel_rfl
@[go_sem] theorem kp168 (i : Nat) : cx.keep 168 i = lkK i [(0, [1]), (1, [1, 3]), (2, [3, 7, 8, 9]), (3, [3, 7, 8, 9, 10]), (4, [3, 5, 7, 8, 9]), (5, [3, 7, 8, 9]), (6, [3, 7, 8, 9]), (7, [2])] := (show cx.keep 168 i = keep168.lookup i by kernel_rfl).trans (lkK_eq _ _)
@[go_sem] theorem rs168 : Try.f168.results.toList = [.tmp 2] := by kernel_rfl
@[go_sem] theorem cb168 : cx.cbox 168 1 = true := by kernel_rfl
@[go_sem] theorem vr168 : cx.vrow 168 2 = false ∧ cx.vrow 168 3 = false ∧ cx.vrow 168 5 = false := by
  refine ⟨?_, ?_, ?_⟩ <;> kernel_rfl
@[go_sem] theorem kp169 (i : Nat) : cx.keep 169 i = lkK i [(0, [])] := (show cx.keep 169 i = keep169.lookup i by kernel_rfl).trans (lkK_eq _ _)
@[go_sem] theorem rs169 : Try.f169.results.toList = [] := by kernel_rfl
@[go_sem] theorem kp170 (i : Nat) : cx.keep 170 i = lkK i [(0, [2, 3]), (1, [2, 3, 13]), (2, [4]), (3, [4])] := (show cx.keep 170 i = keep170.lookup i by kernel_rfl).trans (lkK_eq _ _)
@[go_sem] theorem rs170 : Try.f170.results.toList = [.tmp 4] := by kernel_rfl
@[go_sem] theorem cb170 : cx.cbox 170 2 = true ∧ cx.cbox 170 3 = true := by
  refine ⟨?_, ?_⟩ <;> kernel_rfl
@[go_sem] theorem vr170 : cx.vrow 170 4 = false := by kernel_rfl
@[go_sem] theorem kp195 (i : Nat) : cx.keep 195 i = lkK i [(0, [1, 2]), (1, [1, 2, 3]), (2, [1, 2, 3, 4]), (3, [1, 4]), (4, [])] := (show cx.keep 195 i = keep195.lookup i by kernel_rfl).trans (lkK_eq _ _)
@[go_sem] theorem rs195 : Try.f195.results.toList = [] := by kernel_rfl
@[go_sem] theorem cb195 : cx.cbox 195 2 = true := by kernel_rfl
@[go_sem] theorem vr195 : cx.vrow 195 3 = false ∧ cx.vrow 195 4 = false := by
  refine ⟨?_, ?_⟩ <;> kernel_rfl
@[go_sem] theorem kp196 (i : Nat) : cx.keep 196 i = lkK i [(0, [0]), (1, [0])] := (show cx.keep 196 i = keep196.lookup i by kernel_rfl).trans (lkK_eq _ _)
@[go_sem] theorem rs196 : Try.f196.results.toList = [.cell 0 263] := by kernel_rfl
@[go_sem] theorem bu262 (ps : List (Nat × AV)) : abuild cx.P 262 ps = (fillA (([(0, 1), (1, 1), (2, 1), (3, 1), (4, 1)] : List (Nat × Nat))[·]?) [.im (.b false), .im (.b false), .im (.i .i64 0), .im (.i .i64 0), .im (.i .i64 0)] ps).map mkAgg := by kernel_rfl
@[go_sem] theorem vr196 : cx.vrow 196 0 = false := by kernel_rfl
@[go_sem] theorem kp197 (i : Nat) : cx.keep 197 i = lkK i [(0, [1, 2, 3, 4, 5]), (1, [1, 3, 4, 5, 16]), (2, [7]), (3, [1, 3, 4, 5, 8]), (4, [1, 3, 4, 5, 8, 24]), (5, [1, 4, 5, 8]), (6, [1, 4, 8, 31, 32, 33]), (7, [1, 4, 8, 31, 32, 33, 34]), (8, [1, 4, 8, 9, 10, 31, 32, 33]), (9, [1, 4, 8, 9, 10, 11, 31, 32, 33]), (10, [1, 4, 8, 10, 11, 31, 32, 33, 41]), (11, [1, 4, 8, 10, 11, 31, 32, 33]), (12, [1, 4, 8, 31, 32, 33, 48]), (13, [7]), (14, [1, 4, 8, 31, 32, 33]), (15, [7])] := (show cx.keep 197 i = keep197.lookup i by kernel_rfl).trans (lkK_eq _ _)
@[go_sem] theorem rs197 : Try.f197.results.toList = [.tmp 7] := by kernel_rfl
@[go_sem] theorem cb197 : cx.cbox 197 5 = true := by kernel_rfl
@[go_sem] theorem vr197 : cx.vrow 197 7 = false ∧ cx.vrow 197 8 = false ∧ cx.vrow 197 10 = false ∧ cx.vrow 197 9 = false ∧ cx.vrow 197 11 = false := by
  refine ⟨?_, ?_, ?_, ?_, ?_⟩ <;> kernel_rfl
@[go_sem] theorem kp198 (i : Nat) : cx.keep 198 i = lkK i [(0, [1]), (1, [1, 11]), (2, [2]), (3, [1, 3]), (4, [2])] := (show cx.keep 198 i = keep198.lookup i by kernel_rfl).trans (lkK_eq _ _)
@[go_sem] theorem rs198 : Try.f198.results.toList = [.tmp 2] := by kernel_rfl
@[go_sem] theorem sc198_3 : cx.sched 198 3 = [1, 2, 4, 0, 3, 5] := by kernel_rfl
@[go_sem] theorem lt198 (d : Nat) : cx.late 198 d = memN d [] := (show cx.late 198 d = List.contains [] d by kernel_rfl).trans (memN_eq _ _)
@[go_sem] theorem bs198 : cx.bs 198 = false := by kernel_rfl
@[go_sem] theorem cb198 : cx.cbox 198 1 = true := by kernel_rfl
@[go_sem] theorem vr198 : cx.vrow 198 2 = false ∧ cx.vrow 198 3 = false := by
  refine ⟨?_, ?_⟩ <;> kernel_rfl
@[go_sem] theorem kp199 (i : Nat) : cx.keep 199 i = lkK i [(0, [2, 3]), (1, [2, 3, 11]), (2, [4]), (3, [2, 3, 13, 14, 15]), (4, [2, 3, 13, 14, 15, 16]), (5, [2, 3, 6, 13, 14, 15]), (6, [2, 3, 13, 14, 15, 23]), (7, [4]), (8, [2, 3, 13, 14, 15]), (9, [2, 26, 27, 28]), (10, [2, 26, 27, 28, 29]), (11, [2, 8, 26, 27, 28]), (12, [2, 26, 27, 28, 42]), (13, [4]), (14, [2, 26, 27, 28]), (15, [4])] := (show cx.keep 199 i = keep199.lookup i by kernel_rfl).trans (lkK_eq _ _)
@[go_sem] theorem rs199 : Try.f199.results.toList = [.tmp 4] := by kernel_rfl
@[go_sem] theorem cb199 : cx.cbox 199 2 = true ∧ cx.cbox 199 3 = true := by
  refine ⟨?_, ?_⟩ <;> kernel_rfl
@[go_sem] theorem vr199 : cx.vrow 199 4 = false ∧ cx.vrow 199 6 = false ∧ cx.vrow 199 8 = false := by
  refine ⟨?_, ?_, ?_⟩ <;> kernel_rfl
@[go_sem] theorem kp200 (i : Nat) : cx.keep 200 i = lkK i [(0, [1, 2]), (1, [3])] := (show cx.keep 200 i = keep200.lookup i by kernel_rfl).trans (lkK_eq _ _)
@[go_sem] theorem rs200 : Try.f200.results.toList = [.tmp 3] := by kernel_rfl
@[go_sem] theorem cb200 : cx.cbox 200 2 = true := by kernel_rfl
@[go_sem] theorem vr200 : cx.vrow 200 3 = false := by kernel_rfl
@[go_sem] theorem kp209 (i : Nat) : cx.keep 209 i = lkK i [(0, [1]), (1, [1, 21]), (2, [2]), (3, [1, 23, 24, 25]), (4, [1, 23, 24, 25, 26]), (5, [1, 3, 4, 23, 24, 25]), (6, [1, 23, 24, 25, 63]), (7, [2]), (8, [1, 23, 24, 25]), (9, [2])] := (show cx.keep 209 i = keep209.lookup i by kernel_rfl).trans (lkK_eq _ _)
@[go_sem] theorem rs209 : Try.f209.results.toList = [.tmp 2] := by kernel_rfl
@[go_sem] theorem sc209_6 : cx.sched 209 6 = [0, 1, 2, 3, 4, 5, 6, 7, 8, 9, 10, 11, 12, 13, 14, 15, 16, 17, 18, 19, 20, 21, 22, 23, 24, 25, 26, 27, 28, 29, 30, 31, 32, 33] := by kernel_rfl
@[go_sem] theorem lt209 (d : Nat) : cx.late 209 d = memN d [] := (show cx.late 209 d = List.contains [] d by kernel_rfl).trans (memN_eq _ _)
@[go_sem] theorem bs209 : cx.bs 209 = false := by kernel_rfl
@[go_sem] theorem cb209 : cx.cbox 209 1 = true := by kernel_rfl
@[go_sem] theorem vr209 : cx.vrow 209 2 = false ∧ cx.vrow 209 4 = false ∧ cx.vrow 209 3 = false := by
  refine ⟨?_, ?_, ?_⟩ <;> kernel_rfl
@[go_sem] theorem kp211 (i : Nat) : cx.keep 211 i = lkK i [(0, [1]), (1, [2])] := (show cx.keep 211 i = keep211.lookup i by kernel_rfl).trans (lkK_eq _ _)
@[go_sem] theorem rs211 : Try.f211.results.toList = [.tmp 2] := by kernel_rfl
@[go_sem] theorem cb211 : cx.cbox 211 1 = true := by kernel_rfl
@[go_sem] theorem vr211 : cx.vrow 211 2 = false := by kernel_rfl
@[go_sem] theorem kp212 (i : Nat) : cx.keep 212 i = lkK i [(0, [0, 1]), (1, [4])] := (show cx.keep 212 i = keep212.lookup i by kernel_rfl).trans (lkK_eq _ _)
@[go_sem] theorem rs212 : Try.f212.results.toList = [.tmp 4] := by kernel_rfl
@[go_sem] theorem vr212 : cx.vrow 212 4 = false := by kernel_rfl
@[go_sem] theorem kp213 (i : Nat) : cx.keep 213 i = lkK i [(0, [1, 2]), (1, [3])] := (show cx.keep 213 i = keep213.lookup i by kernel_rfl).trans (lkK_eq _ _)
@[go_sem] theorem rs213 : Try.f213.results.toList = [.tmp 3] := by kernel_rfl
@[go_sem] theorem cb213 : cx.cbox 213 2 = true := by kernel_rfl
@[go_sem] theorem vr213 : cx.vrow 213 3 = false := by kernel_rfl
@[go_sem] theorem kp214 (i : Nat) : cx.keep 214 i = lkK i [(0, [0, 1]), (1, [0, 1, 7, 8]), (2, [0, 1, 7, 8, 9]), (3, [0, 1, 5, 7, 8]), (4, [0, 1, 5, 7, 8, 16]), (5, [4]), (6, [0, 1, 7, 8]), (7, [4])] := (show cx.keep 214 i = keep214.lookup i by kernel_rfl).trans (lkK_eq _ _)
@[go_sem] theorem rs214 : Try.f214.results.toList = [.tmp 4] := by kernel_rfl
@[go_sem] theorem vr214 : cx.vrow 214 4 = false ∧ cx.vrow 214 5 = false := by
  refine ⟨?_, ?_⟩ <;> kernel_rfl
end Go.Proofs.Ytnbbhbbhgcipjaa.Am
