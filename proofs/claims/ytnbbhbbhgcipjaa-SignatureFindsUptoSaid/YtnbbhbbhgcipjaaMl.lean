/-
  What is read of the arguments is immutable data: the building stones.
  What is read of the arguments: terms and declarations.
-/
import Derived.Test.YtnbbhbbhgcipjaaMh
import Derived.Test.YtnbbhbbhgcipjaaRows
import Derived.WideKeyArgs
import Derived.OpenShut
import Derived.KernelRfl
set_option linter.unusedVariables false
set_option linter.unnecessarySimpa false
set_option linter.unusedSimpArgs false
set_option linter.unusedSectionVars false
namespace Go.Proofs.Ytnbbhbbhgcipjaa.Am
theorem All2.end_ {α β : Type} {R : α → β → Prop} : ∀ {l : List α} {m : List β} {a : α} {b : β}, All2 R l m → R a b → All2 R (l ++ [a]) (m ++ [b])
  | [], [], _, _, _, h => ⟨h, trivial⟩
  | _ :: _, _ :: _, _, _, hl, h => ⟨hl.1, All2.end_ hl.2 h⟩
  | [], _ :: _, _, _, hl, _ => hl.elim
  | _ :: _, [], _, _, hl, _ => hl.elim
abbrev No : Nat → Prop := fun _ => False
theorem bulk_one {H : Type} (d : DataW H) : 1 ≤ Rows.uptoBulk d := by
  cases d with
  | lit l => cases l <;> simp [Rows.uptoBulk]
  | _ => simp [Rows.uptoBulk]
theorem bulk_append {H : Type} (l r : List (DataW H)) : Rows.uptoBulkAll (l ++ r) = Rows.uptoBulkAll l + Rows.uptoBulkAll r := by
  induction l with
  | nil => simp [Rows.uptoBulkAll]
  | cons x l ih => simp only [List.cons_append, Rows.uptoBulkAll, ih]; omega
theorem bulk_mem {H : Type} {d : DataW H} {l : List (DataW H)} (h : d ∈ l) : Rows.uptoBulk d ≤ Rows.uptoBulkAll l := by
  induction l with
  | nil => cases h
  | cons x r ih =>
    simp only [Rows.uptoBulkAll]
    rcases List.mem_cons.1 h with e | e
    · subst e; omega
    · have := ih e; omega
theorem bulk_len {H : Type} (l : List (DataW H)) : l.length ≤ Rows.uptoBulkAll l := by
  induction l with
  | nil => simp [Rows.uptoBulkAll]
  | cons x r ih => have := bulk_one x; simp only [Rows.uptoBulkAll, List.length_cons]; omega
/-- The fields' types and offsets. -/
def flds (P : Program) (t : TypeId) : Option (List (TypeId × Nat)) := match P.underlying t with | some (.struct fs) => some (fs.toList.map fun f => (f.type, f.offset)) | _ => none
section
variable {P : Program} {w : World} {H : Type} {enc : TypeId × Value → H}
/-- Data for cells that are read. -/
def Rdc (w : World) (is : List Imm) (cs : List Value) : Prop := RepL w No No is cs ∧ ∀ v ∈ cs, v.oneCell' = true
theorem RepL.append {N Nq : Nat → Prop} : ∀ {cs ds : List Imm} {vs us : List Value}, RepL w N Nq cs vs → RepL w N Nq ds us → RepL w N Nq (cs ++ ds) (vs ++ us)
  | [], _, _, _, h, h' => by cases h; exact h'
  | _ :: _, _, _, _, ⟨v, vs, e, hv, h⟩, h' => by subst e; exact ⟨v, vs ++ _, rfl, hv, RepL.append h h'⟩
theorem Rdc.cut {is1 is2 : List Imm} {cs : List Value} {o n : Nat} (h1 : Rdc w is1 ((cs.drop o).take n)) (h2 : Rdc w is2 (cs.drop (o + n))) : Rdc w (is1 ++ is2) (cs.drop o) := by
  have e : cs.drop o = (cs.drop o).take n ++ cs.drop (o + n) := by rw [← List.drop_drop, List.take_append_drop]
  rw [e]
  refine ⟨RepL.append h1.1 h2.1, fun v hv => ?_⟩
  rcases List.mem_append.1 hv with hv | hv
  · exact h1.2 v hv
  · exact h2.2 v hv
theorem Rdc.nil {cs : List Value} {o : Nat} (h : cs.length ≤ o) : Rdc w [] (cs.drop o) := by
  rw [List.drop_eq_nil_of_le h]; exact ⟨rfl, by simp⟩
/-- What is read of a type is data: R, of a measure no greater than its bulk. -/
def Rds (enc : TypeId × Value → H) (P : Program) (w : World) (fuel : Nat) (t : TypeId) {α : Type} (R : α → List Imm → Prop) (mu : α → Nat) : Prop :=
  ∀ (cs : List Value) (x : DataW H × List MemPlace), DataW.trod enc P w 0 (fun _ => true) true fuel t cs = some x → Rows.uptoBulk x.1 ≤ 1048576 → ∃ a is, Rdc w is cs ∧ R a is ∧ mu a ≤ Rows.uptoBulk x.1
def IntE (n : Int) (is : List Imm) : Prop := is = [.i .i64 n] ∧ i64ok n
def StrE (s : ByteArray) (is : List Imm) : Prop := is = [.s s] ∧ s.size ≤ 1048576
def BoolE (b : Bool) (is : List Imm) : Prop := is = [.b b]
/-- A slice of elements of so many cells. -/
def SlE {α : Type} (c : Nat) (R : α → List Imm → Prop) (l : List α) (is : List Imm) : Prop := ∃ z t es, is = [.sl z false t es] ∧ All2 R l es ∧ (z = c ∨ es = []) ∧ es.length ≤ 1048576
theorem Rds.int {fuel : Nat} {t : TypeId} (ht : P.underlying t = some (.int .i64)) : Rds enc P w fuel t IntE (fun _ => 1) := by
  intro cs x h _
  obtain ⟨n, rfl, rfl, hw⟩ := DataW.trod_int ht h
  have hx : i64ok n := by simpa [Lit.wf, IntKind.min, IntKind.max, IntKind.signed, IntKind.bits, i64ok] using hw
  exact ⟨n, [.i .i64 n], ⟨⟨_, _, rfl, rfl, rfl⟩, by simp [Value.oneCell']⟩, ⟨rfl, hx⟩, bulk_one _⟩
theorem Rds.str {fuel : Nat} {t : TypeId} (ht : P.underlying t = some .string) : Rds enc P w fuel t StrE (fun s => s.size) := by
  intro cs x h hb
  obtain ⟨s, rfl, rfl, hw⟩ := DataW.trod_string ht h
  have : s.size + 1 = Rows.uptoBulk (DataW.lit (H := H) (.string s.data.toList)) := by simp [Rows.uptoBulk]
  refine ⟨s, [.s s], ⟨⟨_, _, rfl, rfl, rfl⟩, by simp [Value.oneCell']⟩, ⟨rfl, ?_⟩, ?_⟩
  · have hb' : Rows.uptoBulk (DataW.lit (H := H) (.string s.data.toList)) ≤ 1048576 := hb
    omega
  · show s.size ≤ Rows.uptoBulk (DataW.lit (H := H) (.string s.data.toList))
    omega
theorem Rds.bool {fuel : Nat} {t : TypeId} (ht : P.underlying t = some .bool) : Rds enc P w fuel t BoolE (fun _ => 1) := by
  intro cs x h _
  obtain ⟨b, rfl, rfl⟩ := DataW.trod_bool ht h
  exact ⟨b, [.b b], ⟨⟨_, _, rfl, rfl, rfl⟩, by simp [Value.oneCell']⟩, rfl, bulk_one _⟩
theorem addr_add {a : Addr} (h : a.spot = none) (n m : Nat) : (a.add n).add m = ⟨a.block, a.off + n + m, none⟩ := by
  obtain ⟨b, o, s⟩ := a
  cases h
  unfold Addr.add
  by_cases h1 : n = 0 <;> by_cases h2 : m = 0 <;> simp [h1, h2]
theorem Rds.slice {α : Type} {R : α → List Imm → Prop} {mu : α → Nat} {fuel : Nat} {t e : TypeId} {c : Nat} (ht : P.underlying t = some (.slice e)) (hc : P.cellsOf e = c) (hc0 : 0 < c) (he : ∀ n, fuel = n + 1 → Rds enc P w n e R mu) :
    Rds enc P w fuel t (SlE c R) (fun l => (l.map mu).sum + 1) := by
  intro cs x h hb
  rcases DataW.trod_slice ht h with ⟨rfl, rfl⟩ | ⟨a, len, cap, elems, rest, n, hf, rfl, rfl, h0, hlc, hcap, hlen, hel, hre⟩
  · exact ⟨[], [.sl 1 false true []], ⟨⟨_, _, rfl, ⟨0, by simp, by simp, .inl ⟨rfl, rfl, rfl⟩⟩, rfl⟩, by simp [Value.oneCell']⟩, ⟨1, true, [], rfl, trivial, .inr rfl, by simp⟩, by simp [Rows.uptoBulk]⟩
  · subst hc
    have he := he n hf
    have hb' : Rows.uptoBulkAll (elems.map (·.1)) + Rows.uptoBulkAll (rest.map (·.1)) + 1 ≤ 1048576 := by simpa [Rows.uptoBulk] using hb
    have one : ∀ i, i < len → ∃ y ci, elems[i]? = some y ∧ w.cells? 0 (a.add (i * P.cellsOf e)) (P.cellsOf e) = some ci ∧ DataW.trod enc P w 0 (fun _ => true) true n e ci = some y := fun i hi => by
      have h1 := hel i hi
      have h2 : elems[i]? = some elems[i] := List.getElem?_eq_getElem (by omega)
      rw [h2] at h1
      obtain ⟨ci, hci, ht⟩ := Option.bind_eq_some_iff.1 h1
      exact ⟨_, ci, h2, hci, ht⟩
    have hsp : 0 < len → a.spot = none := fun hl => by
      obtain ⟨y, ci, _, hci, _⟩ := one 0 hl
      obtain ⟨_, hl1, hl2⟩ := World.cells?_some hci
      have := hl2 0 hc0
      have e0 : (a.add (0 * P.cellsOf e)).add 0 = a := by simp [Addr.add]
      rw [e0, List.getElem?_eq_getElem (by omega)] at this
      unfold World.cell? at this
      cases hs : a.spot with
      | none => rfl
      | some s => rw [hs] at this; split at this <;> simp at this
    have build : ∀ k, k ≤ len → ∃ (l : List α) (es : List (List Imm)), es.length = k ∧ All2 R l es ∧ (∀ j r, es[j]? = some r → r.length = P.cellsOf e ∧ RepCells w No No a.block (a.off + j * P.cellsOf e) r) ∧ (l.map mu).sum ≤ Rows.uptoBulkAll ((elems.take k).map (·.1)) := by
      intro k
      induction k with
      | zero => intro _; exact ⟨[], [], rfl, trivial, by simp, by simp [Rows.uptoBulkAll]⟩
      | succ k ih =>
        intro hk
        obtain ⟨l, es, hl, hR, hC, hs⟩ := ih (by omega)
        obtain ⟨y, ci, hy, hci, hty⟩ := one k (by omega)
        have hyb : Rows.uptoBulk y.1 ≤ 1048576 := by
          have := bulk_mem (List.mem_map_of_mem (f := (·.1)) (List.mem_of_getElem? hy)); omega
        obtain ⟨v, is, ⟨hrep, hone⟩, hRv, hm⟩ := he ci y hty hyb
        obtain ⟨_, hl1, hl2⟩ := World.cells?_some hci
        have hil : is.length = P.cellsOf e := by rw [RepL.length hrep]; exact hl1
        refine ⟨l ++ [v], es ++ [is], by simp [hl], All2.end_ hR hRv, fun j r hj => ?_, ?_⟩
        · by_cases hjk : j < k
          · rw [List.getElem?_append_left (by omega)] at hj; exact hC j r hj
          · have hjk' : j = k := by
              have := (List.getElem?_eq_some_iff.1 hj).1
              simp [hl] at this; omega
            subst hjk'
            rw [List.getElem?_append_right (by omega), hl, Nat.sub_self] at hj
            simp at hj
            subst hj
            refine ⟨hil, RepCells.of_get fun i c hic => ?_⟩
            obtain ⟨u, hu, hr⟩ := RepL.get hrep hic
            have hi : i < P.cellsOf e := by have := (List.getElem?_eq_some_iff.1 hic).1; omega
            have := hl2 i hi
            rw [addr_add (hsp (by omega)), hu] at this
            exact ⟨u, this, hone u (List.mem_of_getElem? hu), hr⟩
        · rw [List.take_add_one, hy, List.map_append, List.map_append, bulk_append, List.sum_append]
          have : Rows.uptoBulkAll (List.map (fun x => x.fst) (some y).toList) = Rows.uptoBulk y.1 := by simp [Rows.uptoBulkAll]
          rw [this]
          simp only [List.map_cons, List.map_nil, List.sum_cons, List.sum_nil]
          omega
    obtain ⟨l, es, hl, hR, hC, hs⟩ := build len (Nat.le_refl _)
    have hlb : len ≤ 1048576 := by
      have := bulk_len (elems.map (·.1)); rw [List.length_map] at this; omega
    refine ⟨l, [.sl (P.cellsOf e) false false es], ⟨⟨_, _, rfl, ⟨cap, by omega, by simp, .inr ⟨a.block, a.off, a.spot, by rw [hl], fun hne => ?_, RepRows.of_get fun j r hj => hC j r hj⟩⟩, rfl⟩, by simp [Value.oneCell']⟩, ⟨_, _, _, rfl, hR, .inl rfl, by omega⟩, ?_⟩
    · have hl0 : 0 < len := by rw [← hl]; exact List.length_pos_iff.2 hne
      refine ⟨hsp hl0, ?_, id⟩
      obtain ⟨y, ci, _, hci, _⟩ := one 0 hl0
      have := World.cells?_block hci hc0
      unfold Addr.add at this
      split at this <;> exact this
    · rw [List.take_of_length_le (by omega)] at hs
      simp only [Rows.uptoBulk]
      omega
theorem rd_struct {fuel : Nat} {t : TypeId} {L : List (TypeId × Nat)} {cs : List Value} {x : DataW H × List MemPlace} (h0 : flds P t = some L) (h : DataW.trod enc P w 0 (fun _ => true) true fuel t cs = some x) :
    ∃ (xs : List (DataW H × List MemPlace)) (n : Nat), fuel = n + 1 ∧ x.1 = .agg (xs.map (·.1)) ∧ cs.length = P.cellsOf t ∧ xs.length = L.length ∧
      ∀ (i : Nat) (p : TypeId × Nat), L[i]? = some p → DataW.trod enc P w 0 (fun _ => true) true n p.1 ((cs.drop p.2).take (P.cellsOf p.1)) = xs[i]? := by
  unfold flds at h0
  split at h0
  · rename_i fs hfs
    simp only [Option.some.injEq] at h0
    subst h0
    obtain ⟨xs, n, hf, rfl, hl, hx, hi⟩ := DataW.trod_struct hfs h
    refine ⟨xs, n, hf, rfl, hl, by simpa using hx, fun i p hp => ?_⟩
    rw [List.getElem?_map] at hp
    obtain ⟨f, hf, rfl⟩ := Option.map_eq_some_iff.1 hp
    exact hi i f (by simpa using hf)
  · cases h0
end
end Go.Proofs.Ytnbbhbbhgcipjaa.Am

namespace Go.Proofs.Ytnbbhbbhgcipjaa.Am
theorem u3 : Try.prog.underlying 3 = some (.int .i64) := by kernel_rfl
theorem u4 : Try.prog.underlying 4 = some .bool := by kernel_rfl
theorem u9 : Try.prog.underlying 9 = some .string := by kernel_rfl
theorem u149 : Try.prog.underlying 149 = some (.slice 201) := by kernel_rfl
theorem u23 : Try.prog.underlying 23 = some (.slice 151) := by kernel_rfl
theorem u24 : Try.prog.underlying 24 = some (.slice 26) := by kernel_rfl
theorem u22 : Try.prog.underlying 22 = some (.slice 54) := by kernel_rfl
theorem u49 : Try.prog.underlying 49 = some (.slice 121) := by kernel_rfl
theorem u52 : Try.prog.underlying 52 = some (.slice 126) := by kernel_rfl
theorem u122 : Try.prog.underlying 122 = some (.slice 185) := by kernel_rfl
theorem fl201 : flds Try.prog 201 = some [(3, 0), (3, 1)] := by kernel_rfl
theorem fl151 : flds Try.prog 151 = some [(3, 0), (149, 1)] := by kernel_rfl
theorem fl26 : flds Try.prog 26 = some [(3, 0), (3, 1), (9, 2), (23, 3), (24, 4)] := by kernel_rfl
theorem fl121 : flds Try.prog 121 = some [(9, 0), (26, 1)] := by kernel_rfl
theorem fl124 : flds Try.prog 124 = some [(3, 0), (26, 1), (3, 6), (122, 7)] := by kernel_rfl
theorem fl185 : flds Try.prog 185 = some [(9, 0), (4, 1), (124, 2)] := by kernel_rfl
theorem fl126 : flds Try.prog 126 = some [(9, 0), (26, 1), (3, 6), (124, 7)] := by kernel_rfl
theorem fl51 : flds Try.prog 51 = some [(3, 0), (26, 1), (24, 6)] := by kernel_rfl
theorem fl54 : flds Try.prog 54 = some [(3, 0), (9, 1), (3, 2), (26, 3), (26, 8), (3, 13), (49, 14), (51, 15), (52, 22)] := by kernel_rfl
theorem c3 : Try.prog.cellsOf 3 = 1 := by kernel_rfl
theorem c9 : Try.prog.cellsOf 9 = 1 := by kernel_rfl
theorem c4 : Try.prog.cellsOf 4 = 1 := by kernel_rfl
theorem c201 : Try.prog.cellsOf 201 = 2 := by kernel_rfl
theorem c151 : Try.prog.cellsOf 151 = 2 := by kernel_rfl
theorem c26 : Try.prog.cellsOf 26 = 5 := by kernel_rfl
theorem c121 : Try.prog.cellsOf 121 = 6 := by kernel_rfl
theorem c124 : Try.prog.cellsOf 124 = 8 := by kernel_rfl
theorem c185 : Try.prog.cellsOf 185 = 10 := by kernel_rfl
theorem c126 : Try.prog.cellsOf 126 = 15 := by kernel_rfl
theorem c51 : Try.prog.cellsOf 51 = 7 := by kernel_rfl
theorem c54 : Try.prog.cellsOf 54 = 23 := by kernel_rfl
theorem c149 : Try.prog.cellsOf 149 = 1 := by kernel_rfl
theorem c23 : Try.prog.cellsOf 23 = 1 := by kernel_rfl
theorem c24 : Try.prog.cellsOf 24 = 1 := by kernel_rfl
theorem c22 : Try.prog.cellsOf 22 = 1 := by kernel_rfl
theorem c49 : Try.prog.cellsOf 49 = 1 := by kernel_rfl
theorem c52 : Try.prog.cellsOf 52 = 1 := by kernel_rfl
theorem c122 : Try.prog.cellsOf 122 = 1 := by kernel_rfl
theorem len2 {α : Type} {l : List α} (h : l.length = 2) : ∃ a b, l = [a, b] := by
  rcases l with _ | ⟨a, _ | ⟨b, _ | ⟨_, _⟩⟩⟩ <;> simp at h
  exact ⟨a, b, rfl⟩
theorem len3 {α : Type} {l : List α} (h : l.length = 3) : ∃ a b c, l = [a, b, c] := by
  rcases l with _ | ⟨a, _ | ⟨b, _ | ⟨c, _ | ⟨_, _⟩⟩⟩⟩ <;> simp at h
  exact ⟨a, b, c, rfl⟩
theorem len4 {α : Type} {l : List α} (h : l.length = 4) : ∃ a b c d, l = [a, b, c, d] := by
  rcases l with _ | ⟨a, _ | ⟨b, _ | ⟨c, _ | ⟨d, _ | ⟨_, _⟩⟩⟩⟩⟩ <;> simp at h
  exact ⟨a, b, c, d, rfl⟩
theorem len5 {α : Type} {l : List α} (h : l.length = 5) : ∃ a b c d e, l = [a, b, c, d, e] := by
  rcases l with _ | ⟨a, _ | ⟨b, _ | ⟨c, _ | ⟨d, _ | ⟨e, _ | ⟨_, _⟩⟩⟩⟩⟩⟩ <;> simp at h
  exact ⟨a, b, c, d, e, rfl⟩
theorem len8 {α : Type} {l : List α} (h : l.length = 8) : ∃ a b c d e f g i, l = [a, b, c, d, e, f, g, i] := by
  rcases l with _ | ⟨a, _ | ⟨b, _ | ⟨c, _ | ⟨d, _ | ⟨e, _ | ⟨f, _ | ⟨g, _ | ⟨i, _ | ⟨_, _⟩⟩⟩⟩⟩⟩⟩⟩⟩ <;> simp at h
  exact ⟨a, b, c, d, e, f, g, i, rfl⟩
theorem len9 {α : Type} {l : List α} (h : l.length = 9) : ∃ a b c d e f g i j, l = [a, b, c, d, e, f, g, i, j] := by
  rcases l with _ | ⟨a, _ | ⟨b, _ | ⟨c, _ | ⟨d, _ | ⟨e, _ | ⟨f, _ | ⟨g, _ | ⟨i, _ | ⟨j, _ | ⟨_, _⟩⟩⟩⟩⟩⟩⟩⟩⟩⟩ <;> simp at h
  exact ⟨a, b, c, d, e, f, g, i, j, rfl⟩
theorem nodesL_sum : ∀ ts : List Term, Term.nodesL ts = (ts.map Term.nodes).sum
  | [] => rfl
  | t :: ts => by rw [Term.nodesL, List.map_cons, List.sum_cons, nodesL_sum ts]
theorem le_lim {n : Nat} (h : n ≤ 1048576) : n ≤ lim := Nat.le_trans h (by decide)
theorem Tree.Enc.cells {t : Tree} {r : List Imm} (h : t.Enc r) : ∃ k b0 b1 b2 b3 b4 v y, r = [k, b0, b1, b2, b3, b4, v, y] ∧ True := by
  obtain ⟨k, b, v, brs, b0, b1, b2, b3, b4, z, ti, es, _, rfl, _⟩ := h.inv
  exact ⟨_, _, _, _, _, _, _, _, rfl, trivial⟩
section
variable {w : World} {H : Type} {enc : TypeId × Value → H}
theorem rd201 {fuel : Nat} : Rds enc Try.prog w fuel 201 EncV (fun _ => 1) := by
  intro cs x h hb
  obtain ⟨xs, n, rfl, hx, hl, hxl, hi⟩ := rd_struct fl201 h
  obtain ⟨x0, x1, rfl⟩ := len2 hxl
  rw [hx] at hb
  simp only [List.map_cons, List.map_nil, Rows.uptoBulk, Rows.uptoBulkAll] at hb
  have h0 := hi 0 (3, 0) rfl
  have h1 := hi 1 (3, 1) rfl
  obtain ⟨a0, i0, r0, e0, m0⟩ := Rds.int u3 _ _ h0 (by omega)
  obtain ⟨a1, i1, r1, e1, m1⟩ := Rds.int u3 _ _ h1 (by omega)
  simp only [c3] at r0 r1
  have hr : Rdc w _ cs := (r0.cut (o := 0) (n := 1) (r1.cut (o := 1) (n := 1) (Rdc.nil (o := 2) (by rw [hl, c201]; exact Nat.le_refl _))))
  rw [hx]
  simp only [List.map_cons, List.map_nil, Rows.uptoBulk, Rows.uptoBulkAll]
  obtain ⟨rfl, e0⟩ := e0
  obtain ⟨rfl, e1⟩ := e1
  exact ⟨(a0, a1), _, hr, ⟨rfl, e0, e1⟩, by omega⟩
theorem rd149 {fuel : Nat} : Rds enc Try.prog w fuel 149 (SlE 2 EncV) (fun l => (l.map fun _ => 1).sum + 1) := Rds.slice u149 c201 (by decide) fun n _ => rd201
theorem rd151 {fuel : Nat} : Rds enc Try.prog w fuel 151 Level.Enc (fun _ => 1) := by
  intro cs x h hb
  obtain ⟨xs, n, rfl, hx, hl, hxl, hi⟩ := rd_struct fl151 h
  obtain ⟨x0, x1, rfl⟩ := len2 hxl
  rw [hx] at hb
  simp only [List.map_cons, List.map_nil, Rows.uptoBulk, Rows.uptoBulkAll] at hb
  have h0 := hi 0 (3, 0) rfl
  have h1 := hi 1 (149, 1) rfl
  obtain ⟨a0, i0, r0, e0, m0⟩ := Rds.int u3 _ _ h0 (by omega)
  obtain ⟨a1, i1, r1, e1, m1⟩ := rd149 _ _ h1 (by omega)
  simp only [c149, c3] at r0 r1
  have hr : Rdc w _ cs := (r0.cut (o := 0) (n := 1) (r1.cut (o := 1) (n := 1) (Rdc.nil (o := 2) (by rw [hl, c151]; exact Nat.le_refl _))))
  rw [hx]
  simp only [List.map_cons, List.map_nil, Rows.uptoBulk, Rows.uptoBulkAll]
  obtain ⟨rfl, e0⟩ := e0
  obtain ⟨z, t, es, rfl, he, hz, hl⟩ := e1
  exact ⟨⟨a0, a1⟩, _, hr, ⟨z, t, es, rfl, e0, hz, le_lim hl, he⟩, by omega⟩
theorem rd23 {fuel : Nat} : Rds enc Try.prog w fuel 23 (SlE 2 Level.Enc) (fun l => (l.map fun _ => 1).sum + 1) := Rds.slice u23 c151 (by decide) fun n _ => rd151
theorem rd26_24 : ∀ fuel : Nat, Rds enc Try.prog w fuel 26 Term.Enc Term.nodes ∧ Rds enc Try.prog w fuel 24 (SlE 5 Term.Enc) (fun l => (l.map Term.nodes).sum + 1) := by
  intro fuel
  induction fuel with
  | zero => exact ⟨fun cs x h => by simp [DataW.trod] at h, fun cs x h => by simp [DataW.trod] at h⟩
  | succ m ih =>
  refine ⟨fun cs x h hb => ?_, Rds.slice u24 c26 (by decide) fun n hn => by cases hn; exact ih.1⟩
  obtain ⟨xs, n, hmn, hx, hl, hxl, hi⟩ := rd_struct fl26 h
  cases hmn
  obtain ⟨x0, x1, x2, x3, x4, rfl⟩ := len5 hxl
  rw [hx] at hb
  simp only [List.map_cons, List.map_nil, Rows.uptoBulk, Rows.uptoBulkAll] at hb
  have h0 := hi 0 (3, 0) rfl
  have h1 := hi 1 (3, 1) rfl
  have h2 := hi 2 (9, 2) rfl
  have h3 := hi 3 (23, 3) rfl
  have h4 := hi 4 (24, 4) rfl
  obtain ⟨a0, i0, r0, e0, m0⟩ := Rds.int u3 _ _ h0 (by omega)
  obtain ⟨a1, i1, r1, e1, m1⟩ := Rds.int u3 _ _ h1 (by omega)
  obtain ⟨a2, i2, r2, e2, m2⟩ := Rds.str u9 _ _ h2 (by omega)
  obtain ⟨a3, i3, r3, e3, m3⟩ := rd23 _ _ h3 (by omega)
  obtain ⟨a4, i4, r4, e4, m4⟩ := ih.2 _ _ h4 (by omega)
  simp only [c23, c24, c3, c9] at r0 r1 r2 r3 r4
  have hr : Rdc w _ cs := (r0.cut (o := 0) (n := 1) (r1.cut (o := 1) (n := 1) (r2.cut (o := 2) (n := 1) (r3.cut (o := 3) (n := 1) (r4.cut (o := 4) (n := 1) (Rdc.nil (o := 5) (by rw [hl, c26]; exact Nat.le_refl _)))))))
  rw [hx]
  simp only [List.map_cons, List.map_nil, Rows.uptoBulk, Rows.uptoBulkAll]
  obtain ⟨rfl, e0⟩ := e0
  obtain ⟨rfl, e1⟩ := e1
  obtain ⟨rfl, e2⟩ := e2
  obtain ⟨lz, lt, les, rfl, hle, hlz, hll⟩ := e3
  obtain ⟨kz, kt, kes, rfl, hke, hkz, hkl⟩ := e4
  refine ⟨.mk a0 a1 a2 a3 a4, _, hr, ?_, ?_⟩
  · unfold Term.Enc
    exact ⟨_, _, _, _, _, _, rfl, e0, e1, le_lim e2, hlz, le_lim hll, hle, hkz, le_lim hkl, (Term.Encs_eq _ _).2 hke⟩
  · have m4 : (a4.map Term.nodes).sum + 1 ≤ Rows.uptoBulk x4.1 := m4
    rw [Term.nodes, nodesL_sum]; omega
theorem rd26 {fuel : Nat} : Rds enc Try.prog w fuel 26 Term.Enc Term.nodes := (rd26_24 fuel).1
theorem rd24 {fuel : Nat} : Rds enc Try.prog w fuel 24 (SlE 5 Term.Enc) (fun l => (l.map Term.nodes).sum + 1) := (rd26_24 fuel).2
theorem rd121 {fuel : Nat} : Rds enc Try.prog w fuel 121 Ctor.Enc (fun _ => 1) := by
  intro cs x h hb
  obtain ⟨xs, n, rfl, hx, hl, hxl, hi⟩ := rd_struct fl121 h
  obtain ⟨x0, x1, rfl⟩ := len2 hxl
  rw [hx] at hb
  simp only [List.map_cons, List.map_nil, Rows.uptoBulk, Rows.uptoBulkAll] at hb
  have h0 := hi 0 (9, 0) rfl
  have h1 := hi 1 (26, 1) rfl
  obtain ⟨a0, i0, r0, e0, m0⟩ := Rds.str u9 _ _ h0 (by omega)
  obtain ⟨a1, i1, r1, e1, m1⟩ := rd26 _ _ h1 (by omega)
  simp only [c26, c9] at r0 r1
  have hr : Rdc w _ cs := (r0.cut (o := 0) (n := 1) (r1.cut (o := 1) (n := 5) (Rdc.nil (o := 6) (by rw [hl, c121]; exact Nat.le_refl _))))
  rw [hx]
  simp only [List.map_cons, List.map_nil, Rows.uptoBulk, Rows.uptoBulkAll]
  obtain ⟨rfl, e0⟩ := e0
  obtain ⟨t0, t1, t2, t3, t4, rfl⟩ := len5 e1.length
  exact ⟨⟨a0, a1⟩, _, hr, ⟨t0, t1, t2, t3, t4, rfl, le_lim e0, e1, le_lim (show a1.nodes ≤ 1048576 by omega)⟩, by omega⟩
theorem rd49 {fuel : Nat} : Rds enc Try.prog w fuel 49 (SlE 6 Ctor.Enc) (fun l => (l.map fun _ => 1).sum + 1) := Rds.slice u49 c121 (by decide) fun n _ => rd121
theorem rd_tree : ∀ fuel : Nat, Rds enc Try.prog w fuel 124 Tree.Enc (fun _ => 1) ∧ Rds enc Try.prog w fuel 122 (SlE 10 Branch.Enc) (fun l => (l.map fun _ => 1).sum + 1) ∧ Rds enc Try.prog w fuel 185 Branch.Enc (fun _ => 1) := by
  intro fuel
  induction fuel with
  | zero => exact ⟨fun cs x h => by simp [DataW.trod] at h, fun cs x h => by simp [DataW.trod] at h, fun cs x h => by simp [DataW.trod] at h⟩
  | succ m ih =>
  refine ⟨fun cs x h hb => ?_, Rds.slice u122 c185 (by decide) fun n hn => (by cases hn; exact ih.2.2), fun cs x h hb => ?_⟩
  · obtain ⟨xs, n, hmn, hx, hl, hxl, hi⟩ := rd_struct fl124 h
    cases hmn
    obtain ⟨x0, x1, x2, x3, rfl⟩ := len4 hxl
    rw [hx] at hb
    simp only [List.map_cons, List.map_nil, Rows.uptoBulk, Rows.uptoBulkAll] at hb
    have h0 := hi 0 (3, 0) rfl
    have h1 := hi 1 (26, 1) rfl
    have h2 := hi 2 (3, 6) rfl
    have h3 := hi 3 (122, 7) rfl
    obtain ⟨a0, i0, r0, e0, m0⟩ := Rds.int u3 _ _ h0 (by omega)
    obtain ⟨a1, i1, r1, e1, m1⟩ := rd26 _ _ h1 (by omega)
    obtain ⟨a2, i2, r2, e2, m2⟩ := Rds.int u3 _ _ h2 (by omega)
    obtain ⟨a3, i3, r3, e3, m3⟩ := ih.2.1 _ _ h3 (by omega)
    simp only [c122, c26, c3] at r0 r1 r2 r3
    have hr : Rdc w _ cs := (r0.cut (o := 0) (n := 1) (r1.cut (o := 1) (n := 5) (r2.cut (o := 6) (n := 1) (r3.cut (o := 7) (n := 1) (Rdc.nil (o := 8) (by rw [hl, c124]; exact Nat.le_refl _))))))
    rw [hx]
    simp only [List.map_cons, List.map_nil, Rows.uptoBulk, Rows.uptoBulkAll]
    obtain ⟨rfl, e0⟩ := e0
    obtain ⟨t0, t1, t2, t3, t4, rfl⟩ := len5 e1.length
    obtain ⟨rfl, e2⟩ := e2
    obtain ⟨z, t, es, rfl, he, hz, hl⟩ := e3
    refine ⟨.mk a0 a1 a2 a3, _, hr, ?_, by omega⟩
    rw [Tree.Enc]
    exact ⟨t0, t1, t2, t3, t4, z, t, es, rfl, e0, e2, e1, hz, le_lim hl, (Branch.Encs_eq _ _).2 he⟩
  · obtain ⟨xs, n, hmn, hx, hl, hxl, hi⟩ := rd_struct fl185 h
    cases hmn
    obtain ⟨x0, x1, x2, rfl⟩ := len3 hxl
    rw [hx] at hb
    simp only [List.map_cons, List.map_nil, Rows.uptoBulk, Rows.uptoBulkAll] at hb
    have h0 := hi 0 (9, 0) rfl
    have h1 := hi 1 (4, 1) rfl
    have h2 := hi 2 (124, 2) rfl
    obtain ⟨a0, i0, r0, e0, m0⟩ := Rds.str u9 _ _ h0 (by omega)
    obtain ⟨a1, i1, r1, e1, m1⟩ := Rds.bool u4 _ _ h1 (by omega)
    obtain ⟨a2, i2, r2, e2, m2⟩ := ih.1 _ _ h2 (by omega)
    simp only [c124, c4, c9] at r0 r1 r2
    have hr : Rdc w _ cs := (r0.cut (o := 0) (n := 1) (r1.cut (o := 1) (n := 1) (r2.cut (o := 2) (n := 8) (Rdc.nil (o := 10) (by rw [hl, c185]; exact Nat.le_refl _)))))
    rw [hx]
    simp only [List.map_cons, List.map_nil, Rows.uptoBulk, Rows.uptoBulkAll]
    obtain ⟨rfl, e0⟩ := e0
    cases e1
    obtain ⟨b0, b1, b2, b3, b4, z, t, es, hi2, _⟩ := (show Tree.Enc a2 i2 from e2).cells
    subst hi2
    refine ⟨.mk a0 a1 a2, _, hr, ?_, by omega⟩
    rw [Branch.Enc]
    exact ⟨_, _, _, _, _, _, _, _, rfl, le_lim e0, e2⟩
theorem rd126 {fuel : Nat} : Rds enc Try.prog w fuel 126 Fn.Enc (fun _ => 1) := by
  intro cs x h hb
  obtain ⟨xs, n, rfl, hx, hl, hxl, hi⟩ := rd_struct fl126 h
  obtain ⟨x0, x1, x2, x3, rfl⟩ := len4 hxl
  rw [hx] at hb
  simp only [List.map_cons, List.map_nil, Rows.uptoBulk, Rows.uptoBulkAll] at hb
  have h0 := hi 0 (9, 0) rfl
  have h1 := hi 1 (26, 1) rfl
  have h2 := hi 2 (3, 6) rfl
  have h3 := hi 3 (124, 7) rfl
  obtain ⟨a0, i0, r0, e0, m0⟩ := Rds.str u9 _ _ h0 (by omega)
  obtain ⟨a1, i1, r1, e1, m1⟩ := rd26 _ _ h1 (by omega)
  obtain ⟨a2, i2, r2, e2, m2⟩ := Rds.int u3 _ _ h2 (by omega)
  obtain ⟨a3, i3, r3, e3, m3⟩ := (rd_tree _).1 _ _ h3 (by omega)
  simp only [c124, c26, c3, c9] at r0 r1 r2 r3
  have hr : Rdc w _ cs := (r0.cut (o := 0) (n := 1) (r1.cut (o := 1) (n := 5) (r2.cut (o := 6) (n := 1) (r3.cut (o := 7) (n := 8) (Rdc.nil (o := 15) (by rw [hl, c126]; exact Nat.le_refl _))))))
  rw [hx]
  simp only [List.map_cons, List.map_nil, Rows.uptoBulk, Rows.uptoBulkAll]
  obtain ⟨rfl, e0⟩ := e0
  obtain ⟨t0, t1, t2, t3, t4, rfl⟩ := len5 e1.length
  obtain ⟨rfl, e2⟩ := e2
  obtain ⟨b0, b1, b2, b3, b4, z, t, es, hi3, _⟩ := (show Tree.Enc a3 i3 from e3).cells
  subst hi3
  exact ⟨⟨a0, a1, a2, a3⟩, _, hr, ⟨_, _, _, _, _, _, _, _, _, _, _, _, _, rfl, le_lim e0, e1, e2, e3⟩, by omega⟩
theorem rd52 {fuel : Nat} : Rds enc Try.prog w fuel 52 (SlE 15 Fn.Enc) (fun l => (l.map fun _ => 1).sum + 1) := Rds.slice u52 c126 (by decide) fun n _ => rd126
def RecE (a : Int × Term × List Term) (r : List Imm) : Prop := ∃ u0 u1 u2 u3 u4 z t es, r = [.i .i64 a.1, u0, u1, u2, u3, u4, .sl z false t es] ∧ i64ok a.1 ∧ a.2.1.Enc [u0, u1, u2, u3, u4] ∧ All2 Term.Enc a.2.2 es ∧ (z = 5 ∨ es = []) ∧ es.length ≤ 1048576
theorem rd51 {fuel : Nat} : Rds enc Try.prog w fuel 51 RecE (fun _ => 1) := by
  intro cs x h hb
  obtain ⟨xs, n, rfl, hx, hl, hxl, hi⟩ := rd_struct fl51 h
  obtain ⟨x0, x1, x2, rfl⟩ := len3 hxl
  rw [hx] at hb
  simp only [List.map_cons, List.map_nil, Rows.uptoBulk, Rows.uptoBulkAll] at hb
  have h0 := hi 0 (3, 0) rfl
  have h1 := hi 1 (26, 1) rfl
  have h2 := hi 2 (24, 6) rfl
  obtain ⟨a0, i0, r0, e0, m0⟩ := Rds.int u3 _ _ h0 (by omega)
  obtain ⟨a1, i1, r1, e1, m1⟩ := rd26 _ _ h1 (by omega)
  obtain ⟨a2, i2, r2, e2, m2⟩ := rd24 _ _ h2 (by omega)
  simp only [c24, c26, c3] at r0 r1 r2
  have hr : Rdc w _ cs := (r0.cut (o := 0) (n := 1) (r1.cut (o := 1) (n := 5) (r2.cut (o := 6) (n := 1) (Rdc.nil (o := 7) (by rw [hl, c51]; exact Nat.le_refl _)))))
  rw [hx]
  simp only [List.map_cons, List.map_nil, Rows.uptoBulk, Rows.uptoBulkAll]
  obtain ⟨rfl, e0⟩ := e0
  obtain ⟨t0, t1, t2, t3, t4, rfl⟩ := len5 e1.length
  obtain ⟨z, t, es, rfl, he, hz, hl⟩ := e2
  exact ⟨(a0, a1, a2), _, hr, ⟨_, _, _, _, _, _, _, _, rfl, e0, e1, he, hz, hl⟩, by omega⟩
theorem rd54 {fuel : Nat} : Rds enc Try.prog w fuel 54 Decl.Enc (fun _ => 1) := by
  intro cs x h hb
  obtain ⟨xs, n, rfl, hx, hl, hxl, hi⟩ := rd_struct fl54 h
  obtain ⟨x0, x1, x2, x3, x4, x5, x6, x7, x8, rfl⟩ := len9 hxl
  rw [hx] at hb
  simp only [List.map_cons, List.map_nil, Rows.uptoBulk, Rows.uptoBulkAll] at hb
  have h0 := hi 0 (3, 0) rfl
  have h1 := hi 1 (9, 1) rfl
  have h2 := hi 2 (3, 2) rfl
  have h3 := hi 3 (26, 3) rfl
  have h4 := hi 4 (26, 8) rfl
  have h5 := hi 5 (3, 13) rfl
  have h6 := hi 6 (49, 14) rfl
  have h7 := hi 7 (51, 15) rfl
  have h8 := hi 8 (52, 22) rfl
  obtain ⟨a0, i0, r0, e0, m0⟩ := Rds.int u3 _ _ h0 (by omega)
  obtain ⟨a1, i1, r1, e1, m1⟩ := Rds.str u9 _ _ h1 (by omega)
  obtain ⟨a2, i2, r2, e2, m2⟩ := Rds.int u3 _ _ h2 (by omega)
  obtain ⟨a3, i3, r3, e3, m3⟩ := rd26 _ _ h3 (by omega)
  obtain ⟨a4, i4, r4, e4, m4⟩ := rd26 _ _ h4 (by omega)
  obtain ⟨a5, i5, r5, e5, m5⟩ := Rds.int u3 _ _ h5 (by omega)
  obtain ⟨a6, i6, r6, e6, m6⟩ := rd49 _ _ h6 (by omega)
  obtain ⟨a7, i7, r7, e7, m7⟩ := rd51 _ _ h7 (by omega)
  obtain ⟨a8, i8, r8, e8, m8⟩ := rd52 _ _ h8 (by omega)
  simp only [c26, c3, c49, c51, c52, c9] at r0 r1 r2 r3 r4 r5 r6 r7 r8
  have hr : Rdc w _ cs := (r0.cut (o := 0) (n := 1) (r1.cut (o := 1) (n := 1) (r2.cut (o := 2) (n := 1) (r3.cut (o := 3) (n := 5) (r4.cut (o := 8) (n := 5) (r5.cut (o := 13) (n := 1) (r6.cut (o := 14) (n := 1) (r7.cut (o := 15) (n := 7) (r8.cut (o := 22) (n := 1) (Rdc.nil (o := 23) (by rw [hl, c54]; exact Nat.le_refl _)))))))))))
  rw [hx]
  simp only [List.map_cons, List.map_nil, Rows.uptoBulk, Rows.uptoBulkAll]
  obtain ⟨rfl, e0⟩ := e0
  obtain ⟨rfl, e1⟩ := e1
  obtain ⟨rfl, e2⟩ := e2
  obtain ⟨t0, t1, t2, t3, t4, rfl⟩ := len5 e3.length
  obtain ⟨v0, v1, v2, v3, v4, rfl⟩ := len5 e4.length
  obtain ⟨rfl, e5⟩ := e5
  obtain ⟨cz, ct, ces, rfl, hce, hcz, hcl⟩ := e6
  obtain ⟨u0, u1, u2, u3, u4, z, t, es, rfl, e70, e71, hre, hrz, hrl⟩ := e7
  obtain ⟨fz, ft, fes, rfl, hfe, hfz, hfl⟩ := e8
  exact ⟨⟨a0, a1, a2, a3, a4, a5, a6, a7.1, a7.2.1, a7.2.2, a8⟩, _, hr, ⟨_, _, _, _, _, _, _, _, _, _, _, _, _, _, _, _, _, _, _, _, _, _, _, _, rfl, e0, le_lim e1, e2, e3, e4, e5, hcz, le_lim hcl, hce, e70, e71, hrz, le_lim hrl, hre, hfz, le_lim hfl, hfe, le_lim (show a3.nodes ≤ 1048576 by omega)⟩, by omega⟩
theorem rd22 {fuel : Nat} : Rds enc Try.prog w fuel 22 (SlE 23 Decl.Enc) (fun l => (l.map fun _ => 1).sum + 1) := Rds.slice u22 c54 (by decide) fun n _ => rd54
end
end Go.Proofs.Ytnbbhbbhgcipjaa.Am
