/-
  The abstract machine: a deterministic, executable interpreter of the model's code over abstract values.
  What abstract values and heaps stand for in a world of the model.
  How the relation of abstract heap and world goes from step to step.
  Lemmas on values: scalars, cells, aggregates, reading and writing memory.
-/
import GoSem.Step
import Derived.ControlIn
import Derived.Laws.Append
import Derived.Laws.CopyRow
import Derived.Laws.Tables
set_option linter.unusedVariables false
set_option linter.unnecessarySimpa false
set_option linter.unusedSimpArgs false
set_option linter.unusedSectionVars false
namespace Go.Proofs.Ytnbbhbbhgcipjaa.Am

/-- Immutable data: immediate. -/
inductive Imm where
  | und
  | b (x : Bool) | i (k : IntKind) (x : Int) | s (x : ByteArray)
  | nilp | nilm | nilf | nili
  | sl (z : Nat) (q tight : Bool) (es : List (List Imm))
  | ip (z : Nat) (q : Bool) (es : List (List Imm)) (j off : Nat)
  | mp (q : Bool) (ks vs : List Imm)
  | agg (cs : List Imm)
  | tup (cs : List Imm)
  | fn (f : FuncId) (cap : List Imm)
  | ifc (t : TypeId) (v : Imm)
  deriving Inhabited

/-- Abstract values: immutable data, or references into the abstract heap. -/
inductive AV where
  | im (d : Imm)
  | top
  | ptr (l st j off : Nat)
  | sl (l st j n : Nat)
  | map (l : Nat)
  | fn (f : Fn) (cap : List AV)
  | agg (cs : List AV)
  | tup (cs : List AV)
  | ifc (t : TypeId) (v : AV)
  deriving Inhabited

abbrev Fr := List (Nat × AV)

/-- A pending jump out of a round. -/
inductive Jmp where
  | ret
  | exit (id : Nat)
  deriving Inhabited, DecidableEq

/-- Objects of the abstract heap. -/
inductive AObj where
  | row (es : List (List AV)) (z : Nat) (t : TypeId)
  | map (ks : List Imm) (vs : List AV)
  | loop (st : LoopState) (pend : Option Jmp) (fn : FuncId) (tmps : Fr) (params : List Tmp) (assign body : Code) (dfr : Nat)
  | dfr (done : Bool)
  | gone
  deriving Inhabited

abbrev AHeap := List AObj

inductive Req where
  | fn (f : FuncId) (args : List AV)
  | round (l : Nat) (args : List AV)

abbrev Oracle := Req → AHeap → Option (AV × AHeap)

inductive Ex where
  | nrm
  | exit (id : Nat)
  | ret
  | pan (d : Imm)

/-- What is put off: the block for the deferred calls of a loop over functions, or a call. -/
inductive Dfr where
  | mark (l : Nat)
  | fn (g : FuncId) (args : List AV)
/-- ds: what is put off till the end. -/
structure St where
  fr : Fr
  ds : List Dfr
  H : AHeap
/-- The mark of a call that has panicked. -/
def panV (d : Imm) : AV := .tup [.top, .im d]
def isPan : AV → Option Imm
  | .tup [.top, .im d] => some d
  | _ => none

/-- Hints: none of them is trusted. -/
structure Cx where
  P : Program
  keep : FuncId → Nat → Option (List Nat)
  cbox : FuncId → Tmp → Bool
  vrow : FuncId → Tmp → Bool
  own : FuncId → Bool
  shared : FuncId → Bool
  sched : FuncId → Nat → List Nat
  bs : FuncId → Bool
  fits : FuncId → Bool
  late : FuncId → Tmp → Bool

section
def szOf (P : Program) (t : TypeId) : Option Nat := (P.info? t).map (·.size)
def isAg (P : Program) (t : TypeId) : Option Bool :=
  match P.underlying t with
  | some (.struct _) => some true
  | some (.array _ _) => some true
  | some _ => some false
  | none => none
def fldOf (P : Program) (t : TypeId) (f : Nat) : Option (Nat × TypeId) :=
  match P.underlying t with
  | some (.struct fs) => (fs[f]?).map fun x => (x.offset, x.type)
  | _ => none
def elemOf (P : Program) (t : TypeId) : Option TypeId :=
  match P.underlying t with
  | some (.slice e) => some e
  | _ => none

/-- Scalars, back and forth. -/
def Imm.sval : Imm → Option Value
  | .b x => some (.bool x)
  | .i k x => some (.int k x)
  | .s x => some (.string x)
  | .nilp => some (.pointer none)
  | .nilm => some (.map none)
  | .nilf => some .nilFunc
  | .nili => some .nilIface
  | _ => none
/-- Scalars, and structs of scalars. -/
def Imm.val : Imm → Option Value
  | .agg cs => (cs.mapM Imm.sval).map fun vs => .agg vs.toArray
  | d => d.sval
def Imm.ofScal : Value → Option Imm
  | .bool x => some (.b x)
  | .int k x => some (.i k x)
  | .string x => some (.s x)
  | .pointer none => some .nilp
  | .map none => some .nilm
  | .nilFunc => some .nilf
  | .nilIface => some .nili
  | .slice none 0 0 => some (.sl 1 false true [])
  | _ => none
def Imm.ofVal : Value → Option Imm
  | .agg cs => (cs.toList.mapM Imm.ofScal).map .agg
  | v => Imm.ofScal v
def zeroImm (P : Program) (t : TypeId) : Option Imm := ((P.info? t).bind (·.zero)).bind Imm.ofVal

/-- May the value lie in one cell? -/
def Imm.one : Imm → Bool
  | .und | .agg _ | .tup _ => false
  | _ => true
def AV.one : AV → Bool
  | .im d => d.one
  | .top | .agg _ | .tup _ => false
  | _ => true
/-- May the value be stored? -/
def AV.storable : AV → Bool
  | .im (.agg _) => true
  | .agg _ => true
  | v => v.one
def Imm.flat : Imm → Bool
  | .und | .b _ | .i _ _ | .s _ | .nilp | .nilm | .nilf | .nili => true
  | _ => false
def Imm.flatR : Imm → Bool
  | .tup cs => cs.all Imm.flat
  | .agg cs => cs.all Imm.flat
  | d => d.flat
mutual
/-- Nothing lent in it. -/
def Imm.clean : Imm → Bool
  | .und | .b _ | .i _ _ | .s _ | .nilp | .nilm | .nilf | .nili => true
  | .sl _ q _ es => !q && Imm.cleanLL es
  | .ip _ q es _ _ => !q && Imm.cleanLL es
  | .mp q ks vs => !q && Imm.cleanL ks && Imm.cleanL vs
  | .agg cs => Imm.cleanL cs
  | .tup cs => Imm.cleanL cs
  | .fn _ cap => Imm.cleanL cap
  | .ifc _ v => v.clean
def Imm.cleanL : List Imm → Bool
  | [] => true
  | c :: cs => c.clean && Imm.cleanL cs
def Imm.cleanLL : List (List Imm) → Bool
  | [] => true
  | c :: cs => Imm.cleanL c && Imm.cleanLL cs
end
def Imm.cells : Imm → List Imm
  | .agg cs => cs
  | d => [d]
def AV.cells : AV → List AV
  | .im (.agg cs) => cs.map .im
  | .agg cs => cs
  | v => [v]
def AV.imm? : AV → Option Imm
  | .im d => some d
  | _ => none
def allIm (cs : List AV) : Option (List Imm) := cs.mapM AV.imm?
def mkAgg (cs : List AV) : AV :=
  match allIm cs with
  | some ds => .im (.agg ds)
  | none => .agg cs
def mkTup (cs : List AV) : AV :=
  match allIm cs with
  | some ds => .im (.tup ds)
  | none => .tup cs

def sub {α : Type} (cs : List α) (off n : Nat) : Option (List α) := if off + n ≤ cs.length then some ((cs.drop off).take n) else none
def splice {α : Type} (cs : List α) (off : Nat) (vs : List α) : List α := cs.take off ++ vs ++ cs.drop (off + vs.length)

/-- A row's elements, for reading. -/
def rdr (H : AHeap) (l st : Nat) : Option (List (List AV) × Nat) :=
  match H[l]? with
  | some (.row es z _) => if es.length = st then some (es, z) else none
  | _ => none

/-- Does a reference lead to a row that is as it was when the reference was made? -/
def live (H : AHeap) (l st : Nat) : Bool := (rdr H l st).isSome

def Fr.get (fr : Fr) (t : Nat) : AV := (fr.lookup t).getD .top
def constAV (v : Value) : AV := ((Imm.ofVal v).map AV.im).getD .top
def ev (fr : Fr) : Operand → AV
  | .tmp t => Fr.get fr t
  | .const v => constAV v
  | .func f => .im (.fn f [])
  | .global _ => .top
def putT (fr : Fr) (d : Option Tmp) (v : AV) : Fr :=
  match d with
  | some t => (t, v) :: fr
  | none => fr

/-! ### Memory -/
def aload (P : Program) (t : TypeId) (H : AHeap) : AV → Option AV
  | .im (.ip _ _ es j off) => do
    let cs ← es[j]?
    if ← isAg P t then (sub cs off (← szOf P t)).map (fun x => .im (.agg x)) else (cs[off]?).map .im
  | .ptr l st j off => do
    let (es, _) ← rdr H l st
    let cs ← es[j]?
    if ← isAg P t then (sub cs off (← szOf P t)).map mkAgg else cs[off]?
  | _ => none
def astore (P : Program) (t : TypeId) (H : AHeap) (a v : AV) : Option AHeap :=
  match a with
  | .ptr l st j off =>
    match H[l]? with
    | some (.row es z e) => do
      let cs ← es[j]?
      let vs := v.cells
      if es.length = st ∧ (szOf P t) = some vs.length ∧ off + vs.length ≤ cs.length ∧ v.storable = true then
        some (H.set l (.row (es.set j (splice cs off vs)) z e))
      else none
    | _ => none
  | _ => none

/-! ### Views: what a callee may read (q: lent, the owner goes on with it) -/
def view (q : Bool) : Nat → AHeap → AV → Option Imm
  | _, _, .im d => some d
  | 0, _, _ => none
  | k + 1, H, .sl l st j n => do
    let (es, z) ← rdr H l st
    let es ← sub es j n
    (es.mapM fun c : List AV => c.mapM (view q k H)).map (.sl z q false ·)
  | k + 1, H, .ptr l st j off => do
    let (es, z) ← rdr H l st
    (es.mapM fun c : List AV => c.mapM (view q k H)).map (.ip z q · j off)
  | k + 1, H, .map l =>
    match H[l]? with
    | some (.map ks vs) => (vs.mapM (view q k H)).map (.mp q ks ·)
    | _ => none
  | k + 1, H, .fn (.func g) cap => (cap.mapM (view q k H)).map (.fn g ·)
  | k + 1, H, .agg cs => (cs.mapM (view q k H)).map .agg
  | k + 1, H, .tup cs => (cs.mapM (view q k H)).map .tup
  | k + 1, H, .ifc t v => (view q k H v).map (.ifc t ·)
  | _, _, _ => none
def viewDepth : Nat := 6
def views (H : AHeap) (vs : List AV) : Option (List Imm) := vs.mapM (view true viewDepth H)
/-- Does a value refer to the heap? -/
def AV.isIm : AV → Bool
  | .im _ => true
  | _ => false

/-- What a function hands back out of its own heap: immutable data, and (own) one row that the caller may go on with. -/
def rowOf (own : Bool) : AV → Option Nat
  | .sl l st 0 m => if own && m == st then some l else none
  | .tup vs => if own then vs.findSome? fun | .sl l st 0 m => if m == st then some l else none | _ => none else none
  | _ => none
def packVal (G' : AHeap) (l n : Nat) (v : AV) : Option AV :=
  match v with
  | .sl l' st j m => if l' = l then (if j = 0 ∧ m = st then some (.sl n st 0 m) else none) else (view false viewDepth G' v).map .im
  | v => (view false viewDepth G' v).map .im
def pack (own : Bool) (n : Nat) (G : AHeap) (v : AV) : Option (AV × List AObj) :=
  match rowOf own v with
  | none => (view false viewDepth G v).map fun d => (.im d, [])
  | some l =>
    match G[l]? with
    | some (.row es z t) =>
      match es.mapM fun c : List AV => c.mapM (view false viewDepth (G.set l .gone)), v with
      | some es', .tup vs => (vs.mapM (packVal (G.set l .gone) l n)).map fun vs => (.tup vs, [.row (es'.map (·.map .im)) z t])
      | some es', v => (packVal (G.set l .gone) l n v).map fun v => (v, [.row (es'.map (·.map .im)) z t])
      | none, _ => none
    | _ => none

/-! ### Pure operations -/
def Sem.val? {α : Type} (P : Program) : Sem α → Option α
  | .pure a => some a
  | .program k => Sem.val? P (k P)
  | .mark _ k => Sem.val? P k
  | _ => none

def abin (P : Program) (op : BinOp) (t : TypeId) (x y : Operand) (a b : AV) : Option AV :=
  match a, b with
  | .im a, .im b =>
    match a.val, b.val with
    | some v, some u => ((Sem.val? P (do eqGuard op t x y v u; Go.binOp op t v u)).bind Imm.ofScal).map .im
    | _, _ => none
  | _, _ => none
/-- An interface value against nil. -/
def aifc (op : BinOp) (a b : AV) : Option AV :=
  match op, a, b with
  | .eql, .im (.ifc _ _), .im .nili => some (.im (.b false))
  | .neq, .im (.ifc _ _), .im .nili => some (.im (.b true))
  | _, _, _ => none
def aun (P : Program) (op : UnOp) (a : AV) : Option AV :=
  match a with
  | .im a => a.val.bind fun v => ((Sem.val? P (Op.unary op v)).bind Imm.ofScal).map .im
  | _ => none
def aconv (P : Program) (s d : TypeId) (a : AV) : Option AV :=
  match a with
  | .im a => a.val.bind fun v => ((Sem.val? P (Go.convert s d v)).bind Imm.ofScal).map .im
  | _ => none
def aint : AV → Option Int
  | .im (.i _ n) => some n
  | _ => none
def abool : AV → Option Bool
  | .im (.b x) => some x
  | _ => none

def afieldAddr (P : Program) (H : AHeap) (t : TypeId) (a : AV) (f : Nat) : Option AV := do
  let (o, u) ← fldOf P t f
  let n ← szOf P u
  if n = 0 then none else
  match a with
  | .ptr l st j off => if live H l st then some (.ptr l st j (off + o)) else none
  | .im (.ip z q es j off) => some (.im (.ip z q es j (off + o)))
  | _ => none
def afield (P : Program) (t : TypeId) (a : AV) (f : Nat) : Option AV := do
  let (o, u) ← fldOf P t f
  let ag ← isAg P u
  let sz ← szOf P u
  match a with
  | .im (.agg cs) => if ag then (sub cs o sz).map (fun x => .im (.agg x)) else (cs[o]?).map .im
  | .agg cs => if ag then (sub cs o sz).map mkAgg else cs[o]?
  | _ => none
def aindexAddr (P : Program) (H : AHeap) (t : TypeId) (x ix : AV) : Option AV := do
  let i ← aint ix
  match P.underlying t with
  | some (.slice e) =>
    match x with
    | .im (.sl z q _ es) => if 0 ≤ i ∧ i.toNat < es.length ∧ szOf P e = some z then some (.im (.ip z q es i.toNat 0)) else none
    | .sl l st j n => if 0 ≤ i ∧ i.toNat < n ∧ live H l st = true ∧ (rdr H l st).map (·.2) = szOf P e then some (.ptr l st (j + i.toNat) 0) else none
    | _ => none
  | some (.array len e) => do
    let z ← szOf P e
    match x with
    | .im (.ip z' q es j off) => if 0 ≤ i ∧ i.toNat < len then some (.im (.ip z' q es j (off + i.toNat * z))) else none
    | .ptr l st j off => if 0 ≤ i ∧ i.toNat < len ∧ live H l st = true then some (.ptr l st j (off + i.toNat * z)) else none
    | _ => none
  | _ => none
def aindex (P : Program) (t : TypeId) (x ix : AV) : Option AV := do
  let i ← aint ix
  match P.underlying t, x with
  | some (.array len e), .im (.agg cs) => do
    let z ← szOf P e
    if 0 ≤ i ∧ i.toNat < len then
      if ← isAg P e then (sub cs (i.toNat * z) z).map (fun x => .im (.agg x)) else (cs[i.toNat * z]?).map .im
    else none
  | some .string, .im (.s s) => if 0 ≤ i then (s[i.toNat]?).map fun b => .im (.i .u8 b.toNat) else none
  | _, _ => none
def bnd (x : Option AV) (d : Nat) : Option Nat :=
  match x with
  | none => some d
  | some v => (aint v).bind fun i => if 0 ≤ i then some i.toNat else none
/-- A row cut into so many pieces. -/
def chunk {α : Type} (z : Nat) : Nat → List α → List (List α)
  | 0, _ => []
  | n + 1, l => l.take z :: chunk z n (l.drop z)
def aslice (P : Program) (H : AHeap) (t : TypeId) (x : AV) (lo hi mx : Option AV) : Option AV :=
  match P.underlying t, x with
  | some .string, .im (.s s) => do
    let h ← bnd hi s.size
    let l ← bnd lo 0
    if mx.isNone ∧ h ≤ s.size ∧ l ≤ h then some (.im (.s (s.extract l h))) else none
  | some (.slice e), .im (.sl z q tight es) => do
    let h ← bnd hi es.length
    let l ← bnd lo 0
    let m ← bnd mx h
    let z' ← szOf P e
    if h ≤ es.length ∧ l ≤ h ∧ m = h ∧ (z' = z ∨ es.isEmpty) then
      some (.im (.sl z' q (mx.isSome || (tight && h == es.length)) ((es.drop l).take (h - l)))) else none
  | some (.slice e), .sl l0 st j n => do
    let h ← bnd hi n
    let l ← bnd lo 0
    if h ≤ n ∧ l ≤ h ∧ live H l0 st = true ∧ (rdr H l0 st).map (·.2) = szOf P e then
      match mx with
      | none => some (.sl l0 st (j + l) (h - l))
      | some m => if aint m = some 0 ∧ h = 0 then (szOf P e).map fun z => .im (.sl z false true []) else none
    else none
  | some (.array len e), .im (.ip _ q es j off) => do
    let z ← szOf P e
    let cs ← es[j]?
    let l ← sub cs off (len * z)
    if lo.isNone ∧ hi.isNone ∧ mx.isNone then some (.im (.sl z q true (chunk z len l))) else none
  | _, _ => none

/-- The cells of a value that is built out of parts. -/
def fillA (place : Nat → Option (Nat × Nat)) (cells : List AV) : List (Nat × AV) → Option (List AV)
  | [] => some cells
  | (i, v) :: rest =>
    match place i with
    | none => none
    | some (off, size) =>
      let vs := v.cells
      if vs.length ≠ size ∨ off + vs.length > cells.length ∨ !v.storable then none
      else fillA place (splice cells off vs) rest
def structPlaces (P : Program) (fs : Array Field) : Option (List (Nat × Nat)) := fs.toList.mapM fun f => (P.info? f.type).map fun i => (f.offset, i.size)
def abuild (P : Program) (t : TypeId) (parts : List (Nat × AV)) : Option AV := do
  let z ← zeroImm P t
  match P.underlying t with
  | some (.struct fs) => do
    let places ← structPlaces P fs
    (fillA (places[·]?) ((z.cells).map .im) parts).map mkAgg
  | some (.array _ e) => do
    let n ← szOf P e
    (fillA (fun i => some (i * n, n)) ((z.cells).map .im) parts).map mkAgg
  | _ => none
/-- The elements of a slice that is built: as many as 'len', in order, or all zero. -/
def elemsA (z : Nat) : List (Nat × AV) → Nat → Option (List (List AV))
  | [], _ => some []
  | (i, v) :: rest, k =>
    if i = k ∧ v.cells.length = z ∧ v.storable = true then (elemsA z rest (k + 1)).map (v.cells :: ·) else none
def abuildSlice (P : Program) (t : TypeId) (len : Nat) (parts : List (Nat × AV)) (H : AHeap) (mt : Bool) : Option (AV × AHeap) := do
  let e ← elemOf P t
  let z ← szOf P e
  let es ← elemsA z parts 0
  if es.length = len ∧ 0 < z ∧ len * z ≤ 16777216 ∧ (len = 0 ∨ (zeroImm P e).isSome) then
    match mt, es.mapM allIm with
    | false, some ds => some (.im (.sl z false true ds), H)
    | _, _ => some (.sl H.length len 0 len, H ++ [.row es z e])
  else none

/-! ### Maps: keys are scalars -/
def keyEq : Imm → Imm → Option Bool
  | .s a, .s b => some (a == b)
  | .i j a, .i k b => if j = k then some (a == b) else none
  | .b a, .b b => some (a == b)
  | _, _ => none
def findK (k : Imm) : List Imm → Nat → Option (Option Nat)
  | [], _ => some none
  | x :: xs, i =>
    match keyEq k x with
    | some true => some (some i)
    | some false => findK k xs (i + 1)
    | none => none
def keyOk (P : Program) (kt : TypeId) (k : Imm) : Bool :=
  match P.underlying kt, k with
  | some .string, .s _ => true
  | some (.int q), .i q' _ => q == q'
  | some .bool, .b _ => true
  | _, _ => false
def mapOf (H : AHeap) : AV → Option (List Imm × List AV)
  | .im .nilm => some ([], [])
  | .im (.mp _ ks vs) => some (ks, vs.map .im)
  | .map l => match H[l]? with
    | some (.map ks vs) => some (ks, vs)
    | _ => none
  | _ => none
def hitOf (z : Imm) (vs : List AV) : Option Nat → Option (AV × Bool)
  | some i => (vs[i]?).map fun v => (v, true)
  | none => some (.im z, false)
def alookup (P : Program) (t : TypeId) (x ix : AV) (ok : Bool) (H : AHeap) : Option AV :=
  match P.underlying t, ix with
  | some (.map kt et), .im k =>
    if keyOk P kt k then
      (zeroImm P et).bind fun z => (mapOf H x).bind fun m => (findK k m.1 0).bind fun r => (hitOf z m.2 r).map fun y =>
        if ok then mkTup [y.1, .im (.b y.2)] else y.1
    else none
  | _, _ => none
def amapUpdate (P : Program) (t : TypeId) (x ix v : AV) (H : AHeap) : Option AHeap :=
  match P.underlying t, ix, x with
  | some (.map kt _), .im k, .map l =>
    match H[l]? with
    | some (.map ks vs) =>
      if keyOk P kt k then
        match findK k ks 0 with
        | some (some i) => some (H.set l (.map ks (vs.set i v)))
        | some none => some (H.set l (.map (ks ++ [k]) (vs ++ [v])))
        | none => none
      else none
    | _ => none
  | _, _, _ => none

/-! ### Append and the other builtins -/
def roomCells : Nat := 2 ^ 40
def elemsOf (H : AHeap) : AV → Option (List (List AV) × Nat)
  | .im (.sl z _ _ es) => some (es.map (·.map .im), z)
  | .sl l st j n => do
    let (es, z) ← rdr H l st
    let es ← sub es j n
    some (es, z)
  | _ => none
def aappend (P : Program) (t : TypeId) (s x : AV) (H : AHeap) : Option (AV × AHeap) := do
  let e ← elemOf P t
  let z ← szOf P e
  let by_ ← (P.info? e).map (·.bytes)
  let (xs, zx) ← elemsOf H x
  if 0 < z ∧ (zx = z ∨ xs.isEmpty = true) ∧ 0 < by_ ∧ by_ ≤ 4096 ∧ (zeroImm P e).map (·.cells.length) = some z then
    match s with
    | .im (.sl z0 _ tight es) =>
      if xs.isEmpty then some (s, H)
      else if tight ∧ (z0 = z ∨ es.isEmpty) ∧ es.length + xs.length ≤ 4294967296 then
        some (.sl H.length (es.length + xs.length) 0 (es.length + xs.length), H ++ [.row (es.map (·.map .im) ++ xs) z e])
      else none
    | .sl l st j n =>
      match H[l]? with
      | some (.row es z' e') =>
        if es.length = st ∧ j = 0 ∧ n = es.length ∧ z' = z ∧ e' = e ∧ es.length + xs.length ≤ 4294967296 then
          some (.sl l (es.length + xs.length) j (n + xs.length), H.set l (.row (es ++ xs) z e))
        else none
      | _ => none
    | _ => none
  else none
def alen (P : Program) (t : TypeId) (H : AHeap) (x : AV) : Option AV :=
  match P.underlying t, x with
  | some .string, .im (.s x) => some (.im (.i .i64 x.size))
  | some (.slice _), .im (.sl _ _ _ es) => some (.im (.i .i64 es.length))
  | some (.slice _), .sl l st _ n => if live H l st then some (.im (.i .i64 n)) else none
  | some (.map _ _), .im .nilm => some (.im (.i .i64 0))
  | some (.map _ _), .im (.mp _ ks _) => some (.im (.i .i64 ks.length))
  | some (.map _ _), .map l => match H[l]? with
    | some (.map ks _) => some (.im (.i .i64 ks.length))
    | _ => none
  | _, _ => none
def aclear (P : Program) (t : TypeId) (x : AV) (H : AHeap) : Option AHeap := do
  let e ← elemOf P t
  let d ← zeroImm P e
  match x with
  | .im (.sl _ _ _ []) => some H
  | .sl l st j n =>
    match H[l]? with
    | some (.row es z e') =>
      if es.length = st ∧ j + n ≤ es.length ∧ d.cells.length = z ∧ szOf P e = some z then
        some (H.set l (.row (es.take j ++ List.replicate n (d.cells.map .im) ++ es.drop (j + n)) z e')) else none
    | _ => none
  | _ => none
def amaxmin (isMax : Bool) : List AV → Option AV
  | [.im (.i k x), .im (.i k' y)] => if k = k' then some (.im (.i k (if isMax then (if y > x then y else x) else (if y < x then y else x)))) else none
  | _ => none
def amakeSlice (P : Program) (t : TypeId) (n c : AV) (H : AHeap) : Option (AV × AHeap) := do
  let e ← elemOf P t
  let z ← szOf P e
  let by_ ← (P.info? e).map (·.bytes)
  let d ← zeroImm P e
  let n ← aint n
  let c ← aint c
  if 0 < z ∧ 0 < by_ ∧ by_ ≤ 4096 ∧ 0 ≤ n ∧ n = c ∧ n ≤ 4294967296 ∧ d.cells.length = z then
    some (.sl H.length n.toNat 0 n.toNat, H ++ [.row (List.replicate n.toNat (d.cells.map .im)) z e])
  else none

end
/-! ### One operation -/
inductive AO where
  | val (v : AV) (H : AHeap)
  | skip (H : AHeap)
  | call (r : Req)
  | dfr (g : FuncId) (args : List AV)
  | pan (d : Imm)

section
variable (cx : Cx)
def callee (f : AV) (args : List AV) : Option Req :=
  match f with
  | .im (.fn g cap) => some (.fn g (args ++ cap.map .im))
  | .fn (.func g) cap => some (.fn g (args ++ cap))
  | .fn (.yield l) [] => some (.round l args)
  | _ => none

def aop (fn : FuncId) (o : Oper) (fr : Fr) (H : AHeap) : Option AO :=
  let P := cx.P
  let v (x : Option AV) : Option AO := x.map fun x => .val x H
  let vh (x : Option (AV × AHeap)) : Option AO := x.map fun (x, H) => .val x H
  let hint (f : FuncId → Tmp → Bool) : Bool := match o.dst with | some d => f fn d | none => false
  match o.op with
  | .move x => v (some (ev fr x))
  | .assign x =>
    match hint cx.vrow, x with
    | true, .const (.slice none 0 0) => (elemOf P o.type).bind fun e => (szOf P e).bind fun z => some (.val (.sl H.length 0 0 0) (H ++ [.row [] z e]))
    | _, _ => v (some (ev fr x))
  | .pick c a b => (abool (ev fr c)).bind fun t =>
    match ev fr a, ev fr b with
    | .im (.b p), .im (.b q) => v (some (.im (.b (if t then p else q))))
    | p, q => v (some (if t then p else q))
  | .alloc e => do
    let z ← zeroImm P e
    let n ← szOf P e
    match hint cx.vrow, elemOf P e with
    | true, some e' => do
      let z' ← szOf P e'
      match z, n with
      | .sl 1 false true [], 1 => some (.val (.ptr (H.length + 1) 1 0 0) (H ++ [.row [] z' e', .row [[.sl H.length 0 0 0]] 1 e]))
      | _, _ => none
    | _, _ => if z.cells.length = n then some (.val (.ptr H.length 1 0 0) (H ++ [.row [z.cells.map .im] n e])) else none
  | .box e x =>
    let a := ev fr x
    if (szOf P e) = some a.cells.length ∧ a.storable = true then
      match hint cx.cbox, a with
      | true, .im d => v (some (.im (.ip a.cells.length false [d.cells] 0 0)))
      | _, _ => some (.val (.ptr H.length 1 0 0) (H ++ [.row [a.cells] a.cells.length e]))
    else none
  | .build t ps => v (abuild P t (ps.toList.map fun (i, x) => (i, ev fr x)))
  | .buildSlice t n ps => vh (abuildSlice P t n (ps.toList.map fun (i, x) => (i, ev fr x)) H (hint cx.vrow))
  | .load t a => v (aload P t H (ev fr a))
  | .store t a x => (astore P t H (ev fr a) (ev fr x)).map .skip
  | .nilCheck x =>
    match ev fr x with
    | .ptr l st j off => if live H l st then v (some (.ptr l st j off)) else none
    | .im (.ip z q es j off) => v (some (.im (.ip z q es j off)))
    | _ => none
  | .binOp op t x y _ => v ((abin P op t x y (ev fr x) (ev fr y)).or (match P.underlying t with | some (.interface _) => aifc op (ev fr x) (ev fr y) | _ => none))
  | .unOp op _ x => v (aun P op (ev fr x))
  | .convert s d x => v (aconv P s d (ev fr x))
  | .makeInterface t x =>
    match P.underlying t, ev fr x with
    | some (.interface _), _ => none
    | some _, .im d => v (some (.im (.ifc t d)))
    | _, _ => none
  | .makeFunc (.func g) first cap => if first.isEmpty then v (some (match allIm (cap.toList.map (ev fr)) with | some ds => .im (.fn g ds) | none => .fn (.func g) (cap.toList.map (ev fr)))) else none
  | .makeMap _ r => if r.isNone then some (.val (.map H.length) (H ++ [.map [] []])) else none
  | .makeSlice t n c => vh (amakeSlice P t (ev fr n) (ev fr c) H)
  | .slice t x lo hi mx => if mx.isSome && hi.isNone then none else v (aslice P H t (ev fr x) (lo.map (ev fr)) (hi.map (ev fr)) (mx.map (ev fr)))
  | .fieldAddr t x f => v (afieldAddr P H t (ev fr x) f)
  | .field t x f => v (afield P t (ev fr x) f)
  | .indexAddr t x i => v (aindexAddr P H t (ev fr x) (ev fr i))
  | .index t x i => v (aindex P t (ev fr x) (ev fr i))
  | .lookup t x i ok => v (alookup P t (ev fr x) (ev fr i) ok H)
  | .mapUpdate t m k x => (amapUpdate P t (ev fr m) (ev fr k) (ev fr x) H).map .skip
  | .extract t i =>
    match ev fr t with
    | .im (.tup cs) => v ((cs[i]?).map .im)
    | .tup cs => v (cs[i]?)
    | _ => none
  | .typeAssert x _ u true =>
    match P.underlying u, ev fr x with
    | some (.interface _), _ => none
    | some _, .im (.ifc t d) => if t = u then v (some (.im (.tup [d, .b true]))) else none
    | _, _ => none
  | .call { callee := .value f, args, .. } => (callee (ev fr f) (args.toList.map (ev fr))).map fun r => .call r
  | .call { callee := .builtin b, args, argTypes } =>
    let as := args.toList.map (ev fr)
    match b, as, argTypes.toList with
    | .len, [x], [t] => v (alen P t H x)
    | .clear, [x], [t] => (aclear P t x H).map fun H => .val (.im .und) H
    | .append, [s, x], [t, t'] => if t = t' then vh (aappend P t s x H) else none
    | .max, as, _ => v (amaxmin true as)
    | .min, as, _ => v (amaxmin false as)
    | _, _, _ => none
  | .defer { callee := .value f, args, .. } =>
    match callee (ev fr f) (args.toList.map (ev fr)) with
    | some (.fn g as) => some (.dfr g as)
    | _ => none
  | .panic x =>
    match ev fr x with
    | .im (.ifc t d) => some (.pan (.ifc t d))
    | _ => none
  | _ => none

/-! ### Regions -/
def yieldedA (ops : List Oper) (fr : Fr) (j : Nat) : Option (Option Bool) :=
  match (ops[j]?).bind (·.dst) with
  | some d => match Fr.get fr d with
    | .im (.b x) => some (some x)
    | .im .und => some none
    | _ => none
  | none => some none
def wantedA (ops : List Oper) (o : Oper) (fr : Fr) : Option Bool :=
  match o.guard with
  | none => some true
  | some (j, want) => (yieldedA ops fr j).map fun y => y == some want
def tomb (n : Nat) (H : AHeap) : AHeap := H.take n ++ List.replicate (H.length - n) .gone
/-- By view, where the arguments can be viewed. -/
def viaView (r : Req) (H : AHeap) : Option (List Imm) :=
  match r with
  | .fn f args => if cx.shared f then none else views H args
  | .round _ _ => none
/-- A call: by view in a heap of its own where its arguments can be viewed, else in the caller's heap. -/
def acall (O : Oracle) (r : Req) (H : AHeap) : Option (AV × AHeap) :=
  match r with
  | .fn f args =>
    match viaView cx (.fn f args) H with
    | some ds =>
      match O (.fn f (ds.map .im)) [] with
      | some (v, G) =>
        match pack (cx.own f) H.length G v with
        | some (.im d, []) => if args.all AV.isIm || d.flatR || d.clean then some (.im d, H) else none
        | some (v', os) => if args.all AV.isIm then some (v', H ++ os) else none
        | none => none
      | none => none
    | none =>
      match O (.fn f args) H with
      | some (.im d, H') => some (.im d, tomb H.length H')
      | some (v, H') => if (isPan v).isSome then none else some (v, H')
      | none => none
  | .round l args =>
    match O (.round l args) H with
    | some (.im d, H') => some (.im d, tomb H.length H')
    | _ => none
/-- A call that panics: with what, and the heap behind it. -/
def acallP (O : Oracle) (r : Req) (H : AHeap) : Option (Imm × AHeap) :=
  match r with
  | .fn f args =>
    match viaView cx (.fn f args) H with
    | some ds =>
      match O (.fn f (ds.map .im)) [] with
      | some (v, _) => (isPan v).bind fun d => if d.clean then some (d, H) else none
      | none => none
    | none =>
      match O (.fn f args) H with
      | some (v, H') => (isPan v).map fun d => (d, tomb H.length H')
      | none => none
  | .round l args =>
    match O (.round l args) H with
    | some (v, H') => (isPan v).map fun d => (d, tomb H.length H')
    | none => none

/-- One operation of a region. -/
def astep (O : Oracle) (fn : FuncId) (o : Oper) (st : St) : Option St :=
  match aop cx fn o st.fr st.H with
  | some (.val v H) => some { st with fr := putT st.fr o.dst v, H := H }
  | some (.skip H) => some { st with fr := putT st.fr o.dst (.im .und), H := H }
  | some (.call r) =>
    match acall cx O r st.H with
    | some (v, H) => some { st with fr := putT st.fr o.dst v, H := H }
    | none => none
  | _ => none
/-- An operation that puts a call off. -/
def adfr (fn : FuncId) (o : Oper) (st : St) : Option (FuncId × List AV) :=
  match o.op with
  | .defer _ =>
    match aop cx fn o st.fr st.H with
    | some (.dfr g as) => some (g, as)
    | _ => none
  | _ => none
def putOff (o : Oper) (g : FuncId) (as : List AV) (st : St) : St := ⟨putT st.fr o.dst (.im .und), .fn g as :: st.ds, st.H⟩
def unwanted (o : Oper) (st : St) : St := { st with fr := putT st.fr o.dst (.im .und) }
def aops (O : Oracle) (fn : FuncId) (ops : List Oper) : List Oper → St → Option St
  | [], st => some st
  | o :: rest, st =>
    match wantedA ops o st.fr with
    | some true =>
      match astep cx O fn o st with
      | some st' => aops O fn ops rest st'
      | none =>
        match adfr cx fn o st with
        | some x => aops O fn ops rest (putOff o x.1 x.2 st)
        | none => none
    | some false => aops O fn ops rest (unwanted o st)
    | none => none
/-- What an operation that panics leaves. -/
def apanOp (O : Oracle) (fn : FuncId) (o : Oper) (st : St) : Option (Imm × St) :=
  match aop cx fn o st.fr st.H with
  | some (.call r) => (acallP cx O r st.H).map fun x => (x.1, { st with H := x.2 })
  | some (.pan d) => some (d, st)
  | _ => none
/-- A region that panics. -/
def apan (O : Oracle) (fn : FuncId) (ops : List Oper) : List Oper → St → Option (Imm × St)
  | [], _ => none
  | o :: rest, st =>
    match wantedA ops o st.fr with
    | some true =>
      match astep cx O fn o st with
      | some st' => apan O fn ops rest st'
      | none =>
        match adfr cx fn o st with
        | some x => apan O fn ops rest (putOff o x.1 x.2 st)
        | none => apanOp cx O fn o st
    | some false => apan O fn ops rest (unwanted o st)
    | none => none

/-! #### Regions that draw their order: walked in an order in which operations that bear it come early -/
/-- May the operation come early? It yields a value; the heap stays, or (an alloc) has one more row. -/
def mob0 (fn : FuncId) (o : Oper) : Bool :=
  match o.op with
  | .move _ | .pick .. | .build .. | .load .. | .nilCheck _ | .binOp .. | .unOp .. | .convert .. | .makeInterface .. | .makeFunc .. | .slice .. | .fieldAddr .. | .field .. | .indexAddr .. | .index .. | .lookup .. | .extract .. => true
  | .buildSlice .. => cx.bs fn
  | .assign _ | .alloc _ => match o.dst with | some d => !(cx.vrow fn d) | none => true
  | .call { callee := .builtin .len, .. } | .call { callee := .builtin .max, .. } | .call { callee := .builtin .min, .. } => true
  | _ => false
def mob (fn : FuncId) (o : Oper) : Bool := (match o.dst with | some d => !(cx.late fn d) | none => true) && mob0 cx fn o
/-- One that would lay a row that is not immutable. -/
def bad (fn : FuncId) (o : Oper) (st : St) : Bool :=
  match o.op with
  | .buildSlice .. => match aop cx fn o st.fr st.H with
    | some (.val (.im _) _) => false
    | _ => true
  | _ => false
def AV.loc : AV → List Nat
  | .ptr l _ _ _ | .sl l _ _ _ | .map l => [l]
  | _ => []
/-- The rows that it reads. -/
def rdA (o : Oper) (fr : Fr) (H : AHeap) : List Nat :=
  match o.op with
  | .move _ | .assign _ | .pick .. | .build .. | .buildSlice .. | .binOp .. | .unOp .. | .convert .. | .makeInterface .. | .makeFunc .. | .field .. | .index .. | .extract .. => []
  | .alloc _ => [H.length]
  | .load _ x | .nilCheck x | .fieldAddr _ x _ | .indexAddr _ x _ | .lookup _ x _ _ | .slice _ x _ _ _ => (ev fr x).loc
  | .call c => c.args.toList.flatMap fun x => (ev fr x).loc
  | _ => []
/-- The rows that one that may not come early writes; none: any. -/
def wrA (fn : FuncId) (o : Oper) (st : St) : Option (List Nat) :=
  match o.op with
  | .store _ a _ => some (ev st.fr a).loc
  | .mapUpdate _ m _ _ => some (ev st.fr m).loc
  | .call { callee := .builtin _, args, .. } => some (args.toList.flatMap fun x => (ev st.fr x).loc)
  | .call { callee := .value _, .. } =>
    match aop cx fn o st.fr st.H with
    | some (.call (.fn f args)) => if (viaView cx (.fn f args) st.H).isSome then some [] else none
    | _ => none
  | _ => some []
/-- Must o come after i? -/
def reach (ops : Array Oper) (i : Nat) : Nat → Oper → Bool
  | 0, _ => false
  | k + 1, o => o.after.any fun e => Region.binds .any e && (e.on == i || (i < e.on && match ops[e.on]? with | some o' => reach ops i k o' | none => false))
def clear (fn : FuncId) (ops : Array Oper) (o : Oper) (st : St) (E : List (Nat × List Nat)) : Bool :=
  E.all fun (i, rd) => rd.isEmpty || (match wrA cx fn o st with | some wr => wr.all fun l => !rd.contains l | none => false) || reach ops i ops.size o
def adraw (O : Oracle) (fn : FuncId) (ops : Array Oper) : List Nat → List (Nat × List Nat) → St → Option St
  | [], _, st => some st
  | i :: rest, E, st =>
    match ops[i]? with
    | none => none
    | some o =>
      match wantedA ops.toList o st.fr with
      | none => none
      | some false => adraw O fn ops rest E (unwanted o st)
      | some true =>
        if mob cx fn o then
          if bad cx fn o st then none else
          match astep cx O fn o st with
          | some st' => adraw O fn ops rest ((i, rdA o st.fr st.H) :: E) st'
          | none => none
        else if clear cx fn ops o st E then
          match astep cx O fn o st with
          | some st' => adraw O fn ops rest E st'
          | none => none
        else none

/-- Do all others come before z, whatever the order? -/
def lastOk (ops : Array Oper) (z : Nat) (o : Oper) : Bool := (List.range ops.size).all fun j => j == z || reach ops j ops.size o
/-- A region that draws its order and panics in the operation that is the last in each order. -/
def adrawP (O : Oracle) (fn : FuncId) (ops : Array Oper) (σ : List Nat) (st : St) : Option (Imm × St) :=
  match σ.getLast? with
  | none => none
  | some z =>
    match ops[z]? with
    | none => none
    | some o =>
      if lastOk ops z o then
        match adraw cx O fn ops σ.dropLast [] st with
        | none => none
        | some st1 =>
          match wantedA ops.toList o st1.fr with
          | some true => apanOp cx O fn o st1
          | _ => none
      else none

def clean (keep : Option (List Nat)) (st : St) : St :=
  match keep with
  | none => st
  | some l => { st with fr := l.filterMap fun t => (st.fr.lookup t).map (t, ·) }

/-! ### Code -/
def aloop (body : St → Option (Ex × St)) : Nat → St → Option (Ex × St)
  | 0, _ => none
  | k + 1, st =>
    match body st with
    | some (.nrm, st') => aloop body k st'
    | r => r
def enterLoop (fn : FuncId) (rd : Option Nat) (params : List Tmp) (assign body : Code) (st : St) : Option (Nat × St) :=
  match rd with
  | some l0 =>
    match st.H[l0]? with
    | some (.loop _ _ _ _ _ _ _ d) => some (st.H.length, { st with H := st.H ++ [.loop .ready none fn st.fr params assign body d] })
    | _ => none
  | none => some (st.H.length + 1, { st with ds := .mark st.H.length :: st.ds, H := st.H ++ [.dfr false, .loop .ready none fn st.fr params assign body st.H.length] })
def aexec (O : Oracle) (k : Nat) (fn : FuncId) (rd : Option Nat) : Code → St → Option (Ex × St)
  | .skip, st => some (.nrm, st)
  | .label _, st => some (.nrm, st)
  | .region id ops draw, st =>
    match (if draw then adraw cx O fn ops (cx.sched fn id) [] st else aops cx O fn ops.toList ops.toList st) with
    | some st' => some (.nrm, clean (cx.keep fn id) st')
    | none => (if draw then adrawP cx O fn ops (cx.sched fn id) st else apan cx O fn ops.toList ops.toList st).map fun x => (.pan x.1, x.2)
  | .seq a b, st =>
    match aexec O k fn rd a st with
    | some (.nrm, st') => aexec O k fn rd b st'
    | r => r
  | .cond c a b, st =>
    match ev st.fr c with
    | .im (.b t) => if t then aexec O k fn rd a st else aexec O k fn rd b st
    | _ => none
  | .block id a, st =>
    match aexec O k fn rd a st with
    | some (.exit i, st') => if i = id then some (.nrm, st') else some (.exit i, st')
    | r => r
  | .scope a, st => aexec O k fn rd a st
  | .loop a, st => aloop (aexec O k fn rd a) k st
  | .rangeFunc f params assign body, st =>
    match enterLoop fn rd params.toList assign body st with
    | none => none
    | some (l, st1) =>
      match callee (ev st.fr f) [.fn (.yield l) []] with
      | some (.fn g args) =>
        match O (.fn g args) st1.H with
        | some (v, H) =>
          match isPan v with
          | some d => some (.pan d, { st1 with H := H })
          | none =>
          match H[l]? with
          | some (.loop s p fn' fr' ps a b d) =>
            if s = .busy then none else
            let st2 := { st1 with H := H.set l (.loop .exhausted p fn' fr' ps a b d) }
            match p with
            | none => some (.nrm, st2)
            | some .ret => some (.ret, st2)
            | some (.exit id) => some (.exit id, st2)
          | _ => none
        | none => none
      | _ => none
  | .exit id, st => some (.exit id, st)
  | .ret, st => some (.ret, st)
  | _, _ => none

/-- The blocks are shut. -/
def acolls : List Dfr → AHeap → Option AHeap
  | [], H => some H
  | .mark l :: ds, H =>
    match H[l]? with
    | some (.dfr false) => acolls ds (H.set l (.dfr true))
    | _ => none
  | .fn _ _ :: _, _ => none
def aresult (P : Program) (fr : Fr) (H : AHeap) : List ResultVar → Option (List AV)
  | [] => some []
  | .tmp t :: rest => (aresult P fr H rest).map (Fr.get fr t :: ·)
  | .cell a t :: rest =>
    match aload P t H (Fr.get fr a) with
    | some v => (aresult P fr H rest).map (v :: ·)
    | none => none
def enterFr (n : Nat) : List AV → Fr
  | [] => []
  | a :: as => (n, a) :: enterFr (n + 1) as
/-- The values that a function returns. -/
def aret (fn : Func) (fr : Fr) (H : AHeap) : Option (AV × AHeap) :=
  match aresult cx.P fr H fn.results.toList with
  | some [v] => if (isPan v).isSome then none else some (v, H)
  | some vs => if (isPan (mkTup vs)).isSome then none else some (mkTup vs, H)
  | none => none
/-- Is it recover, with no arguments? -/
def isRecover : Op → Bool
  | .call c => (match c.callee with | .builtin .recover => true | _ => false) && c.args.isEmpty
  | _ => false
/-- A region that recovers, and nothing else: into which temporaries. -/
def recOf : List Oper → Option (Tmp × Tmp)
  | [o1, o2] =>
    match o1.dst, o2.dst, o2.op with
    | some t, some u, .assign (.tmp t') => if isRecover o1.op && o1.guard.isNone && o2.guard.isNone && t' == t then some (t, u) else none
    | _, _, _ => none
  | _ => none
/-- A function that is called as one that was put off: first of all it recovers. What it leaves. -/
def adefer (O : Oracle) (k : Nat) (g : FuncId) (args : List AV) (m : Option Imm) (H : AHeap) : Option AHeap :=
  match cx.fits g, cx.P.funcs[g]? with
  | true, some fn =>
    match fn.body with
    | some (.seq (.region id ops false) c) =>
      match recOf ops.toList with
      | some (t, u) =>
        match aexec cx O k g none c ⟨(u, .im (m.getD .nili)) :: (t, .im (m.getD .nili)) :: enterFr 0 args, [], H⟩ with
        | some (.nrm, st) | some (.ret, st) => if st.ds.isEmpty && fn.results.isEmpty then some st.H else none
        | _ => none
      | none => none
    | _ => none
  | _, _ => none
/-- How a function is left: m: with what it panics. -/
def aleave (O : Oracle) (k : Nat) (fn : Func) (fr : Fr) : List Dfr → Option Imm → AHeap → Option (AV × AHeap)
  | [], none, H => aret cx fn fr H
  | [], some d, H => some (panV d, H)
  | .mark l :: ds, m, H =>
    match H[l]? with
    | some (.dfr false) => aleave O k fn fr ds m (H.set l (.dfr true))
    | _ => none
  | .fn g as :: ds, m, H =>
    match adefer cx O k g as m H with
    | some H' => aleave O k fn fr ds none H'
    | none => none
def afinish (O : Oracle) (k : Nat) (fn : Func) (r : Option (Ex × St)) : Option (AV × AHeap) :=
  match r with
  | some (.nrm, st) | some (.ret, st) => aleave cx O k fn st.fr st.ds none st.H
  | some (.pan d, st) => aleave cx O k fn st.fr st.ds (some d) st.H
  | _ => none
def setEnd (H : AHeap) (l : Nat) (s : LoopState) (p : Option Jmp) : Option AHeap :=
  match H[l]? with
  | some (.loop _ _ fn fr ps a b d) => some (H.set l (.loop s p fn fr ps a b d))
  | _ => none
def endRoundA (l : Nat) (r : Option (Ex × St)) : Option (AV × AHeap) :=
  match r with
  | some (.nrm, st) => (setEnd st.H l .ready none).map fun H => (.im (.b true), H)
  | some (.ret, st) => (setEnd st.H l .done (some .ret)).map fun H => (.im (.b false), H)
  | some (.exit id, st) => (setEnd st.H l .done (some (.exit id))).map fun H => (.im (.b false), H)
  | some (.pan d, st) => if st.ds.isEmpty then some (panV d, st.H) else none
  | none => none

def acallF : Nat → Oracle
  | 0, _, _ => none
  | k + 1, .fn f args, H =>
    if cx.fits f then
      match cx.P.funcs[f]? with
      | some fn => match fn.body with
        | some c => afinish cx (acallF k) k fn (aexec cx (acallF k) k f none c ⟨enterFr 0 args, [], H⟩)
        | none => none
      | none => none
    else none
  | k + 1, .round l args, H =>
    match H[l]? with
    | some (.loop .ready _ fn fr params assign body _) =>
      if args.length = params.length then
        match aexec cx (acallF k) k fn (some l) assign ⟨(params.zip args).reverse ++ fr, [], H⟩ with
        | some (.nrm, st) =>
          match st.H[l]? with
          | some (.loop .ready p' fn' fr' ps' a' b' d') => endRoundA l (aexec cx (acallF k) k fn (some l) body { st with H := st.H.set l (.loop .busy p' fn' fr' ps' a' b' d') })
          | _ => none
        | _ => none
      else none
    | _ => none

end
end Go.Proofs.Ytnbbhbbhgcipjaa.Am

namespace Go.Proofs.Ytnbbhbbhgcipjaa.Am

/-! ### Immutable data -/
section
variable (w : World) (N Nq : Nat → Prop)
mutual
def RepI : Imm → Value → Prop
  | .und, v => v = undef
  | .b x, v => v = .bool x
  | .i k x, v => v = .int k x
  | .s x, v => v = .string x
  | .nilp, v => v = .pointer none
  | .nilm, v => v = .map none
  | .nilf, v => v = .nilFunc
  | .nili, v => v = .nilIface
  | .sl z q tight es, v => ∃ c, es.length ≤ c ∧ (tight = true → c = es.length) ∧
      ((v = .slice none 0 0 ∧ es = [] ∧ c = 0) ∨ ∃ b o sp, v = .slice (some ⟨b, o, sp⟩) es.length c ∧ (es ≠ [] → sp = none ∧ b < w.heap.size ∧ ¬ (if q then Nq b else N b)) ∧ RepRows b o z es)
  | .ip z q es j off, v => ∃ b o, v = .pointer (some ⟨b, o + j * z + off, none⟩) ∧ (b < w.heap.size ∧ ¬ (if q then Nq b else N b)) ∧ RepRows b o z es
  | .mp q ks vs, v => ∃ r es clock, v = .map (some r) ∧ w.heap[r]? = some (.map es clock) ∧ (¬ (if q then Nq r else N r)) ∧ RepL ks (es.toList.map (·.key)) ∧ RepL vs (es.toList.map (·.val))
  | .agg cs, v => ∃ l, v = .agg l ∧ RepL cs l.toList ∧ ∀ x ∈ l.toList, x.oneCell' = true
  | .tup cs, v => ∃ l, v = .tuple l ∧ RepL cs l.toList
  | .fn f cap, v => ∃ l, v = .func (.func f) #[] l ∧ RepL cap l.toList
  | .ifc t x, v => ∃ u, v = .iface t u ∧ RepI x u
def RepL : List Imm → List Value → Prop
  | [], l => l = []
  | c :: cs, l => ∃ v vs, l = v :: vs ∧ RepI c v ∧ RepL cs vs
def RepCells (b : Nat) : Nat → List Imm → Prop
  | _, [] => True
  | o, c :: cs => (∃ u, w.cell? ⟨b, o, none⟩ = some u ∧ u.oneCell' = true ∧ RepI c u) ∧ RepCells b (o + 1) cs
def RepRows (b : Nat) : Nat → Nat → List (List Imm) → Prop
  | _, _, [] => True
  | o, z, e :: es => e.length = z ∧ RepCells b o e ∧ RepRows b (o + z) z es
end
end

/-- What has to be so of two worlds (and of what is forbidden) that data keep their reading. -/
structure Stay (w w' : World) (N Nq N' Nq' : Nat → Prop) : Prop where
  size : w.heap.size ≤ w'.heap.size
  same : ∀ b, b < w.heap.size → ¬ Nq b → w'.heap[b]? = w.heap[b]?
  sub : ∀ b, b < w.heap.size → N' b → N b
  subq : ∀ b, b < w.heap.size → Nq' b → Nq b
  le : ∀ b, Nq b → N b

theorem cell_same {w w' : World} {b o : Nat} (h : w'.heap[b]? = w.heap[b]?) : w'.cell? ⟨b, o, none⟩ = w.cell? ⟨b, o, none⟩ := by
  unfold World.cell?; simp only [h]

mutual
theorem RepI.mono {w w' : World} {N Nq N' Nq' : Nat → Prop} (S : Stay w w' N Nq N' Nq') : ∀ (d : Imm) (v : Value), RepI w N Nq d v → RepI w' N' Nq' d v
  | .und, v, h | .b _, v, h | .i _ _, v, h | .s _, v, h | .nilp, v, h | .nilm, v, h | .nilf, v, h | .nili, v, h => h
  | .sl z q tight es, v, h => by
    obtain ⟨c, h1, h2, h3⟩ := h
    refine ⟨c, h1, h2, ?_⟩
    rcases h3 with h3 | ⟨b, o, sp, hv, hb, hr⟩
    · exact .inl h3
    · refine .inr ⟨b, o, sp, hv, fun he => ?_, ?_⟩
      · obtain ⟨hsp, hlt, hn⟩ := hb he
        refine ⟨hsp, Nat.lt_of_lt_of_le hlt S.size, fun hn' => hn ?_⟩
        cases q
        · exact S.sub b hlt hn'
        · exact S.subq b hlt hn'
      · by_cases he : es = []
        · subst he; exact trivial
        · obtain ⟨_, hlt, hn⟩ := hb he
          exact RepRows.mono S b (S.same b hlt (fun hq => hn (by cases q; exact S.le b hq; exact hq))) o z es hr
  | .ip z q es j off, v, h => by
    obtain ⟨b, o, hv, ⟨hlt, hn⟩, hr⟩ := h
    refine ⟨b, o, hv, ⟨Nat.lt_of_lt_of_le hlt S.size, fun hn' => hn ?_⟩, ?_⟩
    · cases q
      · exact S.sub b hlt hn'
      · exact S.subq b hlt hn'
    · exact RepRows.mono S b (S.same b hlt (fun hq => hn (by cases q; exact S.le b hq; exact hq))) o z es hr
  | .mp q ks vs, v, h => by
    obtain ⟨r, es, clock, hv, hh, hn, hk, hvs⟩ := h
    have hlt : r < w.heap.size := (Array.getElem?_eq_some_iff.1 hh).1
    refine ⟨r, es, clock, hv, (S.same r hlt (fun hq => hn (by cases q; exact S.le r hq; exact hq))).trans hh, fun hn' => hn ?_, RepL.mono S ks _ hk, RepL.mono S vs _ hvs⟩
    cases q
    · exact S.sub r hlt hn'
    · exact S.subq r hlt hn'
  | .agg cs, v, h => by
    obtain ⟨l, hv, hl, h1⟩ := h
    exact ⟨l, hv, RepL.mono S cs _ hl, h1⟩
  | .tup cs, v, h => by
    obtain ⟨l, hv, hl⟩ := h
    exact ⟨l, hv, RepL.mono S cs _ hl⟩
  | .fn f cap, v, h => by
    obtain ⟨l, hv, hl⟩ := h
    exact ⟨l, hv, RepL.mono S cap _ hl⟩
  | .ifc t x, v, h => by
    obtain ⟨u, hv, hu⟩ := h
    exact ⟨u, hv, RepI.mono S x u hu⟩
theorem RepL.mono {w w' : World} {N Nq N' Nq' : Nat → Prop} (S : Stay w w' N Nq N' Nq') : ∀ (d : List Imm) (v : List Value), RepL w N Nq d v → RepL w' N' Nq' d v
  | [], v, h => h
  | c :: cs, v, h => by
    obtain ⟨x, xs, e, hx, hxs⟩ := h
    exact ⟨x, xs, e, RepI.mono S c x hx, RepL.mono S cs xs hxs⟩
theorem RepCells.mono {w w' : World} {N Nq N' Nq' : Nat → Prop} (S : Stay w w' N Nq N' Nq') (b : Nat) (hb : w'.heap[b]? = w.heap[b]?) : ∀ (o : Nat) (d : List Imm), RepCells w N Nq b o d → RepCells w' N' Nq' b o d
  | _, [], _ => trivial
  | o, c :: cs, h => by
    obtain ⟨⟨u, hu, h1, hr⟩, hs⟩ := h
    exact ⟨⟨u, (cell_same hb).trans hu, h1, RepI.mono S c u hr⟩, RepCells.mono S b hb (o + 1) cs hs⟩
theorem RepRows.mono {w w' : World} {N Nq N' Nq' : Nat → Prop} (S : Stay w w' N Nq N' Nq') (b : Nat) (hb : w'.heap[b]? = w.heap[b]?) : ∀ (o z : Nat) (d : List (List Imm)), RepRows w N Nq b o z d → RepRows w' N' Nq' b o z d
  | _, _, [], _ => trivial
  | o, z, e :: es, h => ⟨h.1, RepCells.mono S b hb o e h.2.1, RepRows.mono S b hb (o + z) z es h.2.2⟩
end

/-! ### Reading lists -/
section
variable {w : World} {N Nq : Nat → Prop}
theorem RepL.length : ∀ {cs : List Imm} {vs : List Value}, RepL w N Nq cs vs → cs.length = vs.length
  | [], _, h => by cases h; rfl
  | _ :: cs, _, h => by obtain ⟨v, vs, rfl, _, h⟩ := h; simp [RepL.length h]
theorem RepL.get : ∀ {cs : List Imm} {vs : List Value} {i : Nat} {c : Imm}, RepL w N Nq cs vs → cs[i]? = some c → ∃ v, vs[i]? = some v ∧ RepI w N Nq c v
  | [], _, _, _, _, hi => by simp at hi
  | c :: cs, _, 0, _, h, hi => by
    obtain ⟨v, vs, rfl, hv, h⟩ := h
    simp at hi; subst hi
    exact ⟨v, rfl, hv⟩
  | c :: cs, _, i + 1, _, h, hi => by
    obtain ⟨v, vs, rfl, hv, h⟩ := h
    simp at hi
    obtain ⟨u, hu, hr⟩ := RepL.get h hi
    exact ⟨u, by simpa using hu, hr⟩
theorem RepL.of_get : ∀ {cs : List Imm} {vs : List Value}, cs.length = vs.length → (∀ (i : Nat) (c : Imm) (v : Value), cs[i]? = some c → vs[i]? = some v → RepI w N Nq c v) → RepL w N Nq cs vs
  | [], [], _, _ => rfl
  | [], _ :: _, h, _ => by simp at h
  | _ :: _, [], h, _ => by simp at h
  | c :: cs, v :: vs, h, hi => ⟨v, vs, rfl, hi 0 c v rfl rfl, RepL.of_get (by simpa using h) (fun i c v h1 h2 => hi (i + 1) c v (by simpa using h1) (by simpa using h2))⟩
theorem RepCells.get : ∀ {b o : Nat} {cs : List Imm} {i : Nat} {c : Imm}, RepCells w N Nq b o cs → cs[i]? = some c → ∃ u, w.cell? ⟨b, o + i, none⟩ = some u ∧ u.oneCell' = true ∧ RepI w N Nq c u
  | _, _, [], _, _, _, hi => by simp at hi
  | b, o, c :: cs, 0, _, h, hi => by simp at hi; subst hi; exact h.1
  | b, o, c :: cs, i + 1, _, h, hi => by
    simp at hi
    have := RepCells.get h.2 hi
    rwa [show o + 1 + i = o + (i + 1) by omega] at this
theorem RepCells.of_get : ∀ {b o : Nat} {cs : List Imm}, (∀ (i : Nat) (c : Imm), cs[i]? = some c → ∃ u, w.cell? ⟨b, o + i, none⟩ = some u ∧ u.oneCell' = true ∧ RepI w N Nq c u) → RepCells w N Nq b o cs
  | _, _, [], _ => trivial
  | b, o, c :: cs, h => ⟨h 0 c rfl, RepCells.of_get fun i c' hi => by have := h (i + 1) c' (by simpa using hi); rwa [show o + (i + 1) = o + 1 + i by omega] at this⟩
theorem RepRows.get : ∀ {b o z : Nat} {es : List (List Imm)} {j : Nat} {e : List Imm}, RepRows w N Nq b o z es → es[j]? = some e → e.length = z ∧ RepCells w N Nq b (o + j * z) e
  | _, _, _, [], _, _, _, hi => by simp at hi
  | b, o, z, c :: cs, 0, _, h, hi => by simp at hi; subst hi; simpa using ⟨h.1, h.2.1⟩
  | b, o, z, c :: cs, i + 1, _, h, hi => by
    simp at hi
    have := RepRows.get h.2.2 hi
    rwa [show o + z + i * z = o + (i + 1) * z by rw [Nat.add_mul]; omega] at this
theorem RepRows.of_get : ∀ {b o z : Nat} {es : List (List Imm)}, (∀ (j : Nat) (e : List Imm), es[j]? = some e → e.length = z ∧ RepCells w N Nq b (o + j * z) e) → RepRows w N Nq b o z es
  | _, _, _, [], _ => trivial
  | b, o, z, c :: cs, h => ⟨(h 0 c rfl).1, by simpa using (h 0 c rfl).2, RepRows.of_get fun j e hj => by
      have := h (j + 1) e (by simpa using hj)
      rwa [show o + (j + 1) * z = o + z + j * z by rw [Nat.add_mul]; omega] at this⟩
end

/-! ### Abstract values -/
def look (ρ : List (Option Nat)) (l : Nat) : Option Nat := (ρ[l]?).join
def AObj.live : AObj → Bool
  | .gone => false
  | _ => true
def Own (ρ : List (Option Nat)) (H : AHeap) (b : Nat) : Prop := ∃ l o, H[l]? = some o ∧ o.live = true ∧ look ρ l = some b

/-- The two sets that data may not lie in. -/
def Nof (ρ : List (Option Nat)) (H : AHeap) (X B : Nat → Prop) (b : Nat) : Prop := Own ρ H b ∨ X b ∨ B b
def Nqof (ρ : List (Option Nat)) (H : AHeap) (X : Nat → Prop) (b : Nat) : Prop := Own ρ H b ∨ X b

def RepFn (ρ : List (Option Nat)) (H : AHeap) : Fn → Fn → Prop
  | .func g, f => f = .func g
  | .yield l, f => l < H.length ∧ ∀ s p fn fr ps a b d, H[l]? = some (.loop s p fn fr ps a b d) → ∃ bl, look ρ l = some bl ∧ f = .yield bl
  | _, _ => False

section
variable (w : World) (ρ : List (Option Nat)) (H : AHeap) (N Nq : Nat → Prop)
mutual
def RepA : AV → Value → Prop
  | .im d, v => RepI w N Nq d v
  | .top, _ => True
  | .ptr l st j off, v => l < H.length ∧ v.oneCell' = true ∧ ∀ es z t, H[l]? = some (.row es z t) → st ≤ es.length ∧ (es.length = st → ∃ b, look ρ l = some b ∧ v = .pointer (some ⟨b, j * z + off, none⟩))
  | .sl l st j n, v => l < H.length ∧ v.oneCell' = true ∧ ∀ es z t, H[l]? = some (.row es z t) → st ≤ es.length ∧ (es.length = st →
      ((look ρ l = none ∧ st = 0) ∧ v = .slice none 0 0 ∧ n = 0) ∨ (n = 0 ∧ 0 < j ∧ ∃ b o, v = .slice (some ⟨b, o, none⟩) 0 0) ∨
      ∃ b c arr, look ρ l = some b ∧ v = .slice (some ⟨b, j * z, none⟩) n c ∧ n ≤ c ∧ w.heap[b]? = some (.cells arr t (0, 0)) ∧ (j + c) * z ≤ arr.size)
  | .map l, v => l < H.length ∧ v.oneCell' = true ∧ ∀ ks vs, H[l]? = some (.map ks vs) → ∃ b, look ρ l = some b ∧ v = .map (some b)
  | .fn f cap, v => ∃ f' l, v = .func f' #[] l ∧ RepFn ρ H f f' ∧ RepAL cap l.toList
  | .agg cs, v => ∃ l, v = .agg l ∧ RepAL cs l.toList ∧ ∀ x ∈ l.toList, x.oneCell' = true
  | .tup cs, v => ∃ l, v = .tuple l ∧ RepAL cs l.toList
  | .ifc t x, v => ∃ u, v = .iface t u ∧ RepA x u
def RepAL : List AV → List Value → Prop
  | [], l => l = []
  | c :: cs, l => ∃ v vs, l = v :: vs ∧ RepA c v ∧ RepAL cs vs
end
end

def RepFr (w : World) (ρ : List (Option Nat)) (H : AHeap) (N Nq : Nat → Prop) (fr : Fr) (tmps : Array Value) : Prop :=
  ∀ t, RepA w ρ H N Nq (Fr.get fr t) (tmps.getD t undef)

def Jmp.code : Jmp → Code
  | .ret => .ret
  | .exit id => .exit id

/-- What the code of a loop's rounds has to fit. -/
class LFit where
  fit : FuncId → List Tmp → Code → Code → Nat → FuncId → Prop
variable [LFit]

def RepO (w : World) (ρ : List (Option Nat)) (H : AHeap) (N Nq : Nat → Prop) (l : Nat) : AObj → Prop
  | .row es z t => look ρ l = none ∨ ∃ b arr, look ρ l = some b ∧ w.heap[b]? = some (.cells arr t (0, 0)) ∧ es.length * z ≤ arr.size ∧
      (∀ (j : Nat) (e : List AV), es[j]? = some e → e.length = z) ∧ ∀ (j : Nat) (e : List AV) (m : Nat) (c : AV), es[j]? = some e → e[m]? = some c → ∃ u, arr[j * z + m]? = some u ∧ u.oneCell' = true ∧ RepA w ρ H N Nq c u
  | .map ks vs => ∃ b es clock, look ρ l = some b ∧ w.heap[b]? = some (.map es clock) ∧ RepAL w ρ H N Nq (ks.map .im) (es.toList.map (·.key)) ∧ RepAL w ρ H N Nq vs (es.toList.map (·.val))
  | .loop s p fn fr ps a b _ => ∃ bl L, look ρ l = some bl ∧ w.heap[bl]? = some (.loop L) ∧ L.state = s ∧ L.pending = p.map Jmp.code ∧ RepFr w ρ H N Nq fr L.tmps ∧
      L.params.toList = ps ∧ L.assign = a ∧ L.body = b ∧ LFit.fit fn ps a b L.tmps.size L.fn
  | .dfr done => ∃ b, look ρ l = some b ∧ w.heap[b]? = some (.deferred (if done then none else some []))
  | .gone => True

structure HRel (X B : Nat → Prop) (ρ : List (Option Nat)) (w : World) (H : AHeap) : Prop where
  xlt : ∀ b, X b → b < w.heap.size
  blt : ∀ b, B b → b < w.heap.size
  len : ρ.length = H.length
  own : ∀ b, Own ρ H b → b < w.heap.size ∧ ¬ X b ∧ ¬ B b
  inj : ∀ l l' o o' b, H[l]? = some o → o.live = true → look ρ l = some b → H[l']? = some o' → o'.live = true → look ρ l' = some b → l = l'
  obj : ∀ l o, H[l]? = some o → RepO w ρ H (Nof ρ H X B) (Nqof ρ H X) l o

/-- One object, before and after. -/
def OEvo (ρ ρ' : List (Option Nat)) (w w' : World) (l : Nat) : AObj → AObj → Prop
  | _, .gone => True
  | .row es z t, o' => ∃ es', o' = .row es' z t ∧ es.length ≤ es'.length ∧ (es'.length = es.length → look ρ' l = look ρ l ∧
      ∀ b arr, look ρ l = some b → w.heap[b]? = some (.cells arr t (0, 0)) → ∃ arr', w'.heap[b]? = some (.cells arr' t (0, 0)) ∧ arr'.size = arr.size)
  | .map _ _, o' => ∃ ks' vs', o' = .map ks' vs' ∧ look ρ' l = look ρ l
  | .loop _ _ fn fr ps a b d, o' => ∃ s' p', o' = .loop s' p' fn fr ps a b d ∧ look ρ' l = look ρ l
  | .dfr _, o' => ∃ d', o' = .dfr d' ∧ look ρ' l = look ρ l
  | .gone, _ => False

structure Evo (ρ : List (Option Nat)) (w : World) (H : AHeap) (ρ' : List (Option Nat)) (w' : World) (H' : AHeap) : Prop where
  os : w'.os = w.os
  tape : w'.tape = w.tape
  output : w'.output = w.output
  size : w.heap.size ≤ w'.heap.size
  same : ∀ b, b < w.heap.size → ¬ Own ρ H b → w'.heap[b]? = w.heap[b]?
  len : H.length ≤ H'.length
  obj : ∀ l o, H[l]? = some o → ∃ o', H'[l]? = some o' ∧ OEvo ρ ρ' w w' l o o'
  fresh : ∀ b, Own ρ' H' b → b < w.heap.size → Own ρ H b

theorem OEvo.trans {ρ ρ' ρ'' : List (Option Nat)} {w w' w'' : World} {l : Nat} {o o' o'' : AObj} (h : OEvo ρ ρ' w w' l o o') (h' : OEvo ρ' ρ'' w' w'' l o' o'') : OEvo ρ ρ'' w w'' l o o'' := by
  cases o'' with
  | gone => cases o <;> trivial
  | row es'' z'' t'' =>
    cases o' <;> simp only [OEvo] at h'
    case row es' z' t' =>
      obtain ⟨_, e, hle, hs⟩ := h'
      cases e
      cases o <;> simp only [OEvo] at h ⊢
      case row es z t =>
        obtain ⟨_, e, hle', hs'⟩ := h
        cases e
        refine ⟨_, rfl, by omega, fun he => ?_⟩
        obtain ⟨h1, h2⟩ := hs (by omega)
        obtain ⟨h3, h4⟩ := hs' (by omega)
        refine ⟨h1.trans h3, fun b arr hb ha => ?_⟩
        obtain ⟨arr', ha', hz'⟩ := h4 b arr hb ha
        obtain ⟨arr'', ha'', hz''⟩ := h2 b arr' (h3.trans hb) ha'
        exact ⟨arr'', ha'', hz''.trans hz'⟩
      all_goals (obtain ⟨_, h⟩ := h; simp at h)
    all_goals (obtain ⟨_, h'⟩ := h'; simp at h')
  | map ks'' vs'' =>
    cases o' <;> simp only [OEvo] at h'
    case map ks' vs' =>
      obtain ⟨_, _, e, hs⟩ := h'
      cases e
      cases o <;> simp only [OEvo] at h ⊢
      case map ks vs =>
        obtain ⟨_, _, e, hs'⟩ := h
        exact ⟨_, _, rfl, hs.trans hs'⟩
      all_goals (obtain ⟨_, h⟩ := h; simp at h)
    all_goals (obtain ⟨_, h'⟩ := h'; simp at h')
  | loop s p fn fr ps a b d =>
    cases o' <;> simp only [OEvo] at h'
    case loop =>
      obtain ⟨_, _, e, hs⟩ := h'
      cases e
      cases o <;> simp only [OEvo] at h ⊢
      case loop =>
        obtain ⟨_, _, e, hs'⟩ := h
        cases e
        exact ⟨_, _, rfl, hs.trans hs'⟩
      all_goals (obtain ⟨_, h⟩ := h; simp at h)
    all_goals (obtain ⟨_, h'⟩ := h'; simp at h')
  | dfr d =>
    cases o' <;> simp only [OEvo] at h'
    case dfr =>
      obtain ⟨_, e, hs⟩ := h'
      cases e
      cases o <;> simp only [OEvo] at h ⊢
      case dfr =>
        obtain ⟨_, e, hs'⟩ := h
        exact ⟨_, rfl, hs.trans hs'⟩
      all_goals (obtain ⟨_, h⟩ := h; simp at h)
    all_goals (obtain ⟨_, h'⟩ := h'; simp at h')

theorem OEvo.refl (ρ : List (Option Nat)) (w : World) (l : Nat) (o : AObj) : OEvo ρ ρ w w l o o := by
  cases o with
  | row es z t => exact ⟨es, rfl, Nat.le_refl _, fun _ => ⟨rfl, fun b arr _ ha => ⟨arr, ha, rfl⟩⟩⟩
  | map ks vs => exact ⟨ks, vs, rfl, rfl⟩
  | loop s p => exact ⟨s, p, rfl, rfl⟩
  | dfr d => exact ⟨d, rfl, rfl⟩
  | gone => trivial

theorem Evo.refl (ρ : List (Option Nat)) (w : World) (H : AHeap) : Evo ρ w H ρ w H :=
  ⟨rfl, rfl, rfl, Nat.le_refl _, fun _ _ _ => rfl, Nat.le_refl _, fun l o h => ⟨o, h, OEvo.refl ρ w l o⟩, fun _ h _ => h⟩

theorem Evo.trans {ρ ρ' ρ'' : List (Option Nat)} {w w' w'' : World} {H H' H'' : AHeap} (h : Evo ρ w H ρ' w' H') (h' : Evo ρ' w' H' ρ'' w'' H'') : Evo ρ w H ρ'' w'' H'' where
  os := h'.os.trans h.os
  tape := h'.tape.trans h.tape
  output := h'.output.trans h.output
  size := Nat.le_trans h.size h'.size
  same b hb hn := (h'.same b (Nat.lt_of_lt_of_le hb h.size) (fun ho => hn (h.fresh b ho hb))).trans (h.same b hb hn)
  len := Nat.le_trans h.len h'.len
  obj l o ho := by
    obtain ⟨o', ho', e⟩ := h.obj l o ho
    obtain ⟨o'', ho'', e'⟩ := h'.obj l o' ho'
    exact ⟨o'', ho'', e.trans e'⟩
  fresh b ho hb := h.fresh b (h'.fresh b ho (Nat.lt_of_lt_of_le hb h.size)) hb

theorem Evo.stay {ρ ρ' : List (Option Nat)} {w w' : World} {H H' : AHeap} (h : Evo ρ w H ρ' w' H') (X B : Nat → Prop) :
    Stay w w' (Nof ρ H X B) (Nqof ρ H X) (Nof ρ' H' X B) (Nqof ρ' H' X) where
  size := h.size
  same b hb hn := h.same b hb (fun ho => hn (.inl ho))
  sub b hb hn := hn.imp (fun ho => h.fresh b ho hb) id
  subq b hb hn := hn.imp (fun ho => h.fresh b ho hb) id
  le _ hn := hn.imp id .inl

/-- What has to be so that a value goes on to stand for what it stands for. -/
structure Sees (ρ : List (Option Nat)) (w : World) (H : AHeap) (ρ' : List (Option Nat)) (w' : World) (H' : AHeap) : Prop where
  len : H.length ≤ H'.length
  row : ∀ l es z t, l < H.length → H'[l]? = some (.row es z t) → ∃ es0, H[l]? = some (.row es0 z t) ∧ es0.length ≤ es.length ∧ (es.length = es0.length → (look ρ' l = look ρ l ∨ (look ρ l = none ∧ es0 ≠ [])) ∧
      ∀ b arr, look ρ l = some b → w.heap[b]? = some (.cells arr t (0, 0)) → ∃ arr', w'.heap[b]? = some (.cells arr' t (0, 0)) ∧ arr'.size = arr.size)
  map : ∀ l ks vs, l < H.length → H'[l]? = some (.map ks vs) → ∃ ks0 vs0, H[l]? = some (.map ks0 vs0) ∧ look ρ' l = look ρ l
  loop : ∀ l s p fn fr ps a b d, l < H.length → H'[l]? = some (.loop s p fn fr ps a b d) → ∃ s0 p0 fn0 fr0 ps0 a0 b0 d0, H[l]? = some (.loop s0 p0 fn0 fr0 ps0 a0 b0 d0) ∧ look ρ' l = look ρ l

section
variable {ρ ρ' : List (Option Nat)} {w w' : World} {H H' : AHeap} {N Nq N' Nq' : Nat → Prop}
/-- What an object was, by what it is now. -/
theorem Evo.back_row (E : Evo ρ w H ρ' w' H') {l : Nat} (hl : l < H.length) {es : List (List AV)} {z : Nat} {t : TypeId} (h : H'[l]? = some (.row es z t)) :
    ∃ es0, H[l]? = some (.row es0 z t) ∧ es0.length ≤ es.length ∧ (es.length = es0.length → look ρ' l = look ρ l ∧
      ∀ b arr, look ρ l = some b → w.heap[b]? = some (.cells arr t (0, 0)) → ∃ arr', w'.heap[b]? = some (.cells arr' t (0, 0)) ∧ arr'.size = arr.size) := by
  obtain ⟨o', ho', e⟩ := E.obj l _ (List.getElem?_eq_getElem hl)
  rw [h] at ho'
  cases ho'
  generalize ho : H[l] = o at e
  have ho2 : H[l]? = some o := by rw [List.getElem?_eq_getElem hl, ho]
  cases o <;> simp only [OEvo] at e
  case row es0 z0 t0 =>
    obtain ⟨_, e1, hle, e2⟩ := e
    cases e1
    exact ⟨es0, ho2, hle, e2⟩
  all_goals (obtain ⟨_, e⟩ := e; simp at e)
theorem Evo.back_map (E : Evo ρ w H ρ' w' H') {l : Nat} (hl : l < H.length) {ks : List Imm} {vs : List AV} (h : H'[l]? = some (.map ks vs)) :
    ∃ ks0 vs0, H[l]? = some (.map ks0 vs0) ∧ look ρ' l = look ρ l := by
  obtain ⟨o', ho', e⟩ := E.obj l _ (List.getElem?_eq_getElem hl)
  rw [h] at ho'
  cases ho'
  generalize ho : H[l] = o at e
  have ho2 : H[l]? = some o := by rw [List.getElem?_eq_getElem hl, ho]
  cases o <;> simp only [OEvo] at e
  case map ks0 vs0 =>
    obtain ⟨_, _, e1, e2⟩ := e
    exact ⟨ks0, vs0, ho2, e2⟩
  all_goals (obtain ⟨_, e⟩ := e; simp at e)

theorem Evo.sees (E : Evo ρ w H ρ' w' H') : Sees ρ w H ρ' w' H' where
  len := E.len
  row l es z t hl h := by
    obtain ⟨es0, h1, h2, h3⟩ := E.back_row hl h
    exact ⟨es0, h1, h2, fun he => ⟨.inl (h3 he).1, (h3 he).2⟩⟩
  map l ks vs hl h := E.back_map hl h
  loop l s p fn fr ps a b d hl h := by
    obtain ⟨o', ho', e⟩ := E.obj l _ (List.getElem?_eq_getElem hl)
    rw [h] at ho'
    cases ho'
    generalize ho : H[l] = o at e
    have ho2 : H[l]? = some o := by rw [List.getElem?_eq_getElem hl, ho]
    cases o <;> simp only [OEvo] at e
    case loop =>
      obtain ⟨_, _, e1, e2⟩ := e
      exact ⟨_, _, _, _, _, _, _, _, ho2, e2⟩
    all_goals (obtain ⟨_, e⟩ := e; simp at e)
theorem RepFn.monoS (E : Sees ρ w H ρ' w' H') {f f' : Fn} (h : RepFn ρ H f f') : RepFn ρ' H' f f' := by
  cases f with
  | yield l =>
    obtain ⟨hl, h⟩ := h
    refine ⟨Nat.lt_of_lt_of_le hl E.len, fun s p fn fr ps a b d h' => ?_⟩
    obtain ⟨_, _, _, _, _, _, _, _, h0, e⟩ := E.loop l s p fn fr ps a b d hl h'
    obtain ⟨bl, hb, hf⟩ := h _ _ _ _ _ _ _ _ h0
    exact ⟨bl, e.trans hb, hf⟩
  | func g => exact h
  | _ => exact h.elim
mutual
theorem RepA.monoS (E : Sees ρ w H ρ' w' H') (S : Stay w w' N Nq N' Nq') : ∀ (c : AV) (v : Value), RepA w ρ H N Nq c v → RepA w' ρ' H' N' Nq' c v
  | .im d, v, h => RepI.mono S d v h
  | .top, _, _ => trivial
  | .ptr l st j off, v, h => by
    obtain ⟨hl, h1c, h⟩ := h
    refine ⟨Nat.lt_of_lt_of_le hl E.len, h1c, fun es z t h' => ?_⟩
    obtain ⟨es0, h0, hle, e2⟩ := E.row l es z t hl h'
    obtain ⟨hst, h1⟩ := h _ _ _ h0
    refine ⟨by omega, fun he => ?_⟩
    obtain ⟨b, hb, hv⟩ := h1 (by omega)
    rcases (e2 (by omega)).1 with e3 | ⟨e3, _⟩
    · exact ⟨b, e3.trans hb, hv⟩
    · rw [e3] at hb; cases hb
  | .sl l st j n, v, h => by
    obtain ⟨hl, h1c, h⟩ := h
    refine ⟨Nat.lt_of_lt_of_le hl E.len, h1c, fun es z t h' => ?_⟩
    obtain ⟨es0, h0, hle, e2⟩ := E.row l es z t hl h'
    obtain ⟨hst, h1⟩ := h _ _ _ h0
    refine ⟨by omega, fun he => ?_⟩
    obtain ⟨e3, e4⟩ := e2 (by omega)
    rcases h1 (by omega) with ⟨⟨hn, hst0⟩, hv, h0'⟩ | h1 | ⟨b, c, arr, hb, hv, hc, ha, hsz⟩
    · rcases e3 with e3 | ⟨_, e3⟩
      · exact .inl ⟨⟨e3.trans hn, hst0⟩, hv, h0'⟩
      · exact absurd (List.eq_nil_of_length_eq_zero (by omega)) e3
    · exact .inr (.inl h1)
    · obtain ⟨arr', ha', hz⟩ := e4 b arr hb ha
      rcases e3 with e3 | ⟨e3, _⟩
      · exact .inr (.inr ⟨b, c, arr', e3.trans hb, hv, hc, ha', by omega⟩)
      · rw [e3] at hb; cases hb
  | .map l, v, h => by
    obtain ⟨hl, h1c, h⟩ := h
    refine ⟨Nat.lt_of_lt_of_le hl E.len, h1c, fun ks vs h' => ?_⟩
    obtain ⟨ks0, vs0, h0, e⟩ := E.map l ks vs hl h'
    obtain ⟨b, hb, hv⟩ := h _ _ h0
    exact ⟨b, e.trans hb, hv⟩
  | .fn f cap, v, h => by
    obtain ⟨f', l, hv, hf, hl⟩ := h
    exact ⟨f', l, hv, RepFn.monoS E hf, RepAL.monoS E S cap _ hl⟩
  | .agg cs, v, h => by
    obtain ⟨l, hv, hl, h1⟩ := h
    exact ⟨l, hv, RepAL.monoS E S cs _ hl, h1⟩
  | .tup cs, v, h => by
    obtain ⟨l, hv, hl⟩ := h
    exact ⟨l, hv, RepAL.monoS E S cs _ hl⟩
  | .ifc t x, v, h => by
    obtain ⟨u, hv, hu⟩ := h
    exact ⟨u, hv, RepA.monoS E S x u hu⟩
theorem RepAL.monoS (E : Sees ρ w H ρ' w' H') (S : Stay w w' N Nq N' Nq') : ∀ (c : List AV) (v : List Value), RepAL w ρ H N Nq c v → RepAL w' ρ' H' N' Nq' c v
  | [], _, h => h
  | c :: cs, _, h => by
    obtain ⟨v, vs, e, hv, hs⟩ := h
    exact ⟨v, vs, e, RepA.monoS E S c v hv, RepAL.monoS E S cs vs hs⟩
end
theorem RepFr.monoS (E : Sees ρ w H ρ' w' H') (S : Stay w w' N Nq N' Nq') {fr : Fr} {tmps : Array Value} (h : RepFr w ρ H N Nq fr tmps) : RepFr w' ρ' H' N' Nq' fr tmps :=
  fun t => RepA.monoS E S _ _ (h t)
theorem RepA.mono (E : Evo ρ w H ρ' w' H') (S : Stay w w' N Nq N' Nq') (c : AV) (v : Value) (h : RepA w ρ H N Nq c v) : RepA w' ρ' H' N' Nq' c v := RepA.monoS E.sees S c v h
theorem RepAL.mono (E : Evo ρ w H ρ' w' H') (S : Stay w w' N Nq N' Nq') (c : List AV) (v : List Value) (h : RepAL w ρ H N Nq c v) : RepAL w' ρ' H' N' Nq' c v := RepAL.monoS E.sees S c v h
theorem RepFr.mono (E : Evo ρ w H ρ' w' H') (S : Stay w w' N Nq N' Nq') {fr : Fr} {tmps : Array Value} (h : RepFr w ρ H N Nq fr tmps) : RepFr w' ρ' H' N' Nq' fr tmps :=
  fun t => RepA.mono E S _ _ (h t)
end

section
variable {w : World} {ρ : List (Option Nat)} {H : AHeap} {N Nq : Nat → Prop}
theorem RepAL.length : ∀ {cs : List AV} {vs : List Value}, RepAL w ρ H N Nq cs vs → cs.length = vs.length
  | [], _, h => by cases h; rfl
  | _ :: cs, _, h => by obtain ⟨v, vs, rfl, _, h⟩ := h; simp [RepAL.length h]
theorem RepAL.get : ∀ {cs : List AV} {vs : List Value} {i : Nat} {c : AV}, RepAL w ρ H N Nq cs vs → cs[i]? = some c → ∃ v, vs[i]? = some v ∧ RepA w ρ H N Nq c v
  | [], _, _, _, _, hi => by simp at hi
  | c :: cs, _, 0, _, h, hi => by
    obtain ⟨v, vs, rfl, hv, h⟩ := h
    simp at hi; subst hi
    exact ⟨v, rfl, hv⟩
  | c :: cs, _, i + 1, _, h, hi => by
    obtain ⟨v, vs, rfl, hv, h⟩ := h
    simp at hi
    obtain ⟨u, hu, hr⟩ := RepAL.get h hi
    exact ⟨u, by simpa using hu, hr⟩
theorem RepAL.of_get : ∀ {cs : List AV} {vs : List Value}, cs.length = vs.length → (∀ (i : Nat) (c : AV) (v : Value), cs[i]? = some c → vs[i]? = some v → RepA w ρ H N Nq c v) → RepAL w ρ H N Nq cs vs
  | [], [], _, _ => rfl
  | [], _ :: _, h, _ => by simp at h
  | _ :: _, [], h, _ => by simp at h
  | c :: cs, v :: vs, h, hi => ⟨v, vs, rfl, hi 0 c v rfl rfl, RepAL.of_get (by simpa using h) (fun i c v h1 h2 => hi (i + 1) c v (by simpa using h1) (by simpa using h2))⟩
theorem RepAL.im : ∀ {cs : List Imm} {vs : List Value}, RepAL w ρ H N Nq (cs.map .im) vs ↔ RepL w N Nq cs vs
  | [], _ => Iff.rfl
  | _ :: _, _ => ⟨fun ⟨v, vs', e, hv, h⟩ => ⟨v, vs', e, hv, RepAL.im.1 h⟩, fun ⟨v, vs', e, hv, h⟩ => ⟨v, vs', e, hv, RepAL.im.2 h⟩⟩
end
end Go.Proofs.Ytnbbhbbhgcipjaa.Am

namespace Go.Proofs.Ytnbbhbbhgcipjaa.Am
variable [LFit]
section
variable {X B : Nat → Prop} {ρ ρ' : List (Option Nat)} {w w' : World} {H H' : AHeap} {N Nq N' Nq' : Nat → Prop}

theorem look_lt {l b : Nat} (h : look ρ l = some b) : l < ρ.length := by
  unfold look at h
  by_cases hl : l < ρ.length
  · exact hl
  · rw [List.getElem?_eq_none (by omega)] at h; simp at h
theorem look_append {ρ σ : List (Option Nat)} {l : Nat} (hl : l < ρ.length) : look (ρ ++ σ) l = look ρ l := by
  unfold look; rw [List.getElem?_append_left hl]
theorem look_new {ρ : List (Option Nat)} (x : Option Nat) : look (ρ ++ [x]) ρ.length = x := by
  unfold look; simp
theorem look_set {ρ : List (Option Nat)} {l : Nat} (hl : l < ρ.length) (x : Option Nat) : look (ρ.set l x) l = x := by
  unfold look; simp [hl]
theorem look_set_ne {ρ : List (Option Nat)} {l l' : Nat} (h : l ≠ l') (x : Option Nat) : look (ρ.set l x) l' = look ρ l' := by
  unfold look; rw [List.getElem?_set_ne h]

theorem RepO.monoS (E : Sees ρ w H ρ' w' H') (S : Stay w w' N Nq N' Nq') {l : Nat} {o : AObj} (hr : look ρ' l = look ρ l) (hb : ∀ b, look ρ l = some b → w'.heap[b]? = w.heap[b]?)
    (h : RepO w ρ H N Nq l o) : RepO w' ρ' H' N' Nq' l o := by
  cases o with
  | row es z t =>
    rcases h with h | ⟨b, arr, h1, h2, h3, h4, h5⟩
    · exact .inl (hr.trans h)
    · refine .inr ⟨b, arr, hr.trans h1, (hb b h1).trans h2, h3, h4, fun j e m c hj hm => ?_⟩
      obtain ⟨u, hu, h6, h7⟩ := h5 j e m c hj hm
      exact ⟨u, hu, h6, RepA.monoS E S _ _ h7⟩
  | map ks vs =>
    obtain ⟨b, es, clock, h1, h2, h3, h4⟩ := h
    exact ⟨b, es, clock, hr.trans h1, (hb b h1).trans h2, RepAL.monoS E S _ _ h3, RepAL.monoS E S _ _ h4⟩
  | loop s p fn fr ps a bd d =>
    obtain ⟨bl, L, h1, h2, h3, h4, h6, h7⟩ := h
    exact ⟨bl, L, hr.trans h1, (hb bl h1).trans h2, h3, h4, RepFr.monoS E S h6, h7⟩
  | dfr d =>
    obtain ⟨b, h1, h2⟩ := h
    exact ⟨b, hr.trans h1, (hb b h1).trans h2⟩
  | gone => trivial

theorem RepO.mono (E : Evo ρ w H ρ' w' H') (S : Stay w w' N Nq N' Nq') {l : Nat} {o : AObj} (hr : look ρ' l = look ρ l) (hb : ∀ b, look ρ l = some b → w'.heap[b]? = w.heap[b]?)
    (h : RepO w ρ H N Nq l o) : RepO w' ρ' H' N' Nq' l o := RepO.monoS E.sees S hr hb h

/-- One step: at most one place (l0) turns to a new block. -/
theorem HRel.step (R : HRel X B ρ w H) (E : Evo ρ w H ρ' w' H') (hlen : ρ'.length = H'.length) (l0 : Nat)
    (hplace : ∀ l o b, H'[l]? = some o → o.live = true → look ρ' l = some b → (w.heap.size ≤ b ∧ b < w'.heap.size ∧ l = l0) ∨ (look ρ l = some b ∧ ∃ o0, H[l]? = some o0 ∧ o0.live = true))
    (hobj : ∀ l o, H'[l]? = some o → (H[l]? = some o ∧ look ρ' l = look ρ l ∧ ∀ b, look ρ l = some b → o.live = true → w'.heap[b]? = w.heap[b]?) ∨ RepO w' ρ' H' (Nof ρ' H' X B) (Nqof ρ' H' X) l o) :
    HRel X B ρ' w' H' where
  xlt b hb := Nat.lt_of_lt_of_le (R.xlt b hb) E.size
  blt b hb := Nat.lt_of_lt_of_le (R.blt b hb) E.size
  len := hlen
  own b hb := by
    obtain ⟨l, o, ho, hl, hr⟩ := hb
    rcases hplace l o b ho hl hr with ⟨h1, h2, _⟩ | ⟨h1, o0, h2, h3⟩
    · exact ⟨h2, fun hx => absurd (R.xlt b hx) (by omega), fun hx => absurd (R.blt b hx) (by omega)⟩
    · obtain ⟨h4, h5, h6⟩ := R.own b ⟨l, o0, h2, h3, h1⟩
      exact ⟨Nat.lt_of_lt_of_le h4 E.size, h5, h6⟩
  inj l l' o o' b ho hl hr ho' hl' hr' := by
    rcases hplace l o b ho hl hr with ⟨h1, h2, e⟩ | ⟨h1, o0, h2, h3⟩ <;> rcases hplace l' o' b ho' hl' hr' with ⟨h1', h2', e'⟩ | ⟨h1', o0', h2', h3'⟩
    · exact e.trans e'.symm
    · have := (R.own b ⟨l', o0', h2', h3', h1'⟩).1; omega
    · have := (R.own b ⟨l, o0, h2, h3, h1⟩).1; omega
    · exact R.inj l l' o0 o0' b h2 h3 h1 h2' h3' h1'
  obj l o ho := by
    rcases hobj l o ho with ⟨h1, h2, h3⟩ | h
    · by_cases hlive : o.live = true
      · exact RepO.mono E (E.stay X B) h2 (fun b hb => h3 b hb hlive) (R.obj l o h1)
      · cases o <;> simp [AObj.live] at hlive
        trivial
    · exact h

/-! ### A new block -/
/-- All but the heap (and how much has been drawn) is the same. -/
structure HeapIs (w w' : World) (h : Array Obj) : Prop where
  heap : w'.heap = h
  os : w'.os = w.os
  tape : w'.tape = w.tape
  output : w'.output = w.output
theorem HeapIs.size_push {oc : Obj} (hw : HeapIs w w' (w.heap.push oc)) : w'.heap.size = w.heap.size + 1 := by rw [hw.heap]; simp
theorem HeapIs.old {oc : Obj} (hw : HeapIs w w' (w.heap.push oc)) {b : Nat} (hb : b < w.heap.size) : w'.heap[b]? = w.heap[b]? := by
  rw [hw.heap, Array.getElem?_push_lt hb, Array.getElem?_eq_getElem hb]
theorem HeapIs.new {oc : Obj} (hw : HeapIs w w' (w.heap.push oc)) : w'.heap[w.heap.size]? = some oc := by rw [hw.heap]; simp
theorem HeapIs.size_set {b : Nat} {oc : Obj} (hw : HeapIs w w' (w.heap.setIfInBounds b oc)) : w'.heap.size = w.heap.size := by rw [hw.heap]; simp
theorem HeapIs.set_same {b : Nat} {oc : Obj} (hw : HeapIs w w' (w.heap.setIfInBounds b oc)) (hb : b < w.heap.size) : w'.heap[b]? = some oc := by rw [hw.heap]; simp [hb]
theorem HeapIs.set_ne {b b' : Nat} {oc : Obj} (hw : HeapIs w w' (w.heap.setIfInBounds b oc)) (h : b ≠ b') : w'.heap[b']? = w.heap[b']? := by
  rw [hw.heap, Array.getElem?_setIfInBounds_ne h]

theorem OEvo.keep {l : Nat} {o : AObj} (hr : look ρ' l = look ρ l) (hb : ∀ b arr t, look ρ l = some b → w.heap[b]? = some (.cells arr t (0, 0)) → w'.heap[b]? = w.heap[b]?) : OEvo ρ ρ' w w' l o o := by
  cases o with
  | row es z t => exact ⟨es, rfl, Nat.le_refl _, fun _ => ⟨hr, fun b arr h ha => ⟨arr, (hb b arr t h ha).trans ha, rfl⟩⟩⟩
  | map ks vs => exact ⟨ks, vs, rfl, hr⟩
  | loop s p => exact ⟨s, p, rfl, hr⟩
  | dfr d => exact ⟨d, rfl, hr⟩
  | gone => trivial

/-- The heap is the very same. -/
theorem Evo.idle (hw : HeapIs w w' w.heap) : Evo ρ w H ρ w' H :=
  ⟨hw.os, hw.tape, hw.output, by rw [hw.heap]; exact Nat.le_refl _, fun b _ _ => by rw [hw.heap], Nat.le_refl _, fun l o h => ⟨o, h, OEvo.keep rfl fun b _ _ _ _ => by rw [hw.heap]⟩, fun _ h _ => h⟩
theorem HRel.idle (R : HRel X B ρ w H) (hw : HeapIs w w' w.heap) : HRel X B ρ w' H :=
  R.step (Evo.idle hw) R.len 0 (fun _ o b h hl hr => .inr ⟨hr, o, h, hl⟩) fun _ _ h => .inl ⟨h, rfl, fun b _ _ => by rw [hw.heap]⟩

/-- A new block that no name is given. -/
theorem Evo.bare {oc : Obj} (hw : HeapIs w w' (w.heap.push oc)) : Evo ρ w H ρ w' H :=
  ⟨hw.os, hw.tape, hw.output, by rw [hw.size_push]; omega, fun b hb _ => hw.old hb, Nat.le_refl _, fun l o h => ⟨o, h, OEvo.keep rfl fun b _ _ _ ha => hw.old (Array.getElem?_eq_some_iff.1 ha).1⟩, fun _ h _ => h⟩
theorem HRel.bare (R : HRel X B ρ w H) {oc : Obj} (hw : HeapIs w w' (w.heap.push oc)) : HRel X B ρ w' H :=
  R.step (Evo.bare hw) R.len 0 (fun _ o b h hl hr => .inr ⟨hr, o, h, hl⟩) fun l o h => .inl ⟨h, rfl, fun b hb hl => hw.old (R.own b ⟨l, o, h, hl, hb⟩).1⟩
theorem HRel.fresh (R : HRel X B ρ w H) : ¬ Nof ρ H X B w.heap.size := by
  rintro (h | h | h)
  · have := (R.own _ h).1; omega
  · have := R.xlt _ h; omega
  · have := R.blt _ h; omega

theorem append_case {o : AObj} {l : Nat} {o' : AObj} (h : (H ++ [o])[l]? = some o') : (l < H.length ∧ H[l]? = some o') ∨ (l = H.length ∧ o' = o) := by
  by_cases hlH : l < H.length
  · rw [List.getElem?_append_left hlH] at h; exact .inl ⟨hlH, h⟩
  · have : l = H.length := by
      have := (List.getElem?_eq_some_iff.1 h).1
      simp at this; omega
    subst this; simp at h; exact .inr ⟨rfl, h.symm⟩

/-- A new name: for nothing yet (x = none), or for the new block. -/
theorem HRel.name (R : HRel X B ρ w H) (E0 : Evo ρ w H ρ w' H) (o : AObj) (x : Option Nat) (hx : x = none ∨ (x = some w.heap.size ∧ w.heap.size < w'.heap.size))
    (hold : ∀ b, b < w.heap.size → w'.heap[b]? = w.heap[b]?)
    (ho : RepO w' (ρ ++ [x]) (H ++ [o]) (Nof (ρ ++ [x]) (H ++ [o]) X B) (Nqof (ρ ++ [x]) (H ++ [o]) X) H.length o) :
    Evo ρ w H (ρ ++ [x]) w' (H ++ [o]) ∧ HRel X B (ρ ++ [x]) w' (H ++ [o]) := by
  have E : Evo ρ w H (ρ ++ [x]) w' (H ++ [o]) :=
    { os := E0.os, tape := E0.tape, output := E0.output, size := E0.size
      same := fun b hb _ => hold b hb
      len := by simp
      obj := fun l o' h => by
        have hl : l < H.length := (List.getElem?_eq_some_iff.1 h).1
        refine ⟨o', by rw [List.getElem?_append_left hl]; exact h, OEvo.keep (look_append (by rw [R.len]; exact hl)) fun b _ _ _ ha => hold b (Array.getElem?_eq_some_iff.1 ha).1⟩
      fresh := fun b hb hlt => by
        obtain ⟨l, o', h, hl, hr⟩ := hb
        rcases append_case h with ⟨h1, h2⟩ | ⟨rfl, rfl⟩
        · rw [look_append (by rw [R.len]; exact h1)] at hr
          exact ⟨l, o', h2, hl, hr⟩
        · rw [← R.len, look_new] at hr
          rcases hx with hx | ⟨hx, _⟩
          · rw [hx] at hr; cases hr
          · rw [hx] at hr; cases hr; omega }
  refine ⟨E, R.step E (by simp [R.len]) H.length (fun l o' b h hl hr => ?_) (fun l o' h => ?_)⟩
  · rcases append_case h with ⟨h1, h2⟩ | ⟨rfl, rfl⟩
    · rw [look_append (by rw [R.len]; exact h1)] at hr
      exact .inr ⟨hr, o', h2, hl⟩
    · rw [← R.len, look_new] at hr
      rcases hx with hx | ⟨hx, hlt⟩
      · rw [hx] at hr; cases hr
      · rw [hx] at hr; cases hr; exact .inl ⟨Nat.le_refl _, hlt, rfl⟩
  · rcases append_case h with ⟨h1, h2⟩ | ⟨rfl, rfl⟩
    · refine .inl ⟨h2, look_append (by rw [R.len]; exact h1), fun b hb hl => hold b ?_⟩
      exact (R.own b ⟨l, o', h2, hl, hb⟩).1
    · exact .inr ho
theorem HRel.push (R : HRel X B ρ w H) {oc : Obj} (hw : HeapIs w w' (w.heap.push oc)) (o : AObj)
    (ho : RepO w' (ρ ++ [some w.heap.size]) (H ++ [o]) (Nof (ρ ++ [some w.heap.size]) (H ++ [o]) X B) (Nqof (ρ ++ [some w.heap.size]) (H ++ [o]) X) H.length o) :
    Evo ρ w H (ρ ++ [some w.heap.size]) w' (H ++ [o]) ∧ HRel X B (ρ ++ [some w.heap.size]) w' (H ++ [o]) :=
  R.name (Evo.bare hw) o _ (.inr ⟨rfl, by rw [hw.size_push]; omega⟩) (fun _ hb => hw.old hb) ho

/-! ### An old block turns -/
theorem HRel.put (R : HRel X B ρ w H) {l b : Nat} {o o' : AObj} {oc : Obj} (hw : HeapIs w w' (w.heap.setIfInBounds b oc)) (ho : H[l]? = some o) (hlive : o.live = true) (hb : look ρ l = some b)
    (he : OEvo ρ ρ w w' l o o')
    (hob : RepO w' ρ (H.set l o') (Nof ρ (H.set l o') X B) (Nqof ρ (H.set l o') X) l o') :
    Evo ρ w H ρ w' (H.set l o') ∧ HRel X B ρ w' (H.set l o') := by
  have hinj : ∀ l' o0, H[l']? = some o0 → o0.live = true → look ρ l' = some b → l' = l := fun l' o0 h1 h2 h3 => R.inj l' l o0 o b h1 h2 h3 ho hlive hb
  have hl : l < H.length := (List.getElem?_eq_some_iff.1 ho).1
  have E : Evo ρ w H ρ w' (H.set l o') :=
    { os := hw.os, tape := hw.tape, output := hw.output
      size := by rw [hw.size_set]; exact Nat.le_refl _
      same := fun b' _ hn => hw.set_ne (fun e => hn ⟨l, o, ho, hlive, by rw [← e]; exact hb⟩)
      len := by simp
      obj := fun l' o0 h => by
        by_cases e : l' = l
        · subst e
          rw [ho] at h; cases h
          exact ⟨o', by simp [hl], he⟩
        · refine ⟨o0, by rw [List.getElem?_set_ne (Ne.symm e)]; exact h, ?_⟩
          cases o0 with
          | row es z t =>
            refine ⟨es, rfl, Nat.le_refl _, fun _ => ⟨rfl, fun b' arr hb' ha => ⟨arr, ?_, rfl⟩⟩⟩
            refine (hw.set_ne fun eb => e ?_).trans ha
            subst eb
            exact hinj l' _ h rfl hb'
          | map ks vs => exact ⟨ks, vs, rfl, rfl⟩
          | loop s p => exact ⟨s, p, rfl, rfl⟩
          | dfr d => exact ⟨d, rfl, rfl⟩
          | gone => trivial
      fresh := fun b' hb' _ => by
        obtain ⟨l', o0, h, hl', hr⟩ := hb'
        by_cases e : l' = l
        · subst e; exact ⟨l', o, ho, hlive, hr⟩
        · rw [List.getElem?_set_ne (Ne.symm e)] at h
          exact ⟨l', o0, h, hl', hr⟩ }
  refine ⟨E, R.step E (by simp [R.len]) l (fun l' o0 b' h hl' hr => ?_) (fun l' o0 h => ?_)⟩
  · by_cases e : l' = l
    · subst e; exact .inr ⟨hr, o, ho, hlive⟩
    · rw [List.getElem?_set_ne (Ne.symm e)] at h
      exact .inr ⟨hr, o0, h, hl'⟩
  · by_cases e : l' = l
    · subst e
      simp [hl] at h
      subst h
      exact .inr hob
    · rw [List.getElem?_set_ne (Ne.symm e)] at h
      refine .inl ⟨h, rfl, fun b' hb' hl' => hw.set_ne (fun eb => e ?_)⟩
      subst eb
      exact hinj l' o0 h hl' hb'

/-! ### A row moves to a new block -/
theorem HRel.move (R : HRel X B ρ w H) {l : Nat} {es es' : List (List AV)} {z : Nat} {t : TypeId} {oc : Obj} (hw : HeapIs w w' (w.heap.push oc)) (ho : H[l]? = some (.row es z t)) (hlt : es.length < es'.length)
    (hob : RepO w' (ρ.set l (some w.heap.size)) (H.set l (.row es' z t)) (Nof (ρ.set l (some w.heap.size)) (H.set l (.row es' z t)) X B) (Nqof (ρ.set l (some w.heap.size)) (H.set l (.row es' z t)) X) l (.row es' z t)) :
    Evo ρ w H (ρ.set l (some w.heap.size)) w' (H.set l (.row es' z t)) ∧ HRel X B (ρ.set l (some w.heap.size)) w' (H.set l (.row es' z t)) := by
  have hl : l < H.length := (List.getElem?_eq_some_iff.1 ho).1
  have hcase : ∀ l' o0, (H.set l (.row es' z t))[l']? = some o0 → (l' = l ∧ o0 = .row es' z t) ∨ (l' ≠ l ∧ H[l']? = some o0) := by
    intro l' o0 h
    by_cases e : l' = l
    · subst e; simp [hl] at h; exact .inl ⟨rfl, h.symm⟩
    · rw [List.getElem?_set_ne (Ne.symm e)] at h; exact .inr ⟨e, h⟩
  have hlρ : l < ρ.length := by rw [R.len]; exact hl
  have E : Evo ρ w H (ρ.set l (some w.heap.size)) w' (H.set l (.row es' z t)) :=
    { os := hw.os, tape := hw.tape, output := hw.output
      size := by rw [hw.size_push]; omega
      same := fun b hb _ => hw.old hb
      len := by simp
      obj := fun l' o0 h => by
        by_cases e : l' = l
        · subst e
          rw [ho] at h; cases h
          exact ⟨.row es' z t, by simp [hl], es', rfl, by omega, fun h => by omega⟩
        · exact ⟨o0, by rw [List.getElem?_set_ne (Ne.symm e)]; exact h, OEvo.keep (look_set_ne (Ne.symm e) _) fun b _ _ _ ha => hw.old (Array.getElem?_eq_some_iff.1 ha).1⟩
      fresh := fun b hb hltb => by
        obtain ⟨l', o0, h, hlv, hr⟩ := hb
        rcases hcase l' o0 h with ⟨rfl, rfl⟩ | ⟨e, h'⟩
        · rw [look_set hlρ] at hr; cases hr; omega
        · rw [look_set_ne (Ne.symm e)] at hr
          exact ⟨l', o0, h', hlv, hr⟩ }
  refine ⟨E, R.step E (by simp [R.len]) l (fun l' o0 b h hlv hr => ?_) (fun l' o0 h => ?_)⟩
  · rcases hcase l' o0 h with ⟨rfl, rfl⟩ | ⟨e, h'⟩
    · rw [look_set hlρ] at hr; cases hr
      exact .inl ⟨Nat.le_refl _, by rw [hw.size_push]; omega, rfl⟩
    · rw [look_set_ne (Ne.symm e)] at hr
      exact .inr ⟨hr, o0, h', hlv⟩
  · rcases hcase l' o0 h with ⟨rfl, rfl⟩ | ⟨e, h'⟩
    · exact .inr hob
    · exact .inl ⟨h', look_set_ne (Ne.symm e) _, fun b hb hlv => hw.old (R.own b ⟨l', o0, h', hlv, hb⟩).1⟩
end
end Go.Proofs.Ytnbbhbbhgcipjaa.Am

namespace Go.Proofs.Ytnbbhbbhgcipjaa.Am
variable [LFit]
section
variable {P : Program} {w : World} {ρ : List (Option Nat)} {H : AHeap} {N Nq : Nat → Prop}

theorem ofScal_rep {v : Value} {d : Imm} (h : Imm.ofScal v = some d) : RepI w N Nq d v := by
  unfold Imm.ofScal at h
  split at h <;> cases h <;> simp [RepI]
theorem ofScal_one {v : Value} {d : Imm} (h : Imm.ofScal v = some d) : v.oneCell' = true := by
  unfold Imm.ofScal at h
  split at h <;> first | rfl | cases h
theorem mapM_get {α β : Type} {f : α → Option β} : ∀ {l : List α} {r : List β}, l.mapM f = some r → l.length = r.length ∧ ∀ (i : Nat) (a : α), l[i]? = some a → ∃ b, r[i]? = some b ∧ f a = some b
  | [], r, h => by simp at h; subst h; simp
  | a :: l, r, h => by
    rw [List.mapM_cons] at h
    cases hf : f a with
    | none => rw [hf] at h; cases h
    | some b =>
      rw [hf] at h
      cases hl : l.mapM f with
      | none => rw [hl] at h; cases h
      | some r' =>
        rw [hl] at h
        cases h
        obtain ⟨h1, h2⟩ := mapM_get hl
        refine ⟨by simp [h1], fun i x hi => ?_⟩
        cases i with
        | zero => simp at hi; subst hi; exact ⟨b, rfl, hf⟩
        | succ i => simp at hi; obtain ⟨y, hy, hfy⟩ := h2 i x hi; exact ⟨y, by simpa using hy, hfy⟩
theorem ofVal_rep {v : Value} {d : Imm} (h : Imm.ofVal v = some d) : RepI w N Nq d v := by
  unfold Imm.ofVal at h
  split at h
  · rename_i cs
    cases hm : cs.toList.mapM Imm.ofScal with
    | none => rw [hm] at h; cases h
    | some r =>
      rw [hm] at h; cases h
      obtain ⟨h1, h2⟩ := mapM_get hm
      refine ⟨cs, rfl, RepL.of_get h1.symm fun i c u hc hu => ?_, fun x hx => ?_⟩
      · obtain ⟨b, hb, hf⟩ := h2 i u hu
        rw [hc] at hb; cases hb
        exact ofScal_rep hf
      · obtain ⟨i, hi⟩ := List.getElem?_of_mem hx
        obtain ⟨b, _, hf⟩ := h2 i x hi
        exact ofScal_one hf
  · exact ofScal_rep h
theorem sval_rep {v u : Value} {d : Imm} (h : d.sval = some u) (hr : RepI w N Nq d v) : v = u := by
  cases d <;> simp [Imm.sval] at h <;> subst h <;> exact hr
theorem svals_rep : ∀ {cs : List Imm} {us l : List Value}, cs.mapM Imm.sval = some us → RepL w N Nq cs l → l = us
  | [], us, l, h, hr => by simp at h; subst h; exact hr
  | c :: cs, us, l, h, ⟨v, vs, e, hv, hr⟩ => by
    subst e
    rw [List.mapM_cons] at h
    cases hc : c.sval with
    | none => simp [hc] at h
    | some u =>
      cases hm : cs.mapM Imm.sval with
      | none => simp [hc, hm] at h
      | some r =>
        simp [hc, hm] at h
        subst h
        rw [sval_rep hc hv, svals_rep hm hr]
theorem val_rep {v u : Value} {d : Imm} (h : d.val = some u) (hr : RepI w N Nq d v) : v = u := by
  unfold Imm.val at h
  split at h
  · rename_i cs
    obtain ⟨l, rfl, hl, _⟩ := hr
    cases hm : cs.mapM Imm.sval with
    | none => rw [hm] at h; cases h
    | some us =>
      rw [hm] at h
      simp only [Option.map_some, Option.some.injEq] at h
      subst h
      have := svals_rep hm hl
      subst this
      simp
  · exact sval_rep h hr
theorem allIm_eq {cs : List AV} {ds : List Imm} (h : allIm cs = some ds) : cs = ds.map .im := by
  unfold allIm at h
  obtain ⟨h1, h2⟩ := mapM_get h
  apply List.ext_getElem?
  intro i
  by_cases hi : i < cs.length
  · obtain ⟨b, hb, hf⟩ := h2 i cs[i] (by simp [hi])
    rw [List.getElem?_map, hb, List.getElem?_eq_getElem hi]
    generalize cs[i] = c at hf
    cases c <;> simp [AV.imm?] at hf
    subst hf
    rfl
  · rw [List.getElem?_eq_none (by omega), List.getElem?_eq_none (by simp; omega)]
theorem allIm_map (ds : List Imm) : allIm (ds.map .im) = some ds := by
  unfold allIm
  induction ds with
  | nil => rfl
  | cons d ds ih => simp [List.mapM_cons, AV.imm?, ih]
theorem mkAgg_rep {cs : List AV} {l : Array Value} (h : RepAL w ρ H N Nq cs l.toList) (h1 : ∀ x ∈ l.toList, x.oneCell' = true) : RepA w ρ H N Nq (mkAgg cs) (.agg l) := by
  unfold mkAgg
  split
  · rename_i ds hds
    rw [allIm_eq hds] at h
    exact ⟨l, rfl, RepAL.im.1 h, h1⟩
  · exact ⟨l, rfl, h, h1⟩
theorem mkTup_rep {cs : List AV} {l : Array Value} (h : RepAL w ρ H N Nq cs l.toList) : RepA w ρ H N Nq (mkTup cs) (.tuple l) := by
  unfold mkTup
  split
  · rename_i ds hds
    rw [allIm_eq hds] at h
    exact ⟨l, rfl, RepAL.im.1 h⟩
  · exact ⟨l, rfl, h⟩
theorem one_rep {a : AV} {v : Value} (h1 : a.one = true) (h : RepA w ρ H N Nq a v) : v.oneCell' = true := by
  cases a with
  | im d =>
    cases d <;> simp [AV.one, Imm.one] at h1 <;> simp only [RepA, RepI] at h
    case sl => obtain ⟨c, _, _, h | ⟨b, o, sp, h, _⟩⟩ := h; exact h.1 ▸ rfl; exact h ▸ rfl
    case ip => obtain ⟨b, o, h, _⟩ := h; exact h ▸ rfl
    case mp => obtain ⟨b, o, c, h, _⟩ := h; exact h ▸ rfl
    case fn => obtain ⟨l, h, _⟩ := h; exact h ▸ rfl
    case ifc => obtain ⟨l, h, _⟩ := h; exact h ▸ rfl
    all_goals exact h ▸ rfl
  | top => simp [AV.one] at h1
  | ptr l st j off => exact h.2.1
  | sl l st j n => exact h.2.1
  | map l => exact h.2.1
  | fn f cap => obtain ⟨f', l, h, _⟩ := h; exact h ▸ rfl
  | agg cs => simp [AV.one] at h1
  | tup cs => simp [AV.one] at h1
  | ifc t x => obtain ⟨u, h, _⟩ := h; exact h ▸ rfl
theorem one_cells {a : AV} (h1 : a.one = true) : a.cells = [a] := by
  cases a with
  | im d => cases d <;> first | rfl | simp [AV.one, Imm.one] at h1
  | agg cs => simp [AV.one] at h1
  | _ => rfl
theorem cells_rep {a : AV} {v : Value} (h1 : a.storable = true) (h : RepA w ρ H N Nq a v) : RepAL w ρ H N Nq a.cells v.cells.toList ∧ ∀ x ∈ v.cells.toList, x.oneCell' = true := by
  have hone : a.one = true → RepAL w ρ H N Nq a.cells v.cells.toList ∧ ∀ x ∈ v.cells.toList, x.oneCell' = true := by
    intro h1
    have h2 := one_rep h1 h
    have hv : v.cells = #[v] := by cases v <;> first | rfl | simp [Value.oneCell'] at h2
    rw [hv, one_cells h1]
    exact ⟨⟨v, [], rfl, h, rfl⟩, by simpa using h2⟩
  unfold AV.storable at h1
  split at h1
  · obtain ⟨l, rfl, hl, hone⟩ := h
    exact ⟨RepAL.im.2 hl, hone⟩
  · obtain ⟨l, rfl, hl, hone⟩ := h
    exact ⟨hl, hone⟩
  · exact hone h1

/-! ### The program's tables -/
theorem szOf_info {t z : Nat} (h : szOf P t = some z) : ∃ i, P.info? t = some i ∧ i.size = z := by
  unfold szOf at h
  cases hi : P.info? t with
  | none => rw [hi] at h; cases h
  | some i => rw [hi] at h; exact ⟨i, rfl, by simpa using h⟩
theorem run_sizeOf {t z : Nat} (h : szOf P t = some z) (w : World) : (sizeOf t).run P w = .ok z w := by
  obtain ⟨i, hi, rfl⟩ := szOf_info h
  simp [sizeOf, typeInfo, hi]
theorem run_isAgg {t : Nat} {b : Bool} (h : isAg P t = some b) (w : World) : (Go.isAgg t).run P w = .ok b w := by
  unfold isAg at h
  unfold Go.isAgg
  split at h
  · rename_i hu; cases h; simp [run_underlying hu]
  · rename_i hu; cases h; simp [run_underlying hu]
  · rename_i d h1 h2 hu
    cases h
    rw [Sem.run_bind, run_underlying hu, Result.andThen_ok]
    split
    · exact absurd rfl (h1 _)
    · exact absurd rfl (h2 _ _)
    · rfl
  · cases h
theorem zeroImm_info {t : Nat} {d : Imm} (h : zeroImm P t = some d) : ∃ i z, P.info? t = some i ∧ i.zero = some z ∧ Imm.ofVal z = some d := by
  unfold zeroImm at h
  cases hi : P.info? t with
  | none => rw [hi] at h; cases h
  | some i =>
    rw [hi] at h
    cases hz : i.zero with
    | none => simp [hz] at h
    | some z => simp [hz] at h; exact ⟨i, z, rfl, hz, h⟩
theorem run_zeroValue {t : Nat} {i : TypeInfo} {z : Value} (hi : P.info? t = some i) (hz : i.zero = some z) (w : World) : (zeroValue t).run P w = .ok z w := by
  simp [zeroValue, typeInfo, hi, hz]
theorem fldOf_under {t f o u : Nat} (h : fldOf P t f = some (o, u)) : ∃ (fs : Array Field) (x : Field), P.underlying t = some (.struct fs) ∧ fs[f]? = some x ∧ x.offset = o ∧ x.type = u := by
  unfold fldOf at h
  split at h
  · rename_i fs hu
    cases hf : fs[f]? with
    | none => rw [hf] at h; cases h
    | some x => rw [hf] at h; cases h; exact ⟨fs, x, hu, hf, rfl, rfl⟩
  · cases h
theorem elemOf_under {t e : Nat} (h : elemOf P t = some e) : P.underlying t = some (.slice e) := by
  unfold elemOf at h
  split at h
  · rename_i hu; cases h; exact hu
  · cases h

/-! ### Memory -/
theorem add_none (b o n : Nat) : (⟨b, o, none⟩ : Addr).add n = ⟨b, o + n, none⟩ := by
  unfold Addr.add; split <;> simp_all
theorem exists_list {α : Type} {p : Nat → α → Prop} : ∀ (n : Nat), (∀ i, i < n → ∃ a, p i a) → ∃ l : List α, l.length = n ∧ ∀ i a, l[i]? = some a → p i a
  | 0, _ => ⟨[], rfl, by simp⟩
  | n + 1, h => by
    obtain ⟨l, hl, hp⟩ := exists_list n fun i hi => h i (by omega)
    obtain ⟨a, ha⟩ := h n (by omega)
    refine ⟨l ++ [a], by simp [hl], fun i x hi => ?_⟩
    by_cases hlt : i < l.length
    · rw [List.getElem?_append_left hlt] at hi; exact hp i x hi
    · have : i = l.length := by
        have := (List.getElem?_eq_some_iff.1 hi).1
        simp at this; omega
      subst this
      simp at hi; subst hi; rw [hl]; exact ha
/-- What a stretch of memory reads as. -/
def Stretch (w : World) (ρ : List (Option Nat)) (H : AHeap) (N Nq : Nat → Prop) (b o : Nat) (cs : List AV) : Prop :=
  ∀ (i : Nat) (c : AV), cs[i]? = some c → ∃ u, w.cell? ⟨b, o + i, none⟩ = some u ∧ u.oneCell' = true ∧ RepA w ρ H N Nq c u
theorem Stretch.of_cells {b o : Nat} {cs : List Imm} (h : RepCells w N Nq b o cs) : Stretch w ρ H N Nq b o (cs.map .im) := by
  intro i c hi
  rw [List.getElem?_map] at hi
  cases hc : cs[i]? with
  | none => rw [hc] at hi; cases hi
  | some d => rw [hc] at hi; cases hi; exact RepCells.get h hc
theorem sub_get {α : Type} {cs x : List α} {off n : Nat} (h : sub cs off n = some x) : x.length = n ∧ ∀ (i : Nat) (c : α), x[i]? = some c → cs[off + i]? = some c := by
  unfold sub at h
  split at h
  · rename_i hl
    cases h
    refine ⟨by simp; omega, fun i c hi => ?_⟩
    rw [List.getElem?_take] at hi
    split at hi
    · rwa [List.getElem?_drop] at hi
    · cases hi
  · cases h
theorem Stretch.list {b o n : Nat} {cs : List AV} (h : Stretch w ρ H N Nq b o cs) (hn : cs.length = n) : ∃ vs : List Value, vs.length = n ∧ (∀ j v, vs[j]? = some v → w.cell? ((⟨b, o, none⟩ : Addr).add j) = some v) ∧
    RepAL w ρ H N Nq cs vs ∧ ∀ x ∈ vs, x.oneCell' = true := by
  subst hn
  obtain ⟨l, hl, hp⟩ := exists_list (p := fun i u => w.cell? ⟨b, o + i, none⟩ = some u ∧ u.oneCell' = true ∧ ∀ c, cs[i]? = some c → RepA w ρ H N Nq c u) cs.length fun i hi => by
    obtain ⟨u, h1, h2, h3⟩ := h i cs[i] (by simp [hi])
    exact ⟨u, h1, h2, fun c hc => by rw [List.getElem?_eq_getElem hi] at hc; cases hc; exact h3⟩
  refine ⟨l, hl, fun j v hj => ?_, RepAL.of_get hl.symm fun i c v hc hv => (hp i v hv).2.2 c hc, fun x hx => ?_⟩
  · rw [add_none]; exact (hp j v hj).1
  · obtain ⟨i, hi⟩ := List.getElem?_of_mem hx
    exact (hp i x hi).2.1
theorem run_loadVar_agg {t z b o off : Nat} {cs x : List AV} (hz : szOf P t = some z) (ha : isAg P t = some true) (h : Stretch w ρ H N Nq b o cs) (hx : sub cs off z = some x) :
    ∃ v, (loadVar t ⟨b, o + off, none⟩).run P w = .ok v w ∧ RepA w ρ H N Nq (mkAgg x) v := by
  obtain ⟨hl, hg⟩ := sub_get hx
  have hs : Stretch w ρ H N Nq b (o + off) x := fun i c hi => by
    have := h (off + i) c (hg i c hi)
    rwa [← Nat.add_assoc] at this
  obtain ⟨vs, h1, h2, h3, h4⟩ := hs.list hl
  refine ⟨.agg vs.toArray, ?_, mkAgg_rep (by simpa using h3) (by simpa using h4)⟩
  have := run_loadCells_list (P := P) w ⟨b, o + off, none⟩ vs h2
  rw [h1] at this
  simp [loadVar, run_isAgg ha, run_sizeOf hz, this]
theorem run_loadVar_one {t b o off : Nat} {cs : List AV} {c : AV} (ha : isAg P t = some false) (h : Stretch w ρ H N Nq b o cs) (hc : cs[off]? = some c) :
    ∃ v, (loadVar t ⟨b, o + off, none⟩).run P w = .ok v w ∧ RepA w ρ H N Nq c v ∧ v.oneCell' = true := by
  obtain ⟨u, h1, h2, h3⟩ := h off c hc
  exact ⟨u, by simp [loadVar, run_isAgg ha, h1], h3, h2⟩
theorem sub_map {α β : Type} (f : α → β) {cs x : List α} {off n : Nat} (h : sub cs off n = some x) : sub (cs.map f) off n = some (x.map f) := by
  unfold sub at *
  split at h
  · rename_i hl
    cases h
    simp [hl]
  · cases h
theorem mkAgg_map (ds : List Imm) : mkAgg (ds.map .im) = .im (.agg ds) := by unfold mkAgg; rw [allIm_map]
end
end Go.Proofs.Ytnbbhbbhgcipjaa.Am
