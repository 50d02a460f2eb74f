/-
  The rules by which the simplifier runs the abstract machine on symbolic data.
  Arithmetic of the abstract machine.
  Rules for the regions that draw their order; and that what holds after an operation may be weakened.
  Rules for what is built, sliced, appended, and handed back by view.
  The simplifier's set.
-/
import Derived.Test.YtnbbhbbhgcipjaaMd
import Derived.Attr
import Derived.Laws.Strings
set_option linter.unusedVariables false
set_option linter.unnecessarySimpa false
set_option linter.unusedSimpArgs false
set_option linter.unusedSectionVars false
namespace Go.Proofs.Ytnbbhbbhgcipjaa.Am
def pik {α : Type} (b : Bool) (x y : α) : α := if b then x else y
theorem pik_t {α : Type} (x y : α) : pik true x y = x := rfl
theorem pik_f {α : Type} (x y : α) : pik false x y = y := rfl
@[congr] theorem pik_congr {α : Type} {b b' : Bool} (x y : α) (h : b = b') : pik b x y = pik b' x y := by rw [h]
def pickA (t : Bool) (a b : AV) : AV := match a, b with | .im (.b p), .im (.b q) => .im (.b (if t then p else q)) | p, q => if t then p else q
/-! Continuations by name: the simplifier does not go into them till they are applied. -/
def kval (cx : Cx) (fn : FuncId) (all rest : List Oper) (d : Nat) (fr : Fr) (ds : List Dfr) (H : AHeap) (Q : RQ) (v : AV) : Prop := WO cx fn all rest ⟨(d, v) :: fr, ds, H⟩ Q
def kvh (cx : Cx) (fn : FuncId) (all rest : List Oper) (d : Nat) (fr : Fr) (ds : List Dfr) (Q : RQ) (r : AV × AHeap) : Prop := WO cx fn all rest ⟨(d, r.1) :: fr, ds, r.2⟩ Q
def kH (cx : Cx) (fn : FuncId) (all rest : List Oper) (fr : Fr) (ds : List Dfr) (Q : RQ) (H : AHeap) : Prop := WO cx fn all rest ⟨fr, ds, H⟩ Q
def kmp (cx : Cx) (fn : FuncId) (all rest : List Oper) (d l : Nat) (fr : Fr) (ds : List Dfr) (Q : RQ) (H : AHeap) : Prop := WO cx fn all rest ⟨(d, .map l) :: fr, ds, H⟩ Q
def kvc (cx : Cx) (fn : FuncId) (all rest : List Oper) (d : Nat) (fr : Fr) (ds : List Dfr) (Q : RQ) (v : AV) (H : AHeap) : Prop := match isPan v with | none => WO cx fn all rest ⟨(d, v) :: fr, ds, H⟩ Q | some e => Q.p e ⟨fr, ds, H⟩
def kvc0 (cx : Cx) (fn : FuncId) (all rest : List Oper) (fr : Fr) (ds : List Dfr) (Q : RQ) (v : AV) (H : AHeap) : Prop := match isPan v with | none => WO cx fn all rest ⟨fr, ds, H⟩ Q | some e => Q.p e ⟨fr, ds, H⟩
def kca (cx : Cx) (H : AHeap) (K : AV → AHeap → Prop) (r : Req) : Prop := WC cx r H K
def kpk (a b : AV) (K : AV → Prop) (t : Bool) : Prop := eb (pickA t a b) K
def kgb (cx : Cx) (fn : FuncId) (all rest : List Oper) (o : Option Nat) (op : Op) (ty : TypeId) (p : String) (af : Array Edge) (w : Bool) (fr : Fr) (ds : List Dfr) (H : AHeap) (Q : RQ) (y : Bool) : Prop :=
  if y = w then WO cx fn all (⟨o, op, ty, p, af, none⟩ :: rest) ⟨fr, ds, H⟩ Q else WO cx fn all rest ⟨putT fr o (.im .und), ds, H⟩ Q
def kgd (cx : Cx) (fn : FuncId) (all rest : List Oper) (o : Option Nat) (op : Op) (ty : TypeId) (p : String) (af : Array Edge) (w : Bool) (fr : Fr) (ds : List Dfr) (H : AHeap) (Q : RQ) (y : Option Bool) : Prop :=
  match y with | some y => kgb cx fn all rest o op ty p af w fr ds H Q y | none => WO cx fn all rest ⟨putT fr o (.im .und), ds, H⟩ Q
def kcd (cx : Cx) (fn : FuncId) (rd : Option Nat) (a b : Code) (st : St) (Q : Ex → St → Prop) (t : Bool) : Prop := if t then W cx fn rd a st Q else W cx fn rd b st Q
def kcl (Q : Ex → St → Prop) (ds : List Dfr) (H : AHeap) (fr : Fr) : Prop := Q .nrm ⟨fr, ds, H⟩
def kbl (id : Nat) (Q : Ex → St → Prop) (st : St) (t : Bool) (i : Nat) : Prop := if t then Q .nrm st else Q (.exit i) st
def kres (R : AV → AHeap → Prop) (H : AHeap) (vs : List AV) : Prop := match vs with | [v] => kmt R H v | vs => kmt R H (mkTup vs)
def wseq (cx : Cx) (fn : FuncId) (rd : Option Nat) (b : Code) (st : St) (Q : Ex → St → Prop) : Prop := W cx fn rd b st Q
def kn0 (cx : Cx) (fn : FuncId) (all rest : List Oper) (fr : Fr) (ds : List Dfr) (H : AHeap) (Q : RQ) (_ : AV) : Prop := WO cx fn all rest ⟨fr, ds, H⟩ Q
theorem bdec {a : Prop} [Decidable a] {f : Bool → Prop} (h : a → f true) (h' : ¬a → f false) : f (decide a) := by
  by_cases x : a
  · rw [decide_eq_true x]; exact h x
  · rw [decide_eq_false x]; exact h' x
theorem bnot {b : Bool} {f : Bool → Prop} (h : b = true → f false) (h' : b = false → f true) : f (!b) := by
  cases b with
  | false => exact h' rfl
  | true => exact h rfl
theorem bcase {b : Bool} {f : Bool → Prop} (h : b = true → f true) (h' : b = false → f false) : f b := by
  cases b with
  | false => exact h' rfl
  | true => exact h rfl
section
variable {cx : Cx} {fn : FuncId} {rd : Option Nat} {all rest : List Oper} {d l : Nat} {fr : Fr} {ds : List Dfr} {H : AHeap} {Q : RQ} {QQ : Ex → St → Prop} {R : AV → AHeap → Prop}
theorem kval_eq (v : AV) : kval cx fn all rest d fr ds H Q v = WO cx fn all rest ⟨(d, v) :: fr, ds, H⟩ Q := rfl
theorem kvh_eq (v : AV) : kvh cx fn all rest d fr ds Q (v, H) = WO cx fn all rest ⟨(d, v) :: fr, ds, H⟩ Q := rfl
theorem kH_eq : kH cx fn all rest fr ds Q H = WO cx fn all rest ⟨fr, ds, H⟩ Q := rfl
theorem kn0_eq (v : AV) : kn0 cx fn all rest fr ds H Q v = WO cx fn all rest ⟨fr, ds, H⟩ Q := rfl
theorem kmp_eq : kmp cx fn all rest d l fr ds Q H = WO cx fn all rest ⟨(d, .map l) :: fr, ds, H⟩ Q := rfl
theorem kvc_im (c : Imm) : kvc cx fn all rest d fr ds Q (.im c) H = WO cx fn all rest ⟨(d, (.im c)) :: fr, ds, H⟩ Q := rfl
theorem kvc_ptr (l m j o : Nat) : kvc cx fn all rest d fr ds Q (.ptr l m j o) H = WO cx fn all rest ⟨(d, (.ptr l m j o)) :: fr, ds, H⟩ Q := rfl
theorem kvc_sl (l m j o : Nat) : kvc cx fn all rest d fr ds Q (.sl l m j o) H = WO cx fn all rest ⟨(d, (.sl l m j o)) :: fr, ds, H⟩ Q := rfl
theorem kvc_map (l : Nat) : kvc cx fn all rest d fr ds Q (.map l) H = WO cx fn all rest ⟨(d, (.map l)) :: fr, ds, H⟩ Q := rfl
theorem kvc_fn (g : Fn) (c : List AV) : kvc cx fn all rest d fr ds Q (.fn g c) H = WO cx fn all rest ⟨(d, (.fn g c)) :: fr, ds, H⟩ Q := rfl
theorem kvc_agg (c : List AV) : kvc cx fn all rest d fr ds Q (.agg c) H = WO cx fn all rest ⟨(d, (.agg c)) :: fr, ds, H⟩ Q := rfl
theorem kvc_ifc (t : TypeId) (c : AV) : kvc cx fn all rest d fr ds Q (.ifc t c) H = WO cx fn all rest ⟨(d, (.ifc t c)) :: fr, ds, H⟩ Q := rfl
theorem kvc_tupi (c : Imm) (vs : List AV) : kvc cx fn all rest d fr ds Q (.tup (.im c :: vs)) H = WO cx fn all rest ⟨(d, (.tup (.im c :: vs))) :: fr, ds, H⟩ Q := rfl
theorem kvc_tupp (l m j o : Nat) (vs : List AV) : kvc cx fn all rest d fr ds Q (.tup (.ptr l m j o :: vs)) H = WO cx fn all rest ⟨(d, (.tup (.ptr l m j o :: vs))) :: fr, ds, H⟩ Q := rfl
theorem kvc_tups (l m j o : Nat) (vs : List AV) : kvc cx fn all rest d fr ds Q (.tup (.sl l m j o :: vs)) H = WO cx fn all rest ⟨(d, (.tup (.sl l m j o :: vs))) :: fr, ds, H⟩ Q := rfl
theorem kvc_pan (c : Imm) : kvc cx fn all rest d fr ds Q (panV c) H = Q.p c ⟨fr, ds, H⟩ := rfl
theorem kvc0_im (c : Imm) : kvc0 cx fn all rest fr ds Q (.im c) H = WO cx fn all rest ⟨fr, ds, H⟩ Q := rfl
theorem kvc0_ptr (l m j o : Nat) : kvc0 cx fn all rest fr ds Q (.ptr l m j o) H = WO cx fn all rest ⟨fr, ds, H⟩ Q := rfl
theorem kvc0_sl (l m j o : Nat) : kvc0 cx fn all rest fr ds Q (.sl l m j o) H = WO cx fn all rest ⟨fr, ds, H⟩ Q := rfl
theorem kvc0_map (l : Nat) : kvc0 cx fn all rest fr ds Q (.map l) H = WO cx fn all rest ⟨fr, ds, H⟩ Q := rfl
theorem kvc0_fn (g : Fn) (c : List AV) : kvc0 cx fn all rest fr ds Q (.fn g c) H = WO cx fn all rest ⟨fr, ds, H⟩ Q := rfl
theorem kvc0_agg (c : List AV) : kvc0 cx fn all rest fr ds Q (.agg c) H = WO cx fn all rest ⟨fr, ds, H⟩ Q := rfl
theorem kvc0_ifc (t : TypeId) (c : AV) : kvc0 cx fn all rest fr ds Q (.ifc t c) H = WO cx fn all rest ⟨fr, ds, H⟩ Q := rfl
theorem kvc0_tupi (c : Imm) (vs : List AV) : kvc0 cx fn all rest fr ds Q (.tup (.im c :: vs)) H = WO cx fn all rest ⟨fr, ds, H⟩ Q := rfl
theorem kvc0_tupp (l m j o : Nat) (vs : List AV) : kvc0 cx fn all rest fr ds Q (.tup (.ptr l m j o :: vs)) H = WO cx fn all rest ⟨fr, ds, H⟩ Q := rfl
theorem kvc0_tups (l m j o : Nat) (vs : List AV) : kvc0 cx fn all rest fr ds Q (.tup (.sl l m j o :: vs)) H = WO cx fn all rest ⟨fr, ds, H⟩ Q := rfl
theorem kvc0_pan (c : Imm) : kvc0 cx fn all rest fr ds Q (panV c) H = Q.p c ⟨fr, ds, H⟩ := rfl
theorem kca_eq (K : AV → AHeap → Prop) (r : Req) : kca cx H K r = WC cx r H K := rfl
theorem kpk_t (a b : AV) (K : AV → Prop) : kpk a b K true = eb a K := by unfold kpk; rw [show pickA true a b = a by unfold pickA; split <;> rfl]
theorem kpk_f (a b : AV) (K : AV → Prop) : kpk a b K false = eb b K := by unfold kpk; rw [show pickA false a b = b by unfold pickA; split <;> rfl]
theorem kpk_tf (t : Bool) (K : AV → Prop) : kpk (.im (.b true)) (.im (.b false)) K t = eb (.im (.b t)) K := by cases t <;> rfl
theorem kpk_ft (t : Bool) (K : AV → Prop) : kpk (.im (.b false)) (.im (.b true)) K t = eb (.im (.b (!t))) K := by cases t <;> rfl
theorem kgd_some {o : Option Nat} {op : Op} {ty : TypeId} {p : String} {af : Array Edge} {w y : Bool} : kgd cx fn all rest o op ty p af w fr ds H Q (some y) = kgb cx fn all rest o op ty p af w fr ds H Q y := rfl
theorem kgd_none {o : Option Nat} {op : Op} {ty : TypeId} {p : String} {af : Array Edge} {w : Bool} : kgd cx fn all rest o op ty p af w fr ds H Q none = WO cx fn all rest ⟨putT fr o (.im .und), ds, H⟩ Q := rfl
theorem kgb_tt {o : Option Nat} {op : Op} {ty : TypeId} {p : String} {af : Array Edge} : kgb cx fn all rest o op ty p af true fr ds H Q true = WO cx fn all (⟨o, op, ty, p, af, none⟩ :: rest) ⟨fr, ds, H⟩ Q := rfl
theorem kgb_ff {o : Option Nat} {op : Op} {ty : TypeId} {p : String} {af : Array Edge} : kgb cx fn all rest o op ty p af false fr ds H Q false = WO cx fn all (⟨o, op, ty, p, af, none⟩ :: rest) ⟨fr, ds, H⟩ Q := rfl
theorem kgb_tf {o : Option Nat} {op : Op} {ty : TypeId} {p : String} {af : Array Edge} : kgb cx fn all rest o op ty p af true fr ds H Q false = WO cx fn all rest ⟨putT fr o (.im .und), ds, H⟩ Q := rfl
theorem kgb_ft {o : Option Nat} {op : Op} {ty : TypeId} {p : String} {af : Array Edge} : kgb cx fn all rest o op ty p af false fr ds H Q true = WO cx fn all rest ⟨putT fr o (.im .und), ds, H⟩ Q := rfl
theorem kcd_t (a b : Code) (st : St) : kcd cx fn rd a b st QQ true = W cx fn rd a st QQ := rfl
theorem kcd_f (a b : Code) (st : St) : kcd cx fn rd a b st QQ false = W cx fn rd b st QQ := rfl
theorem kcl_eq : kcl QQ ds H fr = QQ .nrm ⟨fr, ds, H⟩ := rfl
theorem kbl_t (id i : Nat) (st : St) : kbl id QQ st true i = QQ .nrm st := rfl
theorem kbl_f (id i : Nat) (st : St) : kbl id QQ st false i = QQ (.exit i) st := rfl
theorem wseq_eq (b : Code) (st : St) : wseq cx fn rd b st QQ = W cx fn rd b st QQ := rfl
theorem kres_1 (v : AV) : kres R H [v] = kmt R H v := rfl
theorem kres_2 (v u : AV) : kres R H [v, u] = eb (mkTup [v, u]) (kmt R H) := rfl
theorem kres_3 (v u x : AV) : kres R H [v, u, x] = eb (mkTup [v, u, x]) (kmt R H) := rfl
theorem kres_4 (v u x y : AV) : kres R H [v, u, x, y] = eb (mkTup [v, u, x, y]) (kmt R H) := rfl
theorem kmt_im (c : Imm) : kmt R H (.im c) = R (.im c) H := rfl
theorem kmt_ptr (l m j o : Nat) : kmt R H (.ptr l m j o) = R (.ptr l m j o) H := rfl
theorem kmt_sl (l m j o : Nat) : kmt R H (.sl l m j o) = R (.sl l m j o) H := rfl
theorem kmt_map (l : Nat) : kmt R H (.map l) = R (.map l) H := rfl
theorem kmt_fn (g : Fn) (c : List AV) : kmt R H (.fn g c) = R (.fn g c) H := rfl
theorem kmt_agg (c : List AV) : kmt R H (.agg c) = R (.agg c) H := rfl
theorem kmt_ifc (t : TypeId) (c : AV) : kmt R H (.ifc t c) = R (.ifc t c) H := rfl
theorem kmt_tupi (c : Imm) (vs : List AV) : kmt R H (.tup (.im c :: vs)) = R (.tup (.im c :: vs)) H := rfl
theorem kmt_tupp (l m j o : Nat) (vs : List AV) : kmt R H (.tup (.ptr l m j o :: vs)) = R (.tup (.ptr l m j o :: vs)) H := rfl
theorem kmt_tups (l m j o : Nat) (vs : List AV) : kmt R H (.tup (.sl l m j o :: vs)) = R (.tup (.sl l m j o :: vs)) H := rfl
end
/-! Frames -/
def lk (t : Nat) (fr : Fr) : Option AV := fr.lookup t
theorem lk_nil (t : Nat) : lk t [] = none := rfl
theorem lk_cons (t s : Nat) (v : AV) (fr : Fr) : lk t ((s, v) :: fr) = pik (t == s) (some v) (lk t fr) := by
  unfold lk pik; rw [List.lookup_cons]; cases t == s <;> rfl
def gd : Option AV → AV | some v => v | none => .top
theorem gd_some (v : AV) : gd (some v) = v := rfl
theorem Frget_eq (fr : Fr) (t : Nat) : Fr.get fr t = gd (lk t fr) := by unfold Fr.get lk gd; cases fr.lookup t <;> rfl
def pcons (t : Nat) (x : Option AV) (l : Fr) : Fr := match x with | some v => (t, v) :: l | none => l
theorem pcons_some (t : Nat) (v : AV) (l : Fr) : pcons t (some v) l = (t, v) :: l := rfl
theorem pcons_none (t : Nat) (l : Fr) : pcons t none l = l := rfl
def pickF : List Nat → Fr → Fr
  | [], _ => []
  | t :: l, fr => pcons t (lk t fr) (pickF l fr)
theorem pickF_nil (fr : Fr) : pickF [] fr = [] := rfl
theorem pickF_cons (t : Nat) (l : List Nat) (fr : Fr) : pickF (t :: l) fr = pcons t (lk t fr) (pickF l fr) := rfl
theorem pickF_eq (l : List Nat) (fr : Fr) : (l.filterMap fun t => (fr.lookup t).map (t, ·)) = pickF l fr := by
  induction l with
  | nil => rfl
  | cons t l ih =>
    rw [List.filterMap_cons, pickF_cons]
    unfold lk pcons
    cases fr.lookup t <;> simp [ih]
def cleanF (k : Option (List Nat)) (fr : Fr) : Fr := match k with | some l => pickF l fr | none => fr
theorem cleanF_some (l : List Nat) (fr : Fr) : cleanF (some l) fr = pickF l fr := rfl
theorem cleanF_none (fr : Fr) : cleanF none fr = fr := rfl
theorem kreg_eq (k : Option (List Nat)) (Q : Ex → St → Prop) (fr : Fr) (ds : List Dfr) (H : AHeap) : (kreg k Q).n ⟨fr, ds, H⟩ = eb (cleanF k fr) (kcl Q ds H) := by
  unfold kreg clean eb cleanF kcl
  cases k with
  | none => rfl
  | some l => simp only [pickF_eq]
def lkK {α : Type} (a : Nat) : List (Nat × α) → Option α
  | [] => none
  | (k, b) :: es => pik (a == k) (some b) (lkK a es)
theorem lkK_nil {α : Type} (a : Nat) : lkK a ([] : List (Nat × α)) = none := rfl
theorem lkK_cons {α : Type} (a k : Nat) (b : α) (es : List (Nat × α)) : lkK a ((k, b) :: es) = pik (a == k) (some b) (lkK a es) := rfl
theorem lkK_eq {α : Type} (a : Nat) (l : List (Nat × α)) : l.lookup a = lkK a l := by
  induction l with
  | nil => rfl
  | cons x l ih => obtain ⟨k, b⟩ := x; rw [List.lookup_cons, lkK_cons, ih]; unfold pik; cases a == k <;> rfl
theorem ev_tmp (fr : Fr) (t : Nat) : ev fr (.tmp t) = gd (lk t fr) := Frget_eq fr t
theorem ev_int (fr : Fr) (k : IntKind) (n : Int) : ev fr (.const (.int k n)) = .im (.i k n) := rfl
theorem ev_bool (fr : Fr) (n : Bool) : ev fr (.const (.bool n)) = .im (.b n) := rfl
theorem ev_str (fr : Fr) (n : ByteArray) : ev fr (.const (.string n)) = .im (.s n) := rfl
theorem ev_nilp (fr : Fr) : ev fr (.const (.pointer none)) = .im .nilp := rfl
theorem ev_nilm (fr : Fr) : ev fr (.const (.map none)) = .im .nilm := rfl
theorem ev_nilf (fr : Fr) : ev fr (.const .nilFunc) = .im .nilf := rfl
theorem ev_nili (fr : Fr) : ev fr (.const .nilIface) = .im .nili := rfl
theorem ev_nils (fr : Fr) : ev fr (.const (.slice none 0 0)) = .im (.sl 1 false true []) := rfl
theorem ev_func (fr : Fr) (f : FuncId) : ev fr (.func f) = .im (.fn f []) := rfl
section
variable {cx : Cx} {fn : FuncId} {rd : Option Nat} {Q : Ex → St → Prop} {st : St}
theorem W_skip : W cx fn rd .skip st Q = Q .nrm st := rfl
theorem W_label (n : Nat) : W cx fn rd (.label n) st Q = Q .nrm st := rfl
theorem W_region (id : Nat) (ops : List Oper) : W cx fn rd (.region id ops.toArray false) st Q = WO cx fn ops ops st (kreg (cx.keep fn id) Q) := rfl
theorem W_draw (id : Nat) (ops : Array Oper) : W cx fn rd (.region id ops true) st Q = WD cx fn ops (cx.sched fn id) [] st (kreg (cx.keep fn id) Q) := rfl
theorem W_seq (a b : Code) : W cx fn rd (.seq a b) st Q = W cx fn rd a st (kseq (wseq cx fn rd b) Q) := rfl
theorem W_cond (c : Operand) (a b : Code) (fr : Fr) (ds : List Dfr) (H : AHeap) : W cx fn rd (.cond c a b) ⟨fr, ds, H⟩ Q = ob (abool (ev fr c)) (kcd cx fn rd a b ⟨fr, ds, H⟩ Q) := rfl
theorem W_block (id : Nat) (a : Code) : W cx fn rd (.block id a) st Q = W cx fn rd a st (kblock id Q) := rfl
theorem W_scope (a : Code) : W cx fn rd (.scope a) st Q = W cx fn rd a st Q := rfl
theorem W_loop (a : Code) : W cx fn rd (.loop a) st Q = WL cx fn rd a st Q := rfl
theorem W_rf (f : Operand) (ps : Array Tmp) (a b : Code) : W cx fn rd (.rangeFunc f ps a b) st Q = WR cx fn rd f ps a b st Q := rfl
theorem W_exit (id : Nat) : W cx fn rd (.exit id) st Q = Q (.exit id) st := rfl
theorem W_ret : W cx fn rd .ret st Q = Q .ret st := rfl
theorem kreg_p (k : Option (List Nat)) (Q : Ex → St → Prop) (d : Imm) (st : St) : (kreg k Q).p d st = Q (.pan d) st := rfl
theorem kseq_pan (w : St → (Ex → St → Prop) → Prop) (d : Imm) : kseq w Q (.pan d) st = Q (.pan d) st := rfl
theorem kblock_pan (id : Nat) (d : Imm) : kblock id Q (.pan d) st = Q (.pan d) st := rfl
theorem kseq_nrm (w : St → (Ex → St → Prop) → Prop) : kseq w Q .nrm st = w st Q := rfl
theorem kseq_exit (w : St → (Ex → St → Prop) → Prop) (i : Nat) : kseq w Q (.exit i) st = Q (.exit i) st := rfl
theorem kseq_ret (w : St → (Ex → St → Prop) → Prop) : kseq w Q .ret st = Q .ret st := rfl
theorem kblock_nrm (id : Nat) : kblock id Q .nrm st = Q .nrm st := rfl
theorem kblock_ret (id : Nat) : kblock id Q .ret st = Q .ret st := rfl
theorem kblock_exit (id i : Nat) : kblock id Q (.exit i) st = kbl id Q st (i == id) i := by
  unfold kblock kbl; by_cases h : i = id <;> simp [h]
theorem abool_b (b : Bool) : abool (.im (.b b)) = some b := rfl
end
section
variable {cx : Cx} {R : AV → AHeap → Prop} {fr : Fr} {H : AHeap}
theorem kfin_ret (cx : Cx) (rs : List ResultVar) : kfin cx rs R .ret ⟨fr, [], H⟩ = ob (aresult cx.P fr H rs) (kres R H) := by
  unfold kfin; simp only [acolls, ob_some]; rfl
theorem kfin_pan (cx : Cx) (rs : List ResultVar) (d : Imm) : kfin cx rs R (.pan d) ⟨fr, [], H⟩ = R (panV d) H := by
  unfold kfin; simp only [acolls, ob_some]
theorem kfin_nrm (cx : Cx) (rs : List ResultVar) : kfin cx rs R .nrm ⟨fr, [], H⟩ = ob (aresult cx.P fr H rs) (kres R H) := by
  unfold kfin; simp only [acolls, ob_some]; rfl
theorem ares_nil {P : Program} : aresult P fr H [] = some [] := rfl
theorem ares_tmp {P : Program} (t : Nat) (rest : List ResultVar) : aresult P fr H (.tmp t :: rest) = (aresult P fr H rest).map (gd (lk t fr) :: ·) := by
  rw [aresult, Frget_eq]
theorem allIm_nil : allIm [] = some [] := rfl
theorem allIm_cons (d : Imm) (vs : List AV) : allIm (.im d :: vs) = (allIm vs).map (d :: ·) := by
  simp only [allIm, List.mapM_cons, AV.imm?]; cases List.mapM AV.imm? vs <;> rfl
def ifIm (o : Option (List Imm)) (f : List Imm → AV) (g : AV) : AV := match o with | some ds => f ds | none => g
theorem ifIm_some (ds : List Imm) (f : List Imm → AV) (g : AV) : ifIm (some ds) f g = f ds := rfl
theorem mkTup_eq (vs : List AV) : mkTup vs = ifIm (allIm vs) (fun ds => .im (.tup ds)) (.tup vs) := by unfold mkTup ifIm; cases allIm vs <;> rfl
theorem mkAgg_eq (vs : List AV) : mkAgg vs = ifIm (allIm vs) (fun ds => .im (.agg ds)) (.agg vs) := by unfold mkAgg ifIm; cases allIm vs <;> rfl
end
/-! Operations -/
section
variable {cx : Cx} {fn : FuncId} {all rest : List Oper} {fr : Fr} {ds : List Dfr} {H : AHeap} {Q : RQ} {d : Nat} {ty : TypeId} {p : String} {af : Array Edge}
theorem WO_nil {st : St} : WO cx fn all [] st Q = Q.n st := rfl
theorem ob_map {α β : Type} (x : Option α) (g : α → β) (f : β → Prop) : ob (x.map g) f = ob x fun a => f (g a) := by
  cases x <;> simp [ob_none, ob_some]
def yv : AV → Option (Option Bool) | .im (.b x) => some (some x) | .im .und => some none | _ => none
theorem yv_b (x : Bool) : yv (.im (.b x)) = some (some x) := rfl
theorem yv_und : yv (.im .und) = some none := rfl
def yd (o : Option Oper) : Option Nat := o.bind (·.dst)
theorem yd_some (t : Nat) (op : Op) (g : Option (Nat × Bool)) : yd (some ⟨some t, op, ty, p, af, g⟩) = some t := rfl
def yw (o : Option Nat) (fr : Fr) : Option (Option Bool) := match o with | some d => yv (gd (lk d fr)) | none => some none
theorem yw_some (t : Nat) (fr : Fr) : yw (some t) fr = yv (gd (lk t fr)) := rfl
theorem yielded_eq (ops : List Oper) (fr : Fr) (j : Nat) : yieldedA ops fr j = yw (yd ops[j]?) fr := by
  unfold yieldedA yw yd
  cases ops[j]?.bind (·.dst) with
  | none => rfl
  | some d => simp only [Frget_eq]; rfl
theorem WO_guard {op : Op} {o : Option Nat} {j : Nat} {w : Bool} : WO cx fn all (⟨o, op, ty, p, af, some (j, w)⟩ :: rest) ⟨fr, ds, H⟩ Q =
    ob (yieldedA all fr j) (kgd cx fn all rest o op ty p af w fr ds H Q) := by
  unfold kgd kgb
  rw [WO]
  congr 1
theorem putT_some (v : AV) : putT fr (some d) v = (d, v) :: fr := rfl
theorem putT_none (v : AV) : putT fr none v = fr := rfl
theorem WO_none {op : Op} {o : Option Nat} {st : St} (hd : isDfr op = false) : WO cx fn all (⟨o, op, ty, p, af, none⟩ :: rest) st Q = WOp cx fn ⟨o, op, ty, p, af, none⟩ st ⟨fun st' => WO cx fn all rest st' Q, Q.p⟩ := by
  rw [WO]; unfold W1; simp only [hd, Bool.false_eq_true, if_false]
theorem isDfr_aop {o : Oper} (hd : isDfr o.op = true) : aop cx fn o fr H = none ∨ ∃ g as, aop cx fn o fr H = some (.dfr g as) := by
  unfold isDfr at hd
  split at hd
  · rename_i c e
    unfold aop
    rw [e]
    obtain ⟨cl, args, ts⟩ := c
    cases cl with
    | value f => dsimp only; split
                 · exact .inr ⟨_, _, rfl⟩
                 · exact .inl rfl
    | _ => exact .inl rfl
  · cases hd
theorem WO_val {op : Op} {x : Option AV} (h : aop cx fn ⟨some d, op, ty, p, af, none⟩ fr H = x.map fun v => .val v H) : WO cx fn all (⟨some d, op, ty, p, af, none⟩ :: rest) ⟨fr, ds, H⟩ Q = ob x (kval cx fn all rest d fr ds H Q) := by
  by_cases hd : isDfr op = true
  · have hx : x = none := by
      rcases isDfr_aop (cx := cx) (fn := fn) (fr := fr) (H := H) (o := ⟨some d, op, ty, p, af, none⟩) hd with e | ⟨g, as, e⟩ <;> rw [e] at h <;> cases x <;> first | rfl | cases h
    subst hx
    rw [ob_none, WO]
    unfold W1
    simp only [hd, if_true]
    unfold WDf
    dsimp only
    rw [h, Option.map_none, ob_none]
  rw [WO_none (by simpa using hd)]
  unfold WOp
  rw [h, ob_map]
  rfl
theorem WO_vh {op : Op} {x : Option (AV × AHeap)} (h : aop cx fn ⟨some d, op, ty, p, af, none⟩ fr H = x.map fun (v, H) => .val v H) : WO cx fn all (⟨some d, op, ty, p, af, none⟩ :: rest) ⟨fr, ds, H⟩ Q = ob x (kvh cx fn all rest d fr ds Q) := by
  by_cases hd : isDfr op = true
  · have hx : x = none := by
      rcases isDfr_aop (cx := cx) (fn := fn) (fr := fr) (H := H) (o := ⟨some d, op, ty, p, af, none⟩) hd with e | ⟨g, as, e⟩ <;> rw [e] at h <;> cases x <;> first | rfl | cases h
    subst hx
    rw [ob_none, WO]
    unfold W1
    simp only [hd, if_true]
    unfold WDf
    dsimp only
    rw [h, Option.map_none, ob_none]
  rw [WO_none (by simpa using hd)]
  unfold WOp
  rw [h, ob_map]
  rfl
theorem WO_move (x : Operand) : WO cx fn all (⟨some d, .move x, ty, p, af, none⟩ :: rest) ⟨fr, ds, H⟩ Q = eb (ev fr x) (kval cx fn all rest d fr ds H Q) := by
  rw [WO_val (x := some (ev fr x)) rfl, ob_some]; rfl
def asg (P : Program) (vr : Bool) (ty : TypeId) (x : Operand) (v : AV) (H : AHeap) : Option (AV × AHeap) :=
  match vr, x with
  | true, .const (.slice none 0 0) => (elemOf P ty).bind fun e => (szOf P e).bind fun z => some (.sl H.length 0 0 0, H ++ [.row [] z e])
  | _, _ => some (v, H)
theorem asg_f (P : Program) (x : Operand) (v : AV) : asg P false ty x v H = some (v, H) := rfl
theorem asg_t (P : Program) (t : Nat) (v : AV) : asg P true ty (.tmp t) v H = some (v, H) := rfl
theorem asg_n (P : Program) (v : AV) : asg P true ty (.const (.slice none 0 0)) v H = (elemOf P ty).bind fun e => (szOf P e).bind fun z => some (.sl H.length 0 0 0, H ++ [.row [] z e]) := rfl
theorem WO_assign (x : Operand) : WO cx fn all (⟨some d, .assign x, ty, p, af, none⟩ :: rest) ⟨fr, ds, H⟩ Q = ob (asg cx.P (cx.vrow fn d) ty x (ev fr x) H) (kvh cx fn all rest d fr ds Q) := by
  refine WO_vh ?_
  unfold aop asg
  dsimp only
  split <;> rename_i hv
  · simp only [hv]
    cases elemOf cx.P ty with
    | none => rfl
    | some e => simp only [Option.bind_some]; cases szOf cx.P e <;> rfl
  · split
    · rename_i h1; exact (hv h1 rfl).elim
    · rfl
theorem pickA_t (a b : AV) : pickA true a b = a := by unfold pickA; split <;> rfl
theorem pickA_f (a b : AV) : pickA false a b = b := by unfold pickA; split <;> rfl
theorem pickA_tf (t : Bool) : pickA t (.im (.b true)) (.im (.b false)) = .im (.b t) := by cases t <;> rfl
theorem WO_pick (c a b : Operand) : WO cx fn all (⟨some d, .pick c a b, ty, p, af, none⟩ :: rest) ⟨fr, ds, H⟩ Q = ob (abool (ev fr c)) (kpk (ev fr a) (ev fr b) (kval cx fn all rest d fr ds H Q)) := by
  rw [WO_val (x := (abool (ev fr c)).map fun t => pickA t (ev fr a) (ev fr b)), ob_map]
  · rfl
  · unfold aop pickA
    dsimp only
    cases abool (ev fr c) with
    | none => rfl
    | some t =>
      simp only [Option.bind_some, Option.map_some]
      generalize ev fr a = x
      generalize ev fr b = y
      split
      · rfl
      · rename_i hv
        congr 2
        cases x <;> try rfl
        rename_i i
        cases i <;> try rfl
        cases y <;> try rfl
        rename_i j
        cases j <;> try rfl
        exact (hv _ _ rfl rfl).elim
def alc (P : Program) (vr : Bool) (e : TypeId) (z : Option Imm) (n : Option Nat) (H : AHeap) : Option (AV × AHeap) :=
  z.bind fun z => n.bind fun n => match vr, elemOf P e with
    | true, some e' => (szOf P e').bind fun z' => match z, n with
      | .sl 1 false true [], 1 => some (.ptr (H.length + 1) 1 0 0, H ++ [.row [] z' e', .row [[.sl H.length 0 0 0]] 1 e])
      | _, _ => none
    | _, _ => if z.cells.length = n then some (.ptr H.length 1 0 0, H ++ [.row [z.cells.map .im] n e]) else none
theorem alc_f (P : Program) (e : TypeId) (z : Imm) (n : Nat) : alc P false e (some z) (some n) H = if z.cells.length = n then some (.ptr H.length 1 0 0, H ++ [.row [z.cells.map .im] n e]) else none := rfl
theorem WO_alloc (e : TypeId) : WO cx fn all (⟨some d, .alloc e, ty, p, af, none⟩ :: rest) ⟨fr, ds, H⟩ Q = ob (alc cx.P (cx.vrow fn d) e (zeroImm cx.P e) (szOf cx.P e) H) (kvh cx fn all rest d fr ds Q) := by
  refine WO_vh ?_
  unfold aop alc
  dsimp only
  cases zeroImm cx.P e with
  | none => rfl
  | some z =>
    cases szOf cx.P e with
    | none => rfl
    | some n =>
      simp only [Option.bind_some, bind]
      cases hv : cx.vrow fn d with
      | false => simp only [Bool.false_eq_true, false_and]; split <;> rfl
      | true =>
        cases he : elemOf cx.P e with
        | none => dsimp only; split <;> rfl
        | some e' =>
          dsimp only
          cases szOf cx.P e' with
          | none => rfl
          | some z' =>
            simp only [Option.bind_some]
            split
            · rfl
            · rename_i hz
              split
              · exact (hz rfl rfl).elim
              · rfl
def bx (cb : Bool) (e : TypeId) (n : Option Nat) (a : AV) (H : AHeap) : Option (AV × AHeap) :=
  if n = some a.cells.length ∧ a.storable = true then
    match cb, a with
    | true, .im d => some (.im (.ip a.cells.length false [d.cells] 0 0), H)
    | _, _ => some (.ptr H.length 1 0 0, H ++ [.row [a.cells] a.cells.length e])
  else none
theorem bx_t (e : TypeId) (n : Nat) (dd : Imm) : bx true e (some n) (.im dd) H = if n = dd.cells.length ∧ AV.storable (.im dd) = true then some (.im (.ip n false [dd.cells] 0 0), H) else none := by
  have : (AV.im dd).cells.length = dd.cells.length := by cases dd <;> simp [AV.cells, Imm.cells]
  unfold bx
  simp only [Option.some.injEq, this]
  split
  · rename_i h; rw [h.1]
  · rfl
theorem bx_f (e : TypeId) (n : Nat) (a : AV) : bx false e (some n) a H = if n = a.cells.length ∧ a.storable = true then some (.ptr H.length 1 0 0, H ++ [.row [a.cells] n e]) else none := by
  unfold bx
  simp only [Option.some.injEq]
  split
  · rename_i h; rw [h.1]
  · rfl
theorem WO_box (e : TypeId) (x : Operand) : WO cx fn all (⟨some d, .box e x, ty, p, af, none⟩ :: rest) ⟨fr, ds, H⟩ Q = ob (bx (cx.cbox fn d) e (szOf cx.P e) (ev fr x) H) (kvh cx fn all rest d fr ds Q) := by
  refine WO_vh ?_
  unfold aop bx
  dsimp only
  split
  · split
    · rename_i h1 h2
      split
      · rename_i h3 h4; simp only [h4, AV.im.injEq] at h2 ⊢; subst h2; rfl
      · rename_i h3; exact (h3 _ h1 h2).elim
    · rename_i h1
      split
      · rename_i h3 h4; exact (h1 _ h3 h4).elim
      · rfl
  · rfl
theorem WO_build (t : TypeId) (ps : List (Nat × Operand)) : WO cx fn all (⟨some d, .build t ps.toArray, ty, p, af, none⟩ :: rest) ⟨fr, ds, H⟩ Q = ob (abuild cx.P t (ps.map fun (i, x) => (i, ev fr x))) (kval cx fn all rest d fr ds H Q) := WO_val rfl
theorem WO_bslice (t : TypeId) (n : Nat) (ps : List (Nat × Operand)) : WO cx fn all (⟨some d, .buildSlice t n ps.toArray, ty, p, af, none⟩ :: rest) ⟨fr, ds, H⟩ Q = ob (abuildSlice cx.P t n (ps.map fun (i, x) => (i, ev fr x)) H (cx.vrow fn d)) (kvh cx fn all rest d fr ds Q) := WO_vh rfl
theorem WO_load (t : TypeId) (a : Operand) : WO cx fn all (⟨some d, .load t a, ty, p, af, none⟩ :: rest) ⟨fr, ds, H⟩ Q = ob (aload cx.P t H (ev fr a)) (kval cx fn all rest d fr ds H Q) := WO_val rfl
theorem WO_store (t : TypeId) (a x : Operand) : WO cx fn all (⟨none, .store t a x, ty, p, af, none⟩ :: rest) ⟨fr, ds, H⟩ Q = ob (astore cx.P t H (ev fr a) (ev fr x)) (kH cx fn all rest fr ds Q) := by
  rw [WO_none rfl]
  unfold WOp
  rw [show aop cx fn ⟨none, .store t a x, ty, p, af, none⟩ fr H = (astore cx.P t H (ev fr a) (ev fr x)).map .skip from rfl, ob_map]
  rfl
def nilA (H : AHeap) (x : AV) : Option AV := match x with
  | .ptr l st j off => if live H l st then some (.ptr l st j off) else none
  | .im (.ip z q es j off) => some (.im (.ip z q es j off))
  | _ => none
theorem WO_nilCheck (x : Operand) : WO cx fn all (⟨some d, .nilCheck x, ty, p, af, none⟩ :: rest) ⟨fr, ds, H⟩ Q = ob (nilA H (ev fr x)) (kval cx fn all rest d fr ds H Q) := by
  refine WO_val ?_
  unfold aop nilA
  dsimp only
  cases ev fr x with
  | ptr l st j off => dsimp only; cases live H l st <;> rfl
  | im i => cases i <;> rfl
  | _ => rfl
theorem WO_nilCheck0 (x : Operand) : WO cx fn all (⟨none, .nilCheck x, ty, p, af, none⟩ :: rest) ⟨fr, ds, H⟩ Q = ob (nilA H (ev fr x)) (kn0 cx fn all rest fr ds H Q) := by
  rw [WO_none rfl]
  unfold WOp
  rw [show aop cx fn ⟨none, .nilCheck x, ty, p, af, none⟩ fr H = (nilA H (ev fr x)).map fun v => .val v H from ?_, ob_map]
  · rfl
  unfold aop nilA
  dsimp only
  cases ev fr x with
  | ptr l st j off => dsimp only; cases live H l st <;> rfl
  | im i => cases i <;> rfl
  | _ => rfl
def bin2 (P : Program) (op : BinOp) (t : TypeId) (x y : Operand) (a b : AV) : Option AV := (abin P op t x y a b).or (match P.underlying t with | some (.interface _) => aifc op a b | _ => none)
theorem WO_bin (op : BinOp) (t t' : TypeId) (x y : Operand) : WO cx fn all (⟨some d, .binOp op t x y t', ty, p, af, none⟩ :: rest) ⟨fr, ds, H⟩ Q = ob (bin2 cx.P op t x y (ev fr x) (ev fr y)) (kval cx fn all rest d fr ds H Q) := WO_val rfl
theorem WO_un (op : UnOp) (t : TypeId) (x : Operand) : WO cx fn all (⟨some d, .unOp op t x, ty, p, af, none⟩ :: rest) ⟨fr, ds, H⟩ Q = ob (aun cx.P op (ev fr x)) (kval cx fn all rest d fr ds H Q) := WO_val rfl
theorem WO_conv (s t : TypeId) (x : Operand) : WO cx fn all (⟨some d, .convert s t x, ty, p, af, none⟩ :: rest) ⟨fr, ds, H⟩ Q = ob (aconv cx.P s t (ev fr x)) (kval cx fn all rest d fr ds H Q) := WO_val rfl
def mkFn (g : FuncId) (vs : List AV) : AV := match allIm vs with | some ds => .im (.fn g ds) | none => .fn (.func g) vs
theorem mkFn_nil (g : FuncId) : mkFn g [] = .im (.fn g []) := rfl
theorem mkFn_eq (g : FuncId) (vs : List AV) : mkFn g vs = ifIm (allIm vs) (fun ds => .im (.fn g ds)) (.fn (.func g) vs) := by unfold mkFn ifIm; cases allIm vs <;> rfl
theorem WO_func (g : FuncId) (cap : List Operand) : WO cx fn all (⟨some d, .makeFunc (.func g) #[] cap.toArray, ty, p, af, none⟩ :: rest) ⟨fr, ds, H⟩ Q = eb (mkFn g (cap.map (ev fr))) (kval cx fn all rest d fr ds H Q) := by
  rw [WO_val (x := some (mkFn g (cap.map (ev fr)))) rfl, ob_some]; rfl
theorem WO_makeMap (t : TypeId) : WO cx fn all (⟨some d, .makeMap t none, ty, p, af, none⟩ :: rest) ⟨fr, ds, H⟩ Q = eb (H ++ [.map [] []]) (kmp cx fn all rest d H.length fr ds Q) := by
  rw [WO_vh (x := some (.map H.length, H ++ [.map [] []])) rfl, ob_some]; rfl
theorem WO_makeSlice (t : TypeId) (n c : Operand) : WO cx fn all (⟨some d, .makeSlice t n c, ty, p, af, none⟩ :: rest) ⟨fr, ds, H⟩ Q = ob (amakeSlice cx.P t (ev fr n) (ev fr c) H) (kvh cx fn all rest d fr ds Q) := WO_vh rfl
theorem WO_slice (t : TypeId) (x : Operand) (lo hi : Option Operand) : WO cx fn all (⟨some d, .slice t x lo hi none, ty, p, af, none⟩ :: rest) ⟨fr, ds, H⟩ Q = ob (aslice cx.P H t (ev fr x) (lo.map (ev fr)) (hi.map (ev fr)) none) (kval cx fn all rest d fr ds H Q) := WO_val rfl
theorem WO_slice3 (t : TypeId) (x : Operand) (lo : Option Operand) (hi mx : Operand) : WO cx fn all (⟨some d, .slice t x lo (some hi) (some mx), ty, p, af, none⟩ :: rest) ⟨fr, ds, H⟩ Q = ob (aslice cx.P H t (ev fr x) (lo.map (ev fr)) (some (ev fr hi)) (some (ev fr mx))) (kval cx fn all rest d fr ds H Q) := WO_val rfl
theorem WO_fieldAddr (t : TypeId) (x : Operand) (f : Nat) : WO cx fn all (⟨some d, .fieldAddr t x f, ty, p, af, none⟩ :: rest) ⟨fr, ds, H⟩ Q = ob (afieldAddr cx.P H t (ev fr x) f) (kval cx fn all rest d fr ds H Q) := WO_val rfl
theorem WO_field (t : TypeId) (x : Operand) (f : Nat) : WO cx fn all (⟨some d, .field t x f, ty, p, af, none⟩ :: rest) ⟨fr, ds, H⟩ Q = ob (afield cx.P t (ev fr x) f) (kval cx fn all rest d fr ds H Q) := WO_val rfl
theorem WO_indexAddr (t : TypeId) (x i : Operand) : WO cx fn all (⟨some d, .indexAddr t x i, ty, p, af, none⟩ :: rest) ⟨fr, ds, H⟩ Q = ob (aindexAddr cx.P H t (ev fr x) (ev fr i)) (kval cx fn all rest d fr ds H Q) := WO_val rfl
theorem WO_index (t : TypeId) (x i : Operand) : WO cx fn all (⟨some d, .index t x i, ty, p, af, none⟩ :: rest) ⟨fr, ds, H⟩ Q = ob (aindex cx.P t (ev fr x) (ev fr i)) (kval cx fn all rest d fr ds H Q) := WO_val rfl
theorem WO_lookup (t : TypeId) (x i : Operand) (ok : Bool) : WO cx fn all (⟨some d, .lookup t x i ok, ty, p, af, none⟩ :: rest) ⟨fr, ds, H⟩ Q = ob (alookup cx.P t (ev fr x) (ev fr i) ok H) (kval cx fn all rest d fr ds H Q) := WO_val rfl
theorem WO_mapUpdate (t : TypeId) (m k x : Operand) : WO cx fn all (⟨none, .mapUpdate t m k x, ty, p, af, none⟩ :: rest) ⟨fr, ds, H⟩ Q = ob (amapUpdate cx.P t (ev fr m) (ev fr k) (ev fr x) H) (kH cx fn all rest fr ds Q) := by
  rw [WO_none rfl]
  unfold WOp
  rw [show aop cx fn ⟨none, .mapUpdate t m k x, ty, p, af, none⟩ fr H = (amapUpdate cx.P t (ev fr m) (ev fr k) (ev fr x) H).map .skip from rfl, ob_map]
  rfl
def extA (v : AV) (i : Nat) : Option AV := match v with | .im (.tup cs) => (cs[i]?).map .im | .tup cs => cs[i]? | _ => none
theorem extA_im (cs : List Imm) (i : Nat) : extA (.im (.tup cs)) i = (cs[i]?).map .im := rfl
theorem extA_tup (cs : List AV) (i : Nat) : extA (.tup cs) i = cs[i]? := rfl
theorem WO_extract (t : Operand) (i : Nat) : WO cx fn all (⟨some d, .extract t i, ty, p, af, none⟩ :: rest) ⟨fr, ds, H⟩ Q = ob (extA (ev fr t) i) (kval cx fn all rest d fr ds H Q) := by
  refine WO_val ?_
  unfold aop extA
  dsimp only
  generalize ev fr t = x
  cases x <;> try rfl
  rename_i i
  cases i <;> rfl
theorem WO_len (x : Operand) (t : TypeId) : WO cx fn all (⟨some d, .call ⟨.builtin .len, #[x], #[t]⟩, ty, p, af, none⟩ :: rest) ⟨fr, ds, H⟩ Q = ob (alen cx.P t H (ev fr x)) (kval cx fn all rest d fr ds H Q) := WO_val rfl
theorem WO_max (x y : Operand) (ts : Array TypeId) : WO cx fn all (⟨some d, .call ⟨.builtin .max, #[x, y], ts⟩, ty, p, af, none⟩ :: rest) ⟨fr, ds, H⟩ Q = ob (amaxmin true [ev fr x, ev fr y]) (kval cx fn all rest d fr ds H Q) := by
  refine WO_val ?_
  unfold aop; dsimp only; rfl
theorem WO_min (x y : Operand) (ts : Array TypeId) : WO cx fn all (⟨some d, .call ⟨.builtin .min, #[x, y], ts⟩, ty, p, af, none⟩ :: rest) ⟨fr, ds, H⟩ Q = ob (amaxmin false [ev fr x, ev fr y]) (kval cx fn all rest d fr ds H Q) := by
  refine WO_val ?_
  unfold aop; dsimp only; rfl
theorem WO_append (x y : Operand) (t t' : TypeId) : WO cx fn all (⟨some d, .call ⟨.builtin .append, #[x, y], #[t, t']⟩, ty, p, af, none⟩ :: rest) ⟨fr, ds, H⟩ Q = ob (pik (t == t') (aappend cx.P t (ev fr x) (ev fr y) H) none) (kvh cx fn all rest d fr ds Q) := by
  by_cases h : t = t'
  · subst h
    rw [WO_vh (x := aappend cx.P t (ev fr x) (ev fr y) H)]
    · simp [pik]
    · unfold aop; simp
  · have : WOp cx fn ⟨some d, .call ⟨.builtin .append, #[x, y], #[t, t']⟩, ty, p, af, none⟩ ⟨fr, ds, H⟩ ⟨fun st' => WO cx fn all rest st' Q, Q.p⟩ = False := by
      unfold WOp
      rw [show aop cx fn ⟨some d, .call ⟨.builtin .append, #[x, y], #[t, t']⟩, ty, p, af, none⟩ fr H = none by unfold aop; simp [h], ob_none]
    rw [show pik (t == t') (aappend cx.P t (ev fr x) (ev fr y) H) none = none by simp [pik, h], ob_none]
    exact this
theorem WO_call (f : Operand) (args : List Operand) (ts : Array TypeId) : WO cx fn all (⟨some d, .call ⟨.value f, args.toArray, ts⟩, ty, p, af, none⟩ :: rest) ⟨fr, ds, H⟩ Q = ob (callee (ev fr f) (args.map (ev fr))) (kca cx H (kvc cx fn all rest d fr ds Q)) := by
  rw [WO_none rfl]
  unfold WOp
  rw [show aop cx fn ⟨some d, .call ⟨.value f, args.toArray, ts⟩, ty, p, af, none⟩ fr H = (callee (ev fr f) (args.map (ev fr))).map .call from ?_, ob_map]
  · rfl
  · unfold aop
    rfl
theorem WO_call0 (f : Operand) (args : List Operand) (ts : Array TypeId) : WO cx fn all (⟨none, .call ⟨.value f, args.toArray, ts⟩, ty, p, af, none⟩ :: rest) ⟨fr, ds, H⟩ Q = ob (callee (ev fr f) (args.map (ev fr))) (kca cx H (kvc0 cx fn all rest fr ds Q)) := by
  rw [WO_none rfl]
  unfold WOp
  rw [show aop cx fn ⟨none, .call ⟨.value f, args.toArray, ts⟩, ty, p, af, none⟩ fr H = (callee (ev fr f) (args.map (ev fr))).map .call from ?_, ob_map]
  · rfl
  · unfold aop
    rfl
def kdfr (cx : Cx) (fn : FuncId) (all rest : List Oper) (d : Option Nat) (fr : Fr) (ds : List Dfr) (H : AHeap) (Q : RQ) (r : Req) : Prop :=
  match r with | .fn g as => WO cx fn all rest ⟨putT fr d (.im .und), .fn g as :: ds, H⟩ Q | _ => False
theorem kdfr_fn (o : Option Nat) (g : FuncId) (as : List AV) : kdfr cx fn all rest o fr ds H Q (.fn g as) = WO cx fn all rest ⟨putT fr o (.im .und), .fn g as :: ds, H⟩ Q := rfl
theorem WO_defer (o : Option Nat) (f : Operand) (args : List Operand) (ts : Array TypeId) : WO cx fn all (⟨o, .defer ⟨.value f, args.toArray, ts⟩, ty, p, af, none⟩ :: rest) ⟨fr, ds, H⟩ Q = ob (callee (ev fr f) (args.map (ev fr))) (kdfr cx fn all rest o fr ds H Q) := by
  rw [WO]
  unfold W1
  simp only [isDfr, if_true]
  unfold WDf aop
  dsimp only
  cases callee (ev fr f) (args.map (ev fr)) with
  | none => rw [ob_none, ob_none]
  | some r => cases r <;> simp only [ob_some, ob_none] <;> rfl
def kpn (fr : Fr) (ds : List Dfr) (H : AHeap) (Q : RQ) (v : AV) : Prop := match v with | .im (.ifc t d) => Q.p (.ifc t d) ⟨fr, ds, H⟩ | _ => False
theorem kpn_eq (t : TypeId) (c : Imm) : kpn fr ds H Q (.im (.ifc t c)) = Q.p (.ifc t c) ⟨fr, ds, H⟩ := rfl
theorem WO_panic (o : Option Nat) (x : Operand) : WO cx fn all (⟨o, .panic x, ty, p, af, none⟩ :: rest) ⟨fr, ds, H⟩ Q = eb (ev fr x) (kpn fr ds H Q) := by
  rw [WO_none rfl]
  unfold WOp aop
  dsimp only
  show _ = kpn fr ds H Q (ev fr x)
  generalize ev fr x = v
  unfold kpn
  split
  · simp only [ob_some]
  · rename_i hv
    split
    · exact (hv _ _ rfl).elim
    · simp only [ob_none]
theorem callee_im (g : FuncId) (cap : List Imm) (args : List AV) : callee (.im (.fn g cap)) args = some (.fn g (args ++ cap.map .im)) := rfl
theorem callee_fn (g : FuncId) (cap args : List AV) : callee (.fn (.func g) cap) args = some (.fn g (args ++ cap)) := rfl
theorem callee_yield (l : Nat) (args : List AV) : callee (.fn (.yield l) []) args = some (.round l args) := rfl
end
/-! Values -/
def aldI (ag : Option Bool) (n : Option Nat) (c : Option (List Imm)) (off : Nat) : Option AV :=
  c.bind fun cs => ag.bind fun a => if a then n.bind fun n => (sub cs off n).map (fun x => .im (.agg x)) else (cs[off]?).map .im
theorem aload_im (P : Program) (t : TypeId) (H : AHeap) (z : Nat) (q : Bool) (es : List (List Imm)) (j off : Nat) : aload P t H (.im (.ip z q es j off)) = aldI (isAg P t) (szOf P t) es[j]? off := by
  unfold aload aldI
  dsimp only
  cases es[j]? with
  | none => rfl
  | some cs =>
    simp only [bind, Option.bind_some]
theorem aldI_t (n : Nat) (cs : List Imm) (off : Nat) : aldI (some true) (some n) (some cs) off = (sub cs off n).map fun x => .im (.agg x) := rfl
theorem aldI_f (n : Option Nat) (cs : List Imm) (off : Nat) : aldI (some false) n (some cs) off = (cs[off]?).map .im := rfl
def aldP (ag : Option Bool) (n : Option Nat) (r : Option (List (List AV) × Nat)) (j off : Nat) : Option AV :=
  r.bind fun p => (p.1[j]?).bind fun cs => ag.bind fun a => if a then n.bind fun n => (sub cs off n).map mkAgg else cs[off]?
theorem aload_p (P : Program) (t : TypeId) (H : AHeap) (l m j off : Nat) : aload P t H (.ptr l m j off) = aldP (isAg P t) (szOf P t) (rdr H l m) j off := by
  unfold aload aldP
  dsimp only
  cases rdr H l m with
  | none => rfl
  | some p =>
    obtain ⟨es, z⟩ := p
    cases h : es[j]? with
    | none => simp [h]
    | some cs =>
      cases isAg P t with
      | none => simp [h]
      | some a => cases a <;> cases szOf P t <;> simp [h]
def aldR (c : Option (List AV)) (off n : Nat) : Option AV := c.bind fun cs => (sub cs off n).map mkAgg
def aldC (c : Option (List AV)) (off : Nat) : Option AV := c.bind fun cs => cs[off]?
theorem aldP_t (n z : Nat) (es : List (List AV)) (j off : Nat) : aldP (some true) (some n) (some (es, z)) j off = aldR es[j]? off n := by unfold aldP aldR; cases h : es[j]? <;> simp [h]
theorem aldP_f (n : Option Nat) (z : Nat) (es : List (List AV)) (j off : Nat) : aldP (some false) n (some (es, z)) j off = aldC es[j]? off := by unfold aldP aldC; cases h : es[j]? <;> simp [h]
theorem aldR_some (cs : List AV) (off n : Nat) : aldR (some cs) off n = (sub cs off n).map mkAgg := rfl
theorem aldC_some (cs : List AV) (off : Nat) : aldC (some cs) off = cs[off]? := rfl
theorem sub_eq {α : Type} (cs : List α) (off n : Nat) : sub cs off n = if off + n ≤ cs.length then some ((cs.drop off).take n) else none := rfl
theorem sub_all {α : Type} {cs : List α} {n : Nat} (h : cs.length = n) : sub cs 0 n = some cs := by
  subst h; simp [sub_eq]
def rdO (o : Option AObj) (m : Nat) : Option (List (List AV) × Nat) := match o with | some (.row es z _) => if es.length = m then some (es, z) else none | _ => none
theorem rdr_eq (H : AHeap) (l m : Nat) : rdr H l m = rdO H[l]? m := rfl
theorem rdO_row (es : List (List AV)) (z m : Nat) (t : TypeId) : rdO (some (.row es z t)) m = if es.length = m then some (es, z) else none := rfl
theorem live_eq (H : AHeap) (l m : Nat) : live H l m = (rdO H[l]? m).isSome := rfl
def ast (P : Program) (H : AHeap) (l m j off : Nat) (o : Option AObj) (n : Option Nat) (v : AV) : Option AHeap :=
  match o with
  | some (.row es z e) => (es[j]?).bind fun cs => if es.length = m ∧ n = some v.cells.length ∧ off + v.cells.length ≤ cs.length ∧ v.storable = true then some (H.set l (.row (es.set j (splice cs off v.cells)) z e)) else none
  | _ => none
theorem astore_ptr (P : Program) (t : TypeId) (H : AHeap) (l m j off : Nat) (v : AV) : astore P t H (.ptr l m j off) v = ast P H l m j off H[l]? (szOf P t) v := by
  unfold astore ast
  dsimp only
  cases H[l]? with
  | none => rfl
  | some o => cases o <;> rfl
theorem ast_row (P : Program) (H : AHeap) (l m j off : Nat) (es : List (List AV)) (z : Nat) (e : TypeId) (n : Nat) (v : AV) :
    ast P H l m j off (some (.row es z e)) (some n) v = (es[j]?).bind fun cs => if es.length = m ∧ n = v.cells.length ∧ off + v.cells.length ≤ cs.length ∧ v.storable = true then some (H.set l (.row (es.set j (splice cs off v.cells)) z e)) else none := by
  unfold ast; simp only [Option.some.injEq]
theorem splice_eq {α : Type} (cs : List α) (off : Nat) (vs : List α) : splice cs off vs = cs.take off ++ vs ++ cs.drop (off + vs.length) := rfl
theorem cells_agg (cs : List Imm) : (AV.im (.agg cs)).cells = cs.map .im := rfl
theorem cells_b (x : Bool) : (AV.im (.b x)).cells = [.im (.b x)] := rfl
theorem cells_i (k : IntKind) (x : Int) : (AV.im (.i k x)).cells = [.im (.i k x)] := rfl
theorem cells_s (x : ByteArray) : (AV.im (.s x)).cells = [.im (.s x)] := rfl
theorem cells_sl (z : Nat) (q t : Bool) (es : List (List Imm)) : (AV.im (.sl z q t es)).cells = [.im (.sl z q t es)] := rfl
theorem cells_asl (l m j n : Nat) : (AV.sl l m j n).cells = [.sl l m j n] := rfl
theorem cells_aagg (cs : List AV) : (AV.agg cs).cells = cs := rfl
theorem cells_ptr (l m j n : Nat) : (AV.ptr l m j n).cells = [.ptr l m j n] := rfl
theorem cells_map (l : Nat) : (AV.map l).cells = [.map l] := rfl
theorem cells_nilm : (AV.im .nilm).cells = [.im .nilm] := rfl
theorem icells_agg (cs : List Imm) : (Imm.agg cs).cells = cs := rfl
theorem icells_b (x : Bool) : (Imm.b x).cells = [.b x] := rfl
theorem icells_i (k : IntKind) (x : Int) : (Imm.i k x).cells = [.i k x] := rfl
theorem icells_s (x : ByteArray) : (Imm.s x).cells = [.s x] := rfl
theorem icells_sl (z : Nat) (q t : Bool) (es : List (List Imm)) : (Imm.sl z q t es).cells = [.sl z q t es] := rfl
theorem icells_fn (f : FuncId) (c : List Imm) : (Imm.fn f c).cells = [.fn f c] := rfl
theorem sto_agg (cs : List Imm) : (AV.im (.agg cs)).storable = true := rfl
theorem sto_aagg (cs : List AV) : (AV.agg cs).storable = true := rfl
theorem sto_b (x : Bool) : (AV.im (.b x)).storable = true := rfl
theorem sto_i (k : IntKind) (x : Int) : (AV.im (.i k x)).storable = true := rfl
theorem sto_s (x : ByteArray) : (AV.im (.s x)).storable = true := rfl
theorem sto_sl (z : Nat) (q t : Bool) (es : List (List Imm)) : (AV.im (.sl z q t es)).storable = true := rfl
theorem sto_asl (l m j n : Nat) : (AV.sl l m j n).storable = true := rfl
theorem sto_fn (f : FuncId) (c : List Imm) : (AV.im (.fn f c)).storable = true := rfl
theorem sto_afn (f : Fn) (c : List AV) : (AV.fn f c).storable = true := rfl
theorem sto_map (l : Nat) : (AV.map l).storable = true := rfl
theorem sto_nilm : (AV.im .nilm).storable = true := rfl
/-- Fields of structs. -/
def faF (n : Option Nat) (o : Nat) (H : AHeap) (a : AV) : Option AV := n.bind fun n => if n = 0 then none else
  match a with
  | .ptr l m j off => if live H l m then some (.ptr l m j (off + o)) else none
  | .im (.ip z q es j off) => some (.im (.ip z q es j (off + o)))
  | _ => none
def faE (P : Program) (o : Option (Nat × TypeId)) (H : AHeap) (a : AV) : Option AV := o.bind fun p => faF (szOf P p.2) p.1 H a
theorem faE_some (P : Program) (o : Nat) (u : TypeId) (H : AHeap) (a : AV) : faE P (some (o, u)) H a = faF (szOf P u) o H a := rfl
theorem afieldAddr_eq (P : Program) (H : AHeap) (t : TypeId) (a : AV) (f : Nat) : afieldAddr P H t a f = faE P (fldOf P t f) H a := by
  unfold afieldAddr faE faF
  cases fldOf P t f with
  | none => rfl
  | some p =>
    obtain ⟨o, u⟩ := p
    simp only [bind, Option.bind_some]
    cases szOf P u with
    | none => rfl
    | some n =>
      simp only [Option.bind_some]
      split
      · rfl
      · cases a with
        | im i => cases i <;> rfl
        | _ => rfl
theorem faF_im (o n : Nat) (H : AHeap) (z : Nat) (q : Bool) (es : List (List Imm)) (j off : Nat) : faF (some n) o H (.im (.ip z q es j off)) = if n = 0 then none else some (.im (.ip z q es j (off + o))) := rfl
theorem faF_ptr (o n : Nat) (H : AHeap) (l m j off : Nat) : faF (some n) o H (.ptr l m j off) = if n = 0 then none else if live H l m then some (.ptr l m j (off + o)) else none := rfl
def fF (ag : Option Bool) (n : Option Nat) (o : Nat) (a : AV) : Option AV := ag.bind fun x => n.bind fun n =>
  match a with
  | .im (.agg cs) => if x then (sub cs o n).map (fun x => .im (.agg x)) else (cs[o]?).map .im
  | .agg cs => if x then (sub cs o n).map mkAgg else cs[o]?
  | _ => none
def fE (P : Program) (o : Option (Nat × TypeId)) (a : AV) : Option AV := o.bind fun p => fF (isAg P p.2) (szOf P p.2) p.1 a
theorem fE_some (P : Program) (o : Nat) (u : TypeId) (a : AV) : fE P (some (o, u)) a = fF (isAg P u) (szOf P u) o a := rfl
theorem afield_eq (P : Program) (t : TypeId) (a : AV) (f : Nat) : afield P t a f = fE P (fldOf P t f) a := by
  unfold afield fE fF
  cases fldOf P t f with
  | none => rfl
  | some p =>
    obtain ⟨o, u⟩ := p
    simp only [bind, Option.bind_some]
    cases isAg P u with
    | none => rfl
    | some x =>
      cases szOf P u with
      | none => rfl
      | some n =>
        simp only [Option.bind_some]
        cases a with
        | im i => cases i <;> rfl
        | _ => rfl
theorem fF_imt (o n : Nat) (cs : List Imm) : fF (some true) (some n) o (.im (.agg cs)) = (sub cs o n).map fun x => .im (.agg x) := rfl
theorem fF_imf (o n : Nat) (cs : List Imm) : fF (some false) (some n) o (.im (.agg cs)) = (cs[o]?).map .im := rfl
theorem fF_t (o n : Nat) (cs : List AV) : fF (some true) (some n) o (.agg cs) = (sub cs o n).map mkAgg := rfl
theorem fF_f (o n : Nat) (cs : List AV) : fF (some false) (some n) o (.agg cs) = cs[o]? := rfl
/-- Elements. -/
def iaS (P : Program) (u : Option TypeDesc) (H : AHeap) (x : AV) (i : Int) : Option AV :=
  match u with
  | some (.slice e) =>
    match x with
    | .im (.sl z q _ es) => if 0 ≤ i ∧ i.toNat < es.length ∧ szOf P e = some z then some (.im (.ip z q es i.toNat 0)) else none
    | .sl l m j n => if 0 ≤ i ∧ i.toNat < n ∧ live H l m = true ∧ (rdr H l m).map (·.2) = szOf P e then some (.ptr l m (j + i.toNat) 0) else none
    | _ => none
  | some (.array len e) => (szOf P e).bind fun z =>
    match x with
    | .im (.ip z' q es j off) => if 0 ≤ i ∧ i.toNat < len then some (.im (.ip z' q es j (off + i.toNat * z))) else none
    | .ptr l m j off => if 0 ≤ i ∧ i.toNat < len ∧ live H l m = true then some (.ptr l m j (off + i.toNat * z)) else none
    | _ => none
  | _ => none
theorem aindexAddr_eq (P : Program) (H : AHeap) (t : TypeId) (x : AV) (k : IntKind) (i : Int) : aindexAddr P H t x (.im (.i k i)) = iaS P (P.underlying t) H x i := by
  unfold aindexAddr iaS
  simp only [aint, bind, Option.bind_some]
  cases P.underlying t with
  | none => rfl
  | some u => cases u <;> rfl
theorem iaS_im (P : Program) (e : TypeId) (H : AHeap) (z : Nat) (q t : Bool) (es : List (List Imm)) (i : Int) : iaS P (some (.slice e)) H (.im (.sl z q t es)) i = if 0 ≤ i ∧ i.toNat < es.length ∧ szOf P e = some z then some (.im (.ip z q es i.toNat 0)) else none := rfl
theorem iaS_sl (P : Program) (e : TypeId) (H : AHeap) (l m j n : Nat) (i : Int) : iaS P (some (.slice e)) H (.sl l m j n) i = if 0 ≤ i ∧ i.toNat < n ∧ live H l m = true ∧ (rdr H l m).map (·.2) = szOf P e then some (.ptr l m (j + i.toNat) 0) else none := rfl
def lenS (u : Option TypeDesc) (H : AHeap) (x : AV) : Option AV :=
  match u, x with
  | some .string, .im (.s x) => some (.im (.i .i64 x.size))
  | some (.slice _), .im (.sl _ _ _ es) => some (.im (.i .i64 es.length))
  | some (.slice _), .sl l m _ n => if live H l m then some (.im (.i .i64 n)) else none
  | some (.map _ _), .im .nilm => some (.im (.i .i64 0))
  | some (.map _ _), .im (.mp _ ks _) => some (.im (.i .i64 ks.length))
  | some (.map _ _), .map l => match H[l]? with
    | some (.map ks _) => some (.im (.i .i64 ks.length))
    | _ => none
  | _, _ => none
theorem alen_eq (P : Program) (t : TypeId) (H : AHeap) (x : AV) : alen P t H x = lenS (P.underlying t) H x := rfl
theorem lenS_s (H : AHeap) (x : ByteArray) : lenS (some .string) H (.im (.s x)) = some (.im (.i .i64 x.size)) := rfl
theorem lenS_im (e : TypeId) (H : AHeap) (z : Nat) (q t : Bool) (es : List (List Imm)) : lenS (some (.slice e)) H (.im (.sl z q t es)) = some (.im (.i .i64 es.length)) := rfl
theorem lenS_sl (e : TypeId) (H : AHeap) (l m j n : Nat) : lenS (some (.slice e)) H (.sl l m j n) = if live H l m then some (.im (.i .i64 n)) else none := rfl
end Go.Proofs.Ytnbbhbbhgcipjaa.Am

namespace Go.Proofs.Ytnbbhbbhgcipjaa.Am
/-! Arithmetic -/
theorem bin_of {P : Program} {op : BinOp} {t : TypeId} {x y : Operand} {a b r : Imm} {a' b' v : Value} (ha : a.val = some a') (hb : b.val = some b') (h : Sem.val? P (do eqGuard op t x y a' b'; Go.binOp op t a' b') = some v) (hr : Imm.ofScal v = some r) : bin2 P op t x y (.im a) (.im b) = some (.im r) := by
  unfold bin2 abin
  simp only [ha, hb]
  rw [h]
  simp [hr]
theorem val_pure {α : Type} (P : Program) (a : α) : Sem.val? P (pure a) = some a := rfl
theorem bin_eql (P : Program) (t : TypeId) (x y : Operand) (k : IntKind) (a b : Int) : bin2 P .eql t x y (.im (.i k a)) (.im (.i k b)) = some (.im (.b (decide (a = b)))) := by
  have : bin2 P .eql t x y (.im (.i k a)) (.im (.i k b)) = some (.im (.b (a == b))) := bin_of rfl rfl (by simp [eqGuard, Go.binOp, Op.intCmp, Op.intArith]; rfl) rfl
  rw [this]; congr 3
theorem bin_neq (P : Program) (t : TypeId) (x y : Operand) (k : IntKind) (a b : Int) : bin2 P .neq t x y (.im (.i k a)) (.im (.i k b)) = some (.im (.b (!decide (a = b)))) := by
  have : bin2 P .neq t x y (.im (.i k a)) (.im (.i k b)) = some (.im (.b (a != b))) := bin_of rfl rfl (by simp [eqGuard, Go.binOp, Op.intCmp, Op.intArith]; rfl) rfl
  rw [this]; congr 3
theorem bin_lss (P : Program) (t : TypeId) (x y : Operand) (k : IntKind) (a b : Int) : bin2 P .lss t x y (.im (.i k a)) (.im (.i k b)) = some (.im (.b (decide (a < b)))) := bin_of rfl rfl (by simp [eqGuard, Go.binOp, Op.intCmp, Op.intArith]; rfl) rfl
theorem bin_leq (P : Program) (t : TypeId) (x y : Operand) (k : IntKind) (a b : Int) : bin2 P .leq t x y (.im (.i k a)) (.im (.i k b)) = some (.im (.b (decide (a ≤ b)))) := bin_of rfl rfl (by simp [eqGuard, Go.binOp, Op.intCmp, Op.intArith]; rfl) rfl
theorem bin_gtr (P : Program) (t : TypeId) (x y : Operand) (k : IntKind) (a b : Int) : bin2 P .gtr t x y (.im (.i k a)) (.im (.i k b)) = some (.im (.b (decide (b < a)))) := bin_of rfl rfl (by simp [eqGuard, Go.binOp, Op.intCmp, Op.intArith]; rfl) rfl
theorem bin_geq (P : Program) (t : TypeId) (x y : Operand) (k : IntKind) (a b : Int) : bin2 P .geq t x y (.im (.i k a)) (.im (.i k b)) = some (.im (.b (decide (b ≤ a)))) := bin_of rfl rfl (by simp [eqGuard, Go.binOp, Op.intCmp, Op.intArith]; rfl) rfl
theorem bin_add (P : Program) (t : TypeId) (x y : Operand) (k : IntKind) (a b : Int) : bin2 P .add t x y (.im (.i k a)) (.im (.i k b)) = some (.im (.i k (k.wrap (a + b)))) := bin_of rfl rfl (by simp [eqGuard, Go.binOp, Op.intCmp, Op.intArith]; rfl) rfl
theorem bin_sub (P : Program) (t : TypeId) (x y : Operand) (k : IntKind) (a b : Int) : bin2 P .sub t x y (.im (.i k a)) (.im (.i k b)) = some (.im (.i k (k.wrap (a - b)))) := bin_of rfl rfl (by simp [eqGuard, Go.binOp, Op.intCmp, Op.intArith]; rfl) rfl
theorem bin_mul (P : Program) (t : TypeId) (x y : Operand) (k : IntKind) (a b : Int) : bin2 P .mul t x y (.im (.i k a)) (.im (.i k b)) = some (.im (.i k (k.wrap (a * b)))) := bin_of rfl rfl (by simp [eqGuard, Go.binOp, Op.intCmp, Op.intArith]; rfl) rfl
theorem toList_eq {a b : ByteArray} : (a.toList == b.toList) = decide (a = b) := by
  simp only [ByteArray.toList_eq]
  by_cases h : a = b
  · subst h; simp
  · have : a.data.toList ≠ b.data.toList := fun e => h (by cases a; cases b; simpa using e)
    simp only [h, decide_false, beq_eq_false_iff_ne, ne_eq, this, not_false_eq_true]
theorem bin_seql (P : Program) (t : TypeId) (x y : Operand) (a b : ByteArray) : bin2 P .eql t x y (.im (.s a)) (.im (.s b)) = some (.im (.b (decide (a = b)))) := by
  rw [← toList_eq]; rfl
theorem bin_sneq (P : Program) (t : TypeId) (x y : Operand) (a b : ByteArray) : bin2 P .neq t x y (.im (.s a)) (.im (.s b)) = some (.im (.b (!decide (a = b)))) := by
  rw [← toList_eq]; rfl
theorem un_not (P : Program) (b : Bool) : aun P .not (.im (.b b)) = some (.im (.b (!b))) := rfl
theorem wrap_id {n : Int} (h : -9223372036854775808 ≤ n) (h' : n ≤ 9223372036854775807) : IntKind.i64.wrap n = n := by
  have e : IntKind.i64.wrap n = if n % 18446744073709551616 ≥ 9223372036854775808 then n % 18446744073709551616 - 18446744073709551616 else n % 18446744073709551616 := by
    simp [IntKind.wrap, IntKind.signed, IntKind.bits]
  rw [e]
  split <;> omega
theorem amax_ok (k : IntKind) (a b : Int) : amaxmin true [.im (.i k a), .im (.i k b)] = some (.im (.i k (max a b))) := by
  unfold amaxmin; simp only [if_true, Option.some.injEq, AV.im.injEq, Imm.i.injEq, true_and]; split <;> omega
theorem amin_ok (k : IntKind) (a b : Int) : amaxmin false [.im (.i k a), .im (.i k b)] = some (.im (.i k (min a b))) := by
  unfold amaxmin; simp only [if_true, Bool.false_eq_true, if_false, Option.some.injEq, AV.im.injEq, Imm.i.injEq, true_and]; split <;> omega
def ixS (P : Program) (u : Option TypeDesc) (x : AV) (i : Int) : Option AV :=
  match u, x with
  | some (.array len e), .im (.agg cs) => (szOf P e).bind fun z => if 0 ≤ i ∧ i.toNat < len then (isAg P e).bind fun a => if a then (sub cs (i.toNat * z) z).map (fun x => .im (.agg x)) else (cs[i.toNat * z]?).map .im else none
  | some .string, .im (.s s) => if 0 ≤ i then (s[i.toNat]?).map fun b => .im (.i .u8 b.toNat) else none
  | _, _ => none
theorem aindex_eq (P : Program) (t : TypeId) (x : AV) (k : IntKind) (i : Int) : aindex P t x (.im (.i k i)) = ixS P (P.underlying t) x i := by
  unfold aindex ixS
  simp only [aint, bind, Option.bind_some]
  cases P.underlying t with
  | none => rfl
  | some u =>
    cases u <;> try rfl
    all_goals (cases x <;> try rfl)
    all_goals (rename_i d; cases d <;> try rfl)
theorem ixS_s (P : Program) (s : ByteArray) (i : Int) : ixS P (some .string) (.im (.s s)) i = if 0 ≤ i then (s[i.toNat]?).map fun b => .im (.i .u8 b.toNat) else none := rfl
/-- A bound of all lists and strings of the data. -/
def lim : Nat := 1073741824
theorem wrap_pred {j n : Nat} (h : j < n) (hn : n ≤ lim) : IntKind.i64.wrap (((j + 1 : Nat) : Int) - 1) = ((j : Nat) : Int) := by
  have : lim = 1073741824 := rfl
  rw [wrap_id] <;> omega
end Go.Proofs.Ytnbbhbbhgcipjaa.Am

namespace Go.Proofs.Ytnbbhbbhgcipjaa.Am
def ung (o : Oper) : Oper := { o with guard := none }
/-- Behind an operation of a walk; b: may it panic? -/
def kdn (cx : Cx) (fn : FuncId) (l : List Oper) (rest : List Nat) (E : List (Nat × List Nat)) (Q : RQ) (b : Bool) : RQ := ⟨fun st => WD cx fn l.toArray rest E st Q, fun d st => b = true ∧ Q.p d st⟩
def isD (o : Oper) : Bool := isDfr o.op
def kdE (cx : Cx) (fn : FuncId) (l : List Oper) (i : Nat) (rest : List Nat) (E : List (Nat × List Nat)) (st : St) (Q : RQ) (o : Oper) (rd : List Nat) : Prop := WO cx fn l [ung o] st (kdn cx fn l rest ((i, rd) :: E) Q false)
def kbd (cx : Cx) (fn : FuncId) (l : List Oper) (i : Nat) (rest : List Nat) (E : List (Nat × List Nat)) (st : St) (Q : RQ) (o : Oper) (b : Bool) : Prop := if b then False else eb (rdA o st.fr st.H) (kdE cx fn l i rest E st Q o)
def kcr (cx : Cx) (fn : FuncId) (l : List Oper) (i : Nat) (rest : List Nat) (E : List (Nat × List Nat)) (st : St) (Q : RQ) (o : Oper) (b : Bool) : Prop := if b then sel (isD o) False (WO cx fn l [ung o] st (kdn cx fn l rest E Q (rest.isEmpty && lastOk l.toArray i o))) else False
def kdm (cx : Cx) (fn : FuncId) (l : List Oper) (i : Nat) (rest : List Nat) (E : List (Nat × List Nat)) (st : St) (Q : RQ) (o : Oper) (m : Bool) : Prop :=
  if m then kbd cx fn l i rest E st Q o (bad cx fn o st) else kcr cx fn l i rest E st Q o (clear cx fn l.toArray o st E)
def kdb (cx : Cx) (fn : FuncId) (l : List Oper) (i : Nat) (rest : List Nat) (E : List (Nat × List Nat)) (st : St) (Q : RQ) (o : Oper) (w : Bool) (y : Bool) : Prop :=
  if y = w then kdm cx fn l i rest E st Q o (mob cx fn o) else WD cx fn l.toArray rest E ⟨putT st.fr o.dst (.im .und), st.ds, st.H⟩ Q
def kdg (cx : Cx) (fn : FuncId) (l : List Oper) (i : Nat) (rest : List Nat) (E : List (Nat × List Nat)) (st : St) (Q : RQ) (o : Oper) (w : Bool) (y : Option Bool) : Prop :=
  match y with | some y => kdb cx fn l i rest E st Q o w y | none => WD cx fn l.toArray rest E ⟨putT st.fr o.dst (.im .und), st.ds, st.H⟩ Q
def kdo (cx : Cx) (fn : FuncId) (l : List Oper) (i : Nat) (rest : List Nat) (E : List (Nat × List Nat)) (st : St) (Q : RQ) (o : Oper) : Prop :=
  match o.guard with
  | none => kdm cx fn l i rest E st Q o (mob cx fn o)
  | some (j, w) => ob (yieldedA l st.fr j) (kdg cx fn l i rest E st Q o w)
section
variable {cx : Cx} {fn : FuncId} {l : List Oper} {i : Nat} {rest : List Nat} {E : List (Nat × List Nat)} {st : St} {Q : RQ}
theorem WD_nil : WD cx fn l.toArray [] E st Q = Q.n st := rfl
theorem WOp_ung (o : Oper) (K : RQ) (h : isD o = false) : WO cx fn l [ung o] st K = WOp cx fn o st K := by
  rw [WO]
  show W1 cx fn (ung o) st _ = _
  unfold W1
  rw [show isDfr (ung o).op = false from h]
  rfl
theorem mob_nd {o : Oper} (h : mob cx fn o = true) : isD o = false := by
  unfold mob at h
  rw [Bool.and_eq_true] at h
  have h := h.2
  unfold isD isDfr
  unfold mob0 at h
  split
  · rename_i c e; rw [e] at h; cases h
  · rfl
theorem WOp_dfr {o : Oper} {K : RQ} (h : isD o = true) : WOp cx fn o st K = False := by
  unfold WOp
  rcases isDfr_aop (cx := cx) (fn := fn) (fr := st.fr) (H := st.H) (o := o) h with e | ⟨g, as, e⟩
  · rw [e, ob_none]
  · rw [e, ob_some]
theorem kcr_eq (o : Oper) (b : Bool) : kcr cx fn l i rest E st Q o b = (b = true ∧ WOp cx fn o st (kdn cx fn l rest E Q (rest.isEmpty && lastOk l.toArray i o))) := by
  unfold kcr
  cases b with
  | false => simp
  | true =>
    simp only [if_true, true_and]
    cases hd : isD o with
    | true => rw [WOp_dfr hd]; rfl
    | false => rw [← WOp_ung (l := l) o _ hd]; rfl
theorem kE_eq {o : Oper} (hm : mob cx fn o = true) : kbd cx fn l i rest E st Q o (bad cx fn o st) = (bad cx fn o st = false ∧ WOp cx fn o st (kdn cx fn l rest ((i, rdA o st.fr st.H) :: E) Q false)) := by
  unfold kbd kdE eb
  dsimp only
  rw [WOp_ung o _ (mob_nd hm)]
  cases bad cx fn o st <;> simp
theorem kdm_eq (o : Oper) : kdm cx fn l i rest E st Q o (mob cx fn o) = sel (mob cx fn o) (bad cx fn o st = false ∧ WOp cx fn o st (kdn cx fn l rest ((i, rdA o st.fr st.H) :: E) Q false))
    (clear cx fn l.toArray o st E = true ∧ WOp cx fn o st (kdn cx fn l rest E Q (rest.isEmpty && lastOk l.toArray i o))) := by
  unfold kdm sel
  by_cases hm : mob cx fn o = true
  · rw [if_pos hm, if_pos hm, kE_eq hm]
  · rw [if_neg hm, if_neg hm, kcr_eq]
theorem WD_cons : WD cx fn l.toArray (i :: rest) E st Q = ob l[i]? (kdo cx fn l i rest E st Q) := by
  rw [WD]
  rw [show l.toArray[i]? = l[i]? by simp]
  congr 1
  funext o
  unfold kdo
  cases hg : o.guard with
  | none =>
    simp only [wantedA, hg, ob_some]
    rw [kdm_eq]
    rfl
  | some g =>
    obtain ⟨j, w⟩ := g
    simp only [wantedA, hg, ob_map]
    congr 1
    funext y
    unfold kdg
    have hu : unwanted o st = ⟨putT st.fr o.dst (.im .und), st.ds, st.H⟩ := rfl
    cases y with
    | none => simp only [hu]; rfl
    | some y =>
      dsimp only
      unfold kdb
      by_cases hy : y = w
      · subst hy
        rw [if_pos rfl, kdm_eq]
        rw [show (some y == some y) = true by simp]
        rfl
      · rw [if_neg hy]
        rw [show (some y == some w) = false by simpa using hy]
        rfl
variable {d : Option Nat} {op : Op} {ty : TypeId} {p : String} {af : Array Edge}
theorem kdo_none : kdo cx fn l i rest E st Q ⟨d, op, ty, p, af, none⟩ = kdm cx fn l i rest E st Q ⟨d, op, ty, p, af, none⟩ (mob cx fn ⟨d, op, ty, p, af, none⟩) := rfl
theorem kdo_some (j : Nat) (w : Bool) : kdo cx fn l i rest E st Q ⟨d, op, ty, p, af, some (j, w)⟩ = ob (yieldedA l st.fr j) (kdg cx fn l i rest E st Q ⟨d, op, ty, p, af, some (j, w)⟩ w) := rfl
theorem kdg_none (o : Oper) (w : Bool) : kdg cx fn l i rest E st Q o w none = WD cx fn l.toArray rest E ⟨putT st.fr o.dst (.im .und), st.ds, st.H⟩ Q := rfl
theorem kdg_some (o : Oper) (w y : Bool) : kdg cx fn l i rest E st Q o w (some y) = kdb cx fn l i rest E st Q o w y := rfl
theorem kdb_tt (o : Oper) : kdb cx fn l i rest E st Q o true true = kdm cx fn l i rest E st Q o (mob cx fn o) := rfl
theorem kdb_ff (o : Oper) : kdb cx fn l i rest E st Q o false false = kdm cx fn l i rest E st Q o (mob cx fn o) := rfl
theorem kdb_tf (o : Oper) : kdb cx fn l i rest E st Q o true false = WD cx fn l.toArray rest E ⟨putT st.fr o.dst (.im .und), st.ds, st.H⟩ Q := rfl
theorem kdb_ft (o : Oper) : kdb cx fn l i rest E st Q o false true = WD cx fn l.toArray rest E ⟨putT st.fr o.dst (.im .und), st.ds, st.H⟩ Q := rfl
theorem kdm_t (o : Oper) : kdm cx fn l i rest E st Q o true = kbd cx fn l i rest E st Q o (bad cx fn o st) := rfl
theorem kdm_f (o : Oper) : kdm cx fn l i rest E st Q o false = kcr cx fn l i rest E st Q o (clear cx fn l.toArray o st E) := rfl
theorem kbd_f (o : Oper) : kbd cx fn l i rest E st Q o false = eb (rdA o st.fr st.H) (kdE cx fn l i rest E st Q o) := rfl
theorem kcr_t (o : Oper) : kcr cx fn l i rest E st Q o true = sel (isD o) False (WO cx fn l [ung o] st (kdn cx fn l rest E Q (rest.isEmpty && lastOk l.toArray i o))) := rfl
theorem isD_store (t : TypeId) (x y : Operand) (g : Option (Nat × Bool)) : isD ⟨d, .store t x y, ty, p, af, g⟩ = false := rfl
theorem isD_mu (t : TypeId) (m k x : Operand) (g : Option (Nat × Bool)) : isD ⟨d, .mapUpdate t m k x, ty, p, af, g⟩ = false := rfl
theorem isD_call (c : Call) (g : Option (Nat × Bool)) : isD ⟨d, .call c, ty, p, af, g⟩ = false := rfl
theorem isD_box (t : TypeId) (x : Operand) (g : Option (Nat × Bool)) : isD ⟨d, .box t x, ty, p, af, g⟩ = false := rfl
theorem isD_alloc (t : TypeId) (g : Option (Nat × Bool)) : isD ⟨d, .alloc t, ty, p, af, g⟩ = false := rfl
theorem isD_asg (x : Operand) (g : Option (Nat × Bool)) : isD ⟨d, .assign x, ty, p, af, g⟩ = false := rfl
theorem isD_mm (t : TypeId) (x : Option Operand) (g : Option (Nat × Bool)) : isD ⟨d, .makeMap t x, ty, p, af, g⟩ = false := rfl
theorem isD_ms (t : TypeId) (x y : Operand) (g : Option (Nat × Bool)) : isD ⟨d, .makeSlice t x y, ty, p, af, g⟩ = false := rfl
theorem isD_bs (t : TypeId) (n : Nat) (x : Array (Nat × Operand)) (g : Option (Nat × Bool)) : isD ⟨d, .buildSlice t n x, ty, p, af, g⟩ = false := rfl
theorem isD_load (t : TypeId) (x : Operand) (g : Option (Nat × Bool)) : isD ⟨d, .load t x, ty, p, af, g⟩ = false := rfl
theorem kdE_eq (o : Oper) (rd : List Nat) : kdE cx fn l i rest E st Q o rd = WO cx fn l [ung o] st (kdn cx fn l rest ((i, rd) :: E) Q false) := rfl
theorem kdn_eq (b : Bool) : (kdn cx fn l rest E Q b).n st = WD cx fn l.toArray rest E st Q := rfl
theorem kdn_p (b : Bool) (d : Imm) : (kdn cx fn l rest E Q b).p d st = (b = true ∧ Q.p d st) := rfl
theorem ung_eq {g : Option (Nat × Bool)} : ung ⟨d, op, ty, p, af, g⟩ = ⟨d, op, ty, p, af, none⟩ := rfl
def memN (d : Nat) : List Nat → Bool
  | [] => false
  | x :: l => pik (d == x) true (memN d l)
theorem memN_nil (d : Nat) : memN d [] = false := rfl
theorem memN_cons (d x : Nat) (l : List Nat) : memN d (x :: l) = pik (d == x) true (memN d l) := rfl
theorem memN_eq (d : Nat) (l : List Nat) : l.contains d = memN d l := by
  induction l with
  | nil => rfl
  | cons x l ih => rw [List.contains_cons, memN_cons, ih]; unfold pik; cases d == x <;> rfl
theorem mob_some (d : Nat) {g : Option (Nat × Bool)} : mob cx fn ⟨some d, op, ty, p, af, g⟩ = pik (cx.late fn d) false (mob0 cx fn ⟨some d, op, ty, p, af, g⟩) := by
  unfold mob pik; cases h : cx.late fn d <;> simp [h]
theorem mob_none {g : Option (Nat × Bool)} : mob cx fn ⟨none, op, ty, p, af, g⟩ = mob0 cx fn ⟨none, op, ty, p, af, g⟩ := rfl
section
variable {g : Option (Nat × Bool)}
theorem m0_move (x : Operand) : mob0 cx fn ⟨d, .move x, ty, p, af, g⟩ = true := rfl
theorem m0_pick (x a b : Operand) : mob0 cx fn ⟨d, .pick x a b, ty, p, af, g⟩ = true := rfl
theorem m0_build (t : TypeId) (a : Array (Nat × Operand)) : mob0 cx fn ⟨d, .build t a, ty, p, af, g⟩ = true := rfl
theorem m0_load (t : TypeId) (x : Operand) : mob0 cx fn ⟨d, .load t x, ty, p, af, g⟩ = true := rfl
theorem m0_nil (x : Operand) : mob0 cx fn ⟨d, .nilCheck x, ty, p, af, g⟩ = true := rfl
theorem m0_bin (o : BinOp) (t u : TypeId) (x y : Operand) : mob0 cx fn ⟨d, .binOp o t x y u, ty, p, af, g⟩ = true := rfl
theorem m0_un (o : UnOp) (t : TypeId) (x : Operand) : mob0 cx fn ⟨d, .unOp o t x, ty, p, af, g⟩ = true := rfl
theorem m0_conv (s t : TypeId) (x : Operand) : mob0 cx fn ⟨d, .convert s t x, ty, p, af, g⟩ = true := rfl
theorem m0_slice (t : TypeId) (x : Operand) (a b c : Option Operand) : mob0 cx fn ⟨d, .slice t x a b c, ty, p, af, g⟩ = true := rfl
theorem m0_fa (t : TypeId) (x : Operand) (f : Nat) : mob0 cx fn ⟨d, .fieldAddr t x f, ty, p, af, g⟩ = true := rfl
theorem m0_f (t : TypeId) (x : Operand) (f : Nat) : mob0 cx fn ⟨d, .field t x f, ty, p, af, g⟩ = true := rfl
theorem m0_ia (t : TypeId) (x y : Operand) : mob0 cx fn ⟨d, .indexAddr t x y, ty, p, af, g⟩ = true := rfl
theorem m0_i (t : TypeId) (x y : Operand) : mob0 cx fn ⟨d, .index t x y, ty, p, af, g⟩ = true := rfl
theorem m0_lk (t : TypeId) (x y : Operand) (b : Bool) : mob0 cx fn ⟨d, .lookup t x y b, ty, p, af, g⟩ = true := rfl
theorem m0_ext (x : Operand) (n : Nat) : mob0 cx fn ⟨d, .extract x n, ty, p, af, g⟩ = true := rfl
theorem m0_bs (t : TypeId) (n : Nat) (a : Array (Nat × Operand)) : mob0 cx fn ⟨d, .buildSlice t n a, ty, p, af, g⟩ = cx.bs fn := rfl
theorem m0_asg (d : Nat) (x : Operand) : mob0 cx fn ⟨some d, .assign x, ty, p, af, g⟩ = !(cx.vrow fn d) := rfl
theorem m0_alloc (d : Nat) (t : TypeId) : mob0 cx fn ⟨some d, .alloc t, ty, p, af, g⟩ = !(cx.vrow fn d) := rfl
theorem m0_len (a : Array Operand) (t : Array TypeId) : mob0 cx fn ⟨d, .call ⟨.builtin .len, a, t⟩, ty, p, af, g⟩ = true := rfl
theorem m0_max (a : Array Operand) (t : Array TypeId) : mob0 cx fn ⟨d, .call ⟨.builtin .max, a, t⟩, ty, p, af, g⟩ = true := rfl
theorem m0_min (a : Array Operand) (t : Array TypeId) : mob0 cx fn ⟨d, .call ⟨.builtin .min, a, t⟩, ty, p, af, g⟩ = true := rfl
theorem m0_app (a : Array Operand) (t : Array TypeId) : mob0 cx fn ⟨d, .call ⟨.builtin .append, a, t⟩, ty, p, af, g⟩ = false := rfl
theorem m0_call (f : Operand) (a : Array Operand) (t : Array TypeId) : mob0 cx fn ⟨d, .call ⟨.value f, a, t⟩, ty, p, af, g⟩ = false := rfl
theorem m0_store (t : TypeId) (x y : Operand) : mob0 cx fn ⟨d, .store t x y, ty, p, af, g⟩ = false := rfl
theorem m0_mu (t : TypeId) (x y z : Operand) : mob0 cx fn ⟨d, .mapUpdate t x y z, ty, p, af, g⟩ = false := rfl
theorem m0_func (f : Fn) (a : Array FuncId) (c : Array Operand) : True := trivial
theorem m0_box (t : TypeId) (x : Operand) : mob0 cx fn ⟨d, .box t x, ty, p, af, g⟩ = false := rfl
def isBs : Op → Bool | .buildSlice .. => true | _ => false
theorem bad_of (h : isBs op = false) : bad cx fn ⟨d, op, ty, p, af, g⟩ st = false := by unfold bad; cases op <;> first | rfl | cases h
theorem isBs_move (x : Operand) : isBs (.move x) = false := rfl
theorem isBs_pick (x a b : Operand) : isBs (.pick x a b) = false := rfl
theorem isBs_build (t : TypeId) (a : Array (Nat × Operand)) : isBs (.build t a) = false := rfl
theorem isBs_load (t : TypeId) (x : Operand) : isBs (.load t x) = false := rfl
theorem isBs_nil (x : Operand) : isBs (.nilCheck x) = false := rfl
theorem isBs_bin (o : BinOp) (t u : TypeId) (x y : Operand) : isBs (.binOp o t x y u) = false := rfl
theorem isBs_un (o : UnOp) (t : TypeId) (x : Operand) : isBs (.unOp o t x) = false := rfl
theorem isBs_conv (s t : TypeId) (x : Operand) : isBs (.convert s t x) = false := rfl
theorem isBs_slice (t : TypeId) (x : Operand) (a b c : Option Operand) : isBs (.slice t x a b c) = false := rfl
theorem isBs_fa (t : TypeId) (x : Operand) (f : Nat) : isBs (.fieldAddr t x f) = false := rfl
theorem isBs_f (t : TypeId) (x : Operand) (f : Nat) : isBs (.field t x f) = false := rfl
theorem isBs_ia (t : TypeId) (x y : Operand) : isBs (.indexAddr t x y) = false := rfl
theorem isBs_i (t : TypeId) (x y : Operand) : isBs (.index t x y) = false := rfl
theorem isBs_lk (t : TypeId) (x y : Operand) (b : Bool) : isBs (.lookup t x y b) = false := rfl
theorem isBs_ext (x : Operand) (n : Nat) : isBs (.extract x n) = false := rfl
theorem isBs_asg (x : Operand) : isBs (.assign x) = false := rfl
theorem isBs_alloc (t : TypeId) : isBs (.alloc t) = false := rfl
theorem isBs_call (c : Call) : isBs (.call c) = false := rfl
variable {fr : Fr} {H : AHeap}
theorem rd_move (x : Operand) : rdA ⟨d, .move x, ty, p, af, g⟩ fr H = [] := rfl
theorem rd_asg (x : Operand) : rdA ⟨d, .assign x, ty, p, af, g⟩ fr H = [] := rfl
theorem rd_pick (x a b : Operand) : rdA ⟨d, .pick x a b, ty, p, af, g⟩ fr H = [] := rfl
theorem rd_build (t : TypeId) (a : Array (Nat × Operand)) : rdA ⟨d, .build t a, ty, p, af, g⟩ fr H = [] := rfl
theorem rd_bs (t : TypeId) (n : Nat) (a : Array (Nat × Operand)) : rdA ⟨d, .buildSlice t n a, ty, p, af, g⟩ fr H = [] := rfl
theorem rd_bin (o : BinOp) (t u : TypeId) (x y : Operand) : rdA ⟨d, .binOp o t x y u, ty, p, af, g⟩ fr H = [] := rfl
theorem rd_un (o : UnOp) (t : TypeId) (x : Operand) : rdA ⟨d, .unOp o t x, ty, p, af, g⟩ fr H = [] := rfl
theorem rd_conv (s t : TypeId) (x : Operand) : rdA ⟨d, .convert s t x, ty, p, af, g⟩ fr H = [] := rfl
theorem rd_f (t : TypeId) (x : Operand) (f : Nat) : rdA ⟨d, .field t x f, ty, p, af, g⟩ fr H = [] := rfl
theorem rd_i (t : TypeId) (x y : Operand) : rdA ⟨d, .index t x y, ty, p, af, g⟩ fr H = [] := rfl
theorem rd_ext (x : Operand) (n : Nat) : rdA ⟨d, .extract x n, ty, p, af, g⟩ fr H = [] := rfl
theorem rd_alloc (t : TypeId) : rdA ⟨d, .alloc t, ty, p, af, g⟩ fr H = [H.length] := rfl
theorem rd_load (t : TypeId) (x : Operand) : rdA ⟨d, .load t x, ty, p, af, g⟩ fr H = (ev fr x).loc := rfl
theorem rd_nil (x : Operand) : rdA ⟨d, .nilCheck x, ty, p, af, g⟩ fr H = (ev fr x).loc := rfl
theorem rd_fa (t : TypeId) (x : Operand) (f : Nat) : rdA ⟨d, .fieldAddr t x f, ty, p, af, g⟩ fr H = (ev fr x).loc := rfl
theorem rd_ia (t : TypeId) (x y : Operand) : rdA ⟨d, .indexAddr t x y, ty, p, af, g⟩ fr H = (ev fr x).loc := rfl
theorem rd_lk (t : TypeId) (x y : Operand) (b : Bool) : rdA ⟨d, .lookup t x y b, ty, p, af, g⟩ fr H = (ev fr x).loc := rfl
theorem rd_slice (t : TypeId) (x : Operand) (a b c : Option Operand) : rdA ⟨d, .slice t x a b c, ty, p, af, g⟩ fr H = (ev fr x).loc := rfl
theorem rd_len (x : Operand) (t : Array TypeId) : rdA ⟨d, .call ⟨.builtin .len, #[x], t⟩, ty, p, af, g⟩ fr H = (ev fr x).loc := by
  unfold rdA; simp
theorem rd_max (x y : Operand) (t : Array TypeId) : rdA ⟨d, .call ⟨.builtin .max, #[x, y], t⟩, ty, p, af, g⟩ fr H = (ev fr x).loc ++ (ev fr y).loc := by
  unfold rdA; simp
theorem lc_im (x : Imm) : (AV.im x).loc = [] := rfl
theorem lc_ptr (a b c e : Nat) : (AV.ptr a b c e).loc = [a] := rfl
theorem lc_sl (a b c e : Nat) : (AV.sl a b c e).loc = [a] := rfl
theorem lc_map (a : Nat) : (AV.map a).loc = [a] := rfl
end
def wro (o : Option (List Nat)) (rd : List Nat) : Bool := match o with | some wr => wr.all fun l => !rd.contains l | none => false
theorem clear_nil (l : Array Oper) (o : Oper) : clear cx fn l o st [] = true := rfl
def orb (a b : Bool) : Bool := a || b
theorem orb_t (b : Bool) : orb true b = true := rfl
theorem orb_f (b : Bool) : orb false b = b := rfl
theorem clear_cons (a : Array Oper) (o : Oper) (i : Nat) (rd : List Nat) : clear cx fn a o st ((i, rd) :: E) = pik (orb rd.isEmpty (orb (wro (wrA cx fn o st) rd) (reach a i a.size o))) (clear cx fn a o st E) false := by
  show ((rd.isEmpty || _ || reach a i a.size o) && clear cx fn a o st E) = _
  unfold pik orb wro
  rw [Bool.or_assoc]
  cases (rd.isEmpty || ((match wrA cx fn o st with | some wr => wr.all fun l => !rd.contains l | none => false) || reach a i a.size o)) <;> rfl
end
/-! Weakening -/
section
variable {cx : Cx} {fn : FuncId}
theorem WOp.mono {o : Oper} {st : St} {K L : RQ} (h : WOp cx fn o st K) (hn : ∀ s, K.n s → L.n s) (hp : ∀ d s, K.p d s → L.p d s) : WOp cx fn o st L := by
  obtain ⟨r, hr, h⟩ := h
  refine ⟨r, hr, ?_⟩
  cases r with
  | val v H => exact hn _ h
  | skip H => exact hn _ h
  | pan d => exact hp _ _ h
  | dfr g as => exact h
  | call r =>
    refine WC.mono h fun v H h => ?_
    unfold kcall at h ⊢
    split at h
    · exact hn _ h
    · exact hp _ _ h
theorem W1.mono {o : Oper} {st : St} {K L : RQ} (h : W1 cx fn o st K) (hn : ∀ s, K.n s → L.n s) (hp : ∀ d s, K.p d s → L.p d s) : W1 cx fn o st L := by
  unfold W1 at h ⊢
  split at h
  · rename_i hd
    rw [if_pos hd]
    obtain ⟨r, hr, h⟩ := h
    refine ⟨r, hr, ?_⟩
    cases r with
    | dfr g as => exact hn _ h
    | _ => exact h
  · rename_i hd
    rw [if_neg hd]
    exact WOp.mono h hn hp
theorem WO.mono {all : List Oper} : ∀ {rest : List Oper} {st : St} {K L : RQ}, WO cx fn all rest st K → (∀ s, K.n s → L.n s) → (∀ d s, K.p d s → L.p d s) → WO cx fn all rest st L
  | [], _, _, _, h, hK, _ => hK _ h
  | o :: rest, st, K, L, h, hK, hp => by
    rw [WO] at h ⊢
    cases hg : o.guard with
    | none => rw [hg] at h; exact W1.mono h (fun _ h => WO.mono h hK hp) hp
    | some g =>
      obtain ⟨j, w⟩ := g
      rw [hg] at h
      obtain ⟨y, hy, h⟩ := h
      refine ⟨y, hy, ?_⟩
      unfold selO at h ⊢
      cases y with
      | none => exact WO.mono h hK hp
      | some b =>
        dsimp only at h ⊢
        split at h
        · rename_i hb; rw [if_pos hb]; exact W1.mono h (fun _ h => WO.mono h hK hp) hp
        · rename_i hb; rw [if_neg hb]; exact WO.mono h hK hp
theorem WD.mono {ops : Array Oper} : ∀ {l : List Nat} {E : List (Nat × List Nat)} {st : St} {K L : RQ}, WD cx fn ops l E st K → (∀ s, K.n s → L.n s) → (∀ d s, K.p d s → L.p d s) → WD cx fn ops l E st L
  | [], _, _, _, _, h, hK, _ => hK _ h
  | i :: rest, E, st, K, L, h, hK, hp => by
    rw [WD] at h ⊢
    obtain ⟨o, ho, y, hy, h⟩ := h
    refine ⟨o, ho, y, hy, ?_⟩
    unfold sel at h ⊢
    cases y with
    | false => exact WD.mono h hK hp
    | true =>
      simp only [if_true] at h ⊢
      by_cases hm : mob cx fn o = true
      · rw [if_pos hm] at h ⊢; exact ⟨h.1, WOp.mono h.2 (fun _ h => WD.mono h hK hp) fun d s h => ⟨h.1, hp _ _ h.2⟩⟩
      · rw [if_neg hm] at h ⊢; exact ⟨h.1, WOp.mono h.2 (fun _ h => WD.mono h hK hp) fun d s h => ⟨h.1, hp _ _ h.2⟩⟩
theorem W.mono {rd : Option Nat} : ∀ {c : Code} {st : St} {K L : Ex → St → Prop}, W cx fn rd c st K → (∀ e s, K e s → L e s) → W cx fn rd c st L := by
  intro c
  induction c with
  | skip => intro st K L h hK; exact hK _ _ h
  | label _ => intro st K L h hK; exact hK _ _ h
  | region id ops draw =>
    intro st K L h hK
    cases draw with
    | false => exact WO.mono h (fun _ h => hK _ _ h) fun _ _ h => hK _ _ h
    | true => exact WD.mono h (fun _ h => hK _ _ h) fun _ _ h => hK _ _ h
  | seq a b iha ihb =>
    intro st K L h hK
    refine iha h fun e s h => ?_
    cases e with
    | nrm => exact ihb h hK
    | exit i => exact hK _ _ h
    | ret => exact hK _ _ h
    | pan d => exact hK _ _ h
  | cond c a b iha ihb =>
    intro st K L h hK
    obtain ⟨t, ht, h⟩ := h
    refine ⟨t, ht, ?_⟩
    cases t with
    | true => exact iha h hK
    | false => exact ihb h hK
  | block id a ih =>
    intro st K L h hK
    refine ih h fun e s h => ?_
    cases e with
    | nrm => exact hK _ _ h
    | exit i =>
      unfold kblock at h ⊢
      dsimp only at h ⊢
      split at h
      · rename_i hi; rw [if_pos hi]; exact hK _ _ h
      · rename_i hi; rw [if_neg hi]; exact hK _ _ h
    | ret => exact hK _ _ h
    | pan d => exact hK _ _ h
  | scope a ih => intro st K L h hK; exact ih h hK
  | loop a ih => intro st K L h hK; obtain ⟨e, s, h, k⟩ := h; exact ⟨e, s, h, hK _ _ k⟩
  | rangeFunc f ps a b => intro st K L h hK; obtain ⟨e, s, h, k⟩ := h; exact ⟨e, s, h, hK _ _ k⟩
  | exit id => intro st K L h hK; exact hK _ _ h
  | ret => intro st K L h hK; exact hK _ _ h
  | _ => intro st K L h hK; exact h.elim
/-- What a code leaves, said once for all its ways. -/
theorem W.cut {rd : Option Nat} {c : Code} {st : St} {K : Ex → St → Prop} (M : St → Prop) (h : W cx fn rd c st fun e s => match e with | .nrm => M s | e => K e s) (hM : ∀ s, M s → K .nrm s) : W cx fn rd c st K :=
  W.mono h fun e s h => by cases e <;> first | exact hM _ h | exact h
theorem WO.cut {all rest : List Oper} {st : St} {K : RQ} (M : St → Prop) (h : WO cx fn all rest st ⟨M, fun _ _ => False⟩) (hM : ∀ s, M s → K.n s) : WO cx fn all rest st K := WO.mono h hM fun _ _ h => h.elim
theorem WD.cut {ops : Array Oper} {l : List Nat} {E : List (Nat × List Nat)} {st : St} {K : RQ} (M : St → Prop) (h : WD cx fn ops l E st ⟨M, fun _ _ => False⟩) (hM : ∀ s, M s → K.n s) : WD cx fn ops l E st K := WD.mono h hM fun _ _ h => h.elim
end
/-- What one round of a loop leaves. -/
def klp (P : St → Prop) (Q : Ex → St → Prop) (e : Ex) (st : St) : Prop := match e with | .nrm => P st | e => Q e st
theorem klp_nrm (P : St → Prop) (Q : Ex → St → Prop) (st : St) : klp P Q .nrm st = P st := rfl
theorem klp_ret (P : St → Prop) (Q : Ex → St → Prop) (st : St) : klp P Q .ret st = Q .ret st := rfl
theorem klp_pan (P : St → Prop) (Q : Ex → St → Prop) (st : St) (d : Imm) : klp P Q (.pan d) st = Q (.pan d) st := rfl
theorem klp_exit (P : St → Prop) (Q : Ex → St → Prop) (st : St) (i : Nat) : klp P Q (.exit i) st = Q (.exit i) st := rfl
theorem WL.fall {cx : Cx} {fn : FuncId} {rd : Option Nat} {a : Code} {Q : Ex → St → Prop} (I : Nat → St → Prop)
    (h : ∀ n st, I n st → W cx fn rd a st (klp (fun st' => ∃ m, m < n ∧ I m st') Q)) {n : Nat} {st : St} (h0 : I n st) : WL cx fn rd a st Q := by
  refine WL.inv I (fun n st hi => ?_) n st h0
  refine W.mono (h n st hi) fun e s h => ?_
  cases e <;> exact h
/-- A loop that counts. -/
theorem WL.upto {cx : Cx} {fn : FuncId} {rd : Option Nat} {a : Code} {Q : Ex → St → Prop} (len : Nat) (I : Nat → St → Prop)
    (h : ∀ j st, j ≤ len → I j st → W cx fn rd a st (klp (fun st' => j < len ∧ I (j + 1) st') Q)) {st : St} (h0 : I 0 st) : WL cx fn rd a st Q := by
  refine WL.fall (fun n st => ∃ j, j ≤ len ∧ n = len - j ∧ I j st) ?_ (n := len) ⟨0, Nat.zero_le _, rfl, h0⟩
  rintro n st ⟨j, hj, rfl, hi⟩
  refine W.mono (h j st hj hi) fun e s h => ?_
  cases e with
  | nrm => obtain ⟨h1, h2⟩ := h; exact ⟨len - (j + 1), by omega, j + 1, by omega, rfl, h2⟩
  | exit i => exact h
  | ret => exact h
  | pan d => exact h
theorem W.cutseq {cx : Cx} {fn : FuncId} {rd : Option Nat} {a b : Code} {st : St} {Q : Ex → St → Prop} (M : St → Prop) (h : W cx fn rd a st (klp M Q)) (h' : ∀ s, M s → W cx fn rd b s Q) : W cx fn rd (.seq a b) st Q := by
  show W cx fn rd a st (kseq (fun st Q => W cx fn rd b st Q) Q)
  refine W.mono h fun e s h => ?_
  cases e with
  | nrm => exact h' s h
  | exit i => exact h
  | ret => exact h
  | pan d => exact h
end Go.Proofs.Ytnbbhbbhgcipjaa.Am

namespace Go.Proofs.Ytnbbhbbhgcipjaa.Am
def byOf (P : Program) (t : TypeId) : Option Nat := (P.info? t).map (·.bytes)
def fil (place : Nat → Option (Nat × Nat)) (cells : List AV) (v : AV) (rest : List (Nat × AV)) (p : Option (Nat × Nat)) : Option (List AV) :=
  match p with
  | none => none
  | some (off, size) => if v.cells.length ≠ size ∨ off + v.cells.length > cells.length ∨ !v.storable then none else fillA place (splice cells off v.cells) rest
theorem fillA_nil (place : Nat → Option (Nat × Nat)) (cells : List AV) : fillA place cells [] = some cells := rfl
theorem fillA_cons (place : Nat → Option (Nat × Nat)) (cells : List AV) (i : Nat) (v : AV) (rest : List (Nat × AV)) : fillA place cells ((i, v) :: rest) = fil place cells v rest (place i) := by
  unfold fil; rw [fillA]; rfl
theorem fil_some (place : Nat → Option (Nat × Nat)) (cells : List AV) (v : AV) (rest : List (Nat × AV)) (off size : Nat) : fil place cells v rest (some (off, size)) =
    if v.cells.length = size ∧ off + v.cells.length ≤ cells.length ∧ v.storable = true then fillA place (splice cells off v.cells) rest else none := by
  unfold fil
  dsimp only
  by_cases h : v.cells.length = size ∧ off + v.cells.length ≤ cells.length ∧ v.storable = true
  · rw [if_pos h, if_neg]
    obtain ⟨h1, h2, h3⟩ := h
    simp only [h3, Bool.not_true, Bool.false_eq_true, or_false, not_or, ne_eq, Decidable.not_not]
    exact ⟨h1, by omega⟩
  · rw [if_neg h, if_pos]
    by_cases h1 : v.cells.length = size
    · by_cases h2 : off + v.cells.length ≤ cells.length
      · refine .inr (.inr ?_)
        cases h3 : v.storable with
        | true => exact absurd ⟨h1, h2, h3⟩ h
        | false => rfl
      · exact .inr (.inl (by omega))
    · exact .inl h1
def allImL (es : List (List AV)) : Option (List (List Imm)) := es.mapM allIm
theorem allImL_nil : allImL [] = some [] := rfl
def consO {α : Type} (a : Option α) (l : Option (List α)) : Option (List α) := a.bind fun a => l.map (a :: ·)
theorem allImL_cons (e : List AV) (es : List (List AV)) : allImL (e :: es) = (allIm e).bind fun d => (allImL es).map (d :: ·) := by
  simp only [allImL, List.mapM_cons]; cases allIm e <;> cases List.mapM allIm es <;> rfl
def bsH (z : Nat) (e : TypeId) (len : Nat) (es : List (List AV)) (H : AHeap) (mt : Bool) (ds : Option (List (List Imm))) : Option (AV × AHeap) :=
  match mt, ds with
  | false, some ds => some (.im (.sl z false true ds), H)
  | _, _ => some (.sl H.length len 0 len, H ++ [.row es z e])
theorem bsH_f (z : Nat) (e : TypeId) (len : Nat) (es : List (List AV)) (H : AHeap) (ds : List (List Imm)) : bsH z e len es H false (some ds) = some (.im (.sl z false true ds), H) := rfl
theorem bsH_t (z : Nat) (e : TypeId) (len : Nat) (es : List (List AV)) (H : AHeap) (ds : Option (List (List Imm))) : bsH z e len es H true ds = some (.sl H.length len 0 len, H ++ [.row es z e]) := rfl
def bsG (z : Nat) (z0 : Option Imm) (e : TypeId) (len : Nat) (es : Option (List (List AV))) (H : AHeap) (mt : Bool) : Option (AV × AHeap) :=
  es.bind fun es => if es.length = len ∧ 0 < z ∧ len * z ≤ 16777216 ∧ (len = 0 ∨ z0.isSome) then bsH z e len es H mt (allImL es) else none
theorem bsG_some (z : Nat) (z0 : Option Imm) (e : TypeId) (len : Nat) (es : List (List AV)) (H : AHeap) (mt : Bool) : bsG z z0 e len (some es) H mt = if es.length = len ∧ 0 < z ∧ len * z ≤ 16777216 ∧ (len = 0 ∨ z0.isSome) then bsH z e len es H mt (allImL es) else none := rfl
def bsF (z : Option Nat) (z0 : Option Imm) (e : TypeId) (len : Nat) (parts : List (Nat × AV)) (H : AHeap) (mt : Bool) : Option (AV × AHeap) := z.bind fun z => bsG z z0 e len (elemsA z parts 0) H mt
theorem bsF_some (z : Nat) (z0 : Option Imm) (e : TypeId) (len : Nat) (parts : List (Nat × AV)) (H : AHeap) (mt : Bool) : bsF (some z) z0 e len parts H mt = bsG z z0 e len (elemsA z parts 0) H mt := rfl
def bsE (P : Program) (e : Option TypeId) (len : Nat) (parts : List (Nat × AV)) (H : AHeap) (mt : Bool) : Option (AV × AHeap) := e.bind fun e => bsF (szOf P e) (zeroImm P e) e len parts H mt
theorem bsE_some (P : Program) (e : TypeId) (len : Nat) (parts : List (Nat × AV)) (H : AHeap) (mt : Bool) : bsE P (some e) len parts H mt = bsF (szOf P e) (zeroImm P e) e len parts H mt := rfl
theorem bslice_eq (P : Program) (t : TypeId) (len : Nat) (parts : List (Nat × AV)) (H : AHeap) (mt : Bool) : abuildSlice P t len parts H mt = bsE P (elemOf P t) len parts H mt := by
  unfold abuildSlice bsE bsF bsG bsH allImL
  cases elemOf P t with
  | none => rfl
  | some e =>
    simp only [bind, Option.bind_some]
    cases szOf P e with
    | none => rfl
    | some z =>
      simp only [Option.bind_some]
      cases elemsA z parts 0 with
      | none => rfl
      | some es => rfl
theorem elemsA_nil (z k : Nat) : elemsA z [] k = some [] := rfl
theorem elemsA_cons (z i : Nat) (v : AV) (rest : List (Nat × AV)) (k : Nat) : elemsA z ((i, v) :: rest) k = if i = k ∧ v.cells.length = z ∧ v.storable = true then (elemsA z rest (k + 1)).map (v.cells :: ·) else none := rfl
def elR (r : Option (List (List AV) × Nat)) (j n : Nat) : Option (List (List AV) × Nat) := r.bind fun p => (sub p.1 j n).map fun es => (es, p.2)
theorem elR_some (es : List (List AV)) (z j n : Nat) : elR (some (es, z)) j n = (sub es j n).map fun es => (es, z) := rfl
theorem elemsOf_im (H : AHeap) (z : Nat) (q t : Bool) (es : List (List Imm)) : elemsOf H (.im (.sl z q t es)) = some (es.map (·.map .im), z) := rfl
theorem elemsOf_sl (H : AHeap) (l m j n : Nat) : elemsOf H (.sl l m j n) = elR (rdr H l m) j n := by
  unfold elemsOf elR
  dsimp only
  cases rdr H l m with
  | none => rfl
  | some p => obtain ⟨es, z⟩ := p; simp only [bind, Option.bind_some]; cases sub es j n <;> rfl
def apD (z : Nat) (e : TypeId) (l m j n : Nat) (xs : List (List AV)) (H : AHeap) (o : Option AObj) : Option (AV × AHeap) :=
  match o with
  | some (.row es z' e') => if es.length = m ∧ j = 0 ∧ n = es.length ∧ z' = z ∧ e' = e ∧ es.length + xs.length ≤ 4294967296 then
      some (.sl l (es.length + xs.length) j (n + xs.length), H.set l (.row (es ++ xs) z e)) else none
  | _ => none
theorem apD_row (z : Nat) (e : TypeId) (l m j n : Nat) (xs : List (List AV)) (H : AHeap) (es : List (List AV)) (z' : Nat) (e' : TypeId) : apD z e l m j n xs H (some (.row es z' e')) =
    if es.length = m ∧ j = 0 ∧ n = es.length ∧ z' = z ∧ e' = e ∧ es.length + xs.length ≤ 4294967296 then some (.sl l (es.length + xs.length) j (n + xs.length), H.set l (.row (es ++ xs) z e)) else none := rfl
def apC (z : Nat) (e : TypeId) (s : AV) (xs : List (List AV)) (H : AHeap) : Option (AV × AHeap) :=
  match s with
  | .im (.sl z0 _ tight es) =>
    if xs.isEmpty then some (s, H)
    else if tight ∧ (z0 = z ∨ es.isEmpty) ∧ es.length + xs.length ≤ 4294967296 then some (.sl H.length (es.length + xs.length) 0 (es.length + xs.length), H ++ [.row (es.map (·.map .im) ++ xs) z e])
    else none
  | .sl l m j n => apD z e l m j n xs H H[l]?
  | _ => none
theorem apC_sl (z : Nat) (e : TypeId) (l m j n : Nat) (xs : List (List AV)) (H : AHeap) : apC z e (.sl l m j n) xs H = apD z e l m j n xs H H[l]? := rfl
theorem apC_im (z : Nat) (e : TypeId) (z0 : Nat) (q t : Bool) (es : List (List Imm)) (xs : List (List AV)) (H : AHeap) : apC z e (.im (.sl z0 q t es)) xs H =
    if xs.isEmpty then some (.im (.sl z0 q t es), H)
    else if t ∧ (z0 = z ∨ es.isEmpty) ∧ es.length + xs.length ≤ 4294967296 then some (.sl H.length (es.length + xs.length) 0 (es.length + xs.length), H ++ [.row (es.map (·.map .im) ++ xs) z e]) else none := rfl
def apB (z by_ : Option Nat) (z0 : Option Imm) (e : TypeId) (s : AV) (x : Option (List (List AV) × Nat)) (H : AHeap) : Option (AV × AHeap) :=
  z.bind fun z => by_.bind fun b => x.bind fun p => if 0 < z ∧ (p.2 = z ∨ p.1.isEmpty = true) ∧ 0 < b ∧ b ≤ 4096 ∧ z0.map (·.cells.length) = some z then apC z e s p.1 H else none
theorem apB_some (z b : Nat) (z0 : Imm) (e : TypeId) (s : AV) (xs : List (List AV)) (zx : Nat) (H : AHeap) : apB (some z) (some b) (some z0) e s (some (xs, zx)) H =
    if 0 < z ∧ (zx = z ∨ xs.isEmpty = true) ∧ 0 < b ∧ b ≤ 4096 ∧ z0.cells.length = z then apC z e s xs H else none := by
  unfold apB; simp only [Option.bind_some, Option.map_some, Option.some.injEq]
def apA (P : Program) (e : Option TypeId) (s x : AV) (H : AHeap) : Option (AV × AHeap) := e.bind fun e => apB (szOf P e) (byOf P e) (zeroImm P e) e s (elemsOf H x) H
theorem apA_some (P : Program) (e : TypeId) (s x : AV) (H : AHeap) : apA P (some e) s x H = apB (szOf P e) (byOf P e) (zeroImm P e) e s (elemsOf H x) H := rfl
theorem append_eq (P : Program) (t : TypeId) (s x : AV) (H : AHeap) : aappend P t s x H = apA P (elemOf P t) s x H := by
  unfold aappend apA apB byOf
  cases elemOf P t with
  | none => rfl
  | some e =>
    simp only [bind, Option.bind_some]
    cases szOf P e with
    | none => rfl
    | some z =>
      simp only [Option.bind_some]
      cases (P.info? e).map (·.bytes) with
      | none => rfl
      | some b =>
        simp only [Option.bind_some]
        cases elemsOf H x with
        | none => rfl
        | some p =>
          obtain ⟨xs, zx⟩ := p
          simp only [Option.bind_some]
          split
          · unfold apC apD
            cases s with
            | im d => cases d <;> rfl
            | _ => rfl
          · rfl
theorem bnd_none (d : Nat) : bnd none d = some d := rfl
theorem bnd_int (k : IntKind) (i : Int) (d : Nat) : bnd (some (.im (.i k i))) d = if 0 ≤ i then some i.toNat else none := rfl
def slT (n : Option Nat) (h l : Option Nat) (f : Nat → Nat → Option AV) : Option AV := h.bind fun h => l.bind fun l => f l h
def slS (P : Program) (u : Option TypeDesc) (x : AV) (lo hi : Option AV) : Option AV :=
  match u, x with
  | some .string, .im (.s s) => (bnd hi s.size).bind fun h => (bnd lo 0).bind fun l => if h ≤ s.size ∧ l ≤ h then some (.im (.s (s.extract l h))) else none
  | some (.slice e), .im (.sl z q tight es) => (bnd hi es.length).bind fun h => (bnd lo 0).bind fun l => (szOf P e).bind fun z' =>
    if h ≤ es.length ∧ l ≤ h ∧ (z' = z ∨ es.isEmpty) then some (.im (.sl z' q (tight && h == es.length) ((es.drop l).take (h - l)))) else none
  | some (.array len e), .im (.ip _ q es j off) => (szOf P e).bind fun z => (es[j]?).bind fun cs => (sub cs off (len * z)).bind fun l => if lo.isNone ∧ hi.isNone then some (.im (.sl z q true (chunk z len l))) else none
  | _, _ => none
theorem slS_arr (P : Program) (len : Nat) (e : TypeId) (z : Nat) (q : Bool) (es : List (List Imm)) (j off : Nat) : slS P (some (.array len e)) (.im (.ip z q es j off)) none none = (szOf P e).bind fun z => (es[j]?).bind fun cs => (sub cs off (len * z)).bind fun l => some (.im (.sl z q true (chunk z len l))) := rfl
theorem chunk_0 {α : Type} (z : Nat) (l : List α) : chunk z 0 l = [] := rfl
theorem chunk_s {α : Type} (z n : Nat) (l : List α) : chunk z (n + 1) l = l.take z :: chunk z n (l.drop z) := rfl
theorem slS_str (P : Program) (s : ByteArray) (lo hi : Option AV) : slS P (some .string) (.im (.s s)) lo hi = (bnd hi s.size).bind fun h => (bnd lo 0).bind fun l => if h ≤ s.size ∧ l ≤ h then some (.im (.s (s.extract l h))) else none := rfl
theorem slS_im (P : Program) (e : TypeId) (z : Nat) (q t : Bool) (es : List (List Imm)) (lo hi : Option AV) : slS P (some (.slice e)) (.im (.sl z q t es)) lo hi = (bnd hi es.length).bind fun h => (bnd lo 0).bind fun l => (szOf P e).bind fun z' =>
    if h ≤ es.length ∧ l ≤ h ∧ (z' = z ∨ es.isEmpty) then some (.im (.sl z' q (t && h == es.length) ((es.drop l).take (h - l)))) else none := rfl
theorem aslice_eq (P : Program) (H : AHeap) (t : TypeId) (d : Imm) (lo hi : Option AV) : aslice P H t (.im d) lo hi none = slS P (P.underlying t) (.im d) lo hi := by
  unfold aslice slS
  cases P.underlying t with
  | none => rfl
  | some u =>
    cases u <;> try rfl
    · cases d <;> try rfl
      simp only [bind, Option.isNone_none, true_and]
    · cases d <;> try rfl
      rename_i e z q tight es
      dsimp only
      cases bnd hi es.length with
      | none => rfl
      | some h =>
        simp only [bind, Option.bind_some]
        cases bnd lo 0 with
        | none => rfl
        | some l =>
          simp only [Option.bind_some, bnd]
          cases szOf P e with
          | none => rfl
          | some z' => simp
    · cases d <;> try rfl
      rename_i len e z q es j off
      dsimp only
      cases szOf P e with
      | none => rfl
      | some z' =>
        simp only [bind, Option.bind_some]
        cases es[j]? with
        | none => rfl
        | some cs => simp only [Option.bind_some]; cases sub cs off (len * z') <;> simp
theorem bin_sadd {P : Program} {t : TypeId} {x y : Operand} {a b : ByteArray} (h : a.size + b.size ≤ 9223372036854775807) : bin2 P .add t x y (.im (.s a)) (.im (.s b)) = some (.im (.s (a ++ b))) := by
  refine bin_of (v := .string (a ++ b)) rfl rfl ?_ rfl
  have h2 : ¬ ((a.size + b.size : Nat) : Int) > IntKind.i64.max := by
    have : IntKind.i64.max = 9223372036854775807 := rfl
    omega
  simp only [eqGuard, Go.binOp, Op.stringOp, h2, if_false]
  rfl
/-! What is handed back by view. -/
/-- A function on immutable data whose result can be viewed. -/
def PV (cx : Cx) (f : FuncId) (ds : List Imm) (R : Imm → Prop) : Prop := FN cx f (ds.map .im) [] fun v G => ∃ d, view false viewDepth G v = some d ∧ R d
theorem PV.mono {cx : Cx} {f : FuncId} {ds : List Imm} {Q R : Imm → Prop} (h : PV cx f ds Q) (hR : ∀ d, Q d → R d) : PV cx f ds R := FN.mono h fun _ _ ⟨d, e, q⟩ => ⟨d, e, hR d q⟩
theorem PF.pv {cx : Cx} {f : FuncId} {ds : List Imm} {R : Imm → Prop} (h : PF cx f ds R) : PV cx f ds R := FN.mono h fun v G ⟨d, e, q⟩ => ⟨d, by subst e; simp [viewDepth, view], q⟩
theorem PV.intro {cx : Cx} {f : FuncId} {fn : Func} {c : Code} {ds : List Imm} {R : Imm → Prop} (hf : cx.P.funcs[f]? = some fn) (hfit : cx.fits f = true) (hb : fn.body = some c)
    (h : W cx f none c ⟨enterFr 0 (ds.map .im), [], []⟩ (kfin cx fn.results.toList fun v G => ∃ d, view false viewDepth G v = some d ∧ R d)) : PV cx f ds R := FN.intro hf hfit hb h
theorem views_im (H : AHeap) (ds : List Imm) : views H (ds.map .im) = some ds := by
  unfold views
  rw [List.mapM_map]
  have : (view true viewDepth H ∘ AV.im) = (fun d => some d) := by funext d; simp [viewDepth, view]
  rw [this]
  induction ds with
  | nil => rfl
  | cons d ds ih => simp [List.mapM_cons, ih]
theorem rowOf_f (v : AV) : rowOf false v = none := by unfold rowOf; split <;> simp
theorem WC.pv {cx : Cx} {f : FuncId} {ds : List Imm} {args : List AV} {H : AHeap} {R : Imm → Prop} {Q : AV → AHeap → Prop} (h : PV cx f ds R) (ha : args = ds.map .im) (hs : cx.shared f = false) (ho : cx.own f = false) (hR : ∀ d, R d → Q (.im d) H) : WC cx (.fn f args) H Q := by
  subst ha
  obtain ⟨v, G, ⟨k0, h0⟩, d, hv, hd⟩ := h
  refine ⟨.im d, H, ⟨k0, fun k hk => ?_⟩, hR d hd⟩
  have hall : (ds.map AV.im).all AV.isIm = true := by simp [List.all_eq_true, AV.isIm]
  refine acallX_of ?_
  unfold acall
  simp only [viaView, hs, Bool.false_eq_true, if_false, views_im]
  rw [h0 k hk]
  simp only [ho]
  unfold pack
  rw [rowOf_f]
  simp [hv, hall]
theorem mapM_im (k : Nat) (q : Bool) (H : AHeap) (ds : List Imm) : (ds.map AV.im).mapM (view q k H) = some ds := by
  rw [List.mapM_map]
  have : (view q k H ∘ AV.im) = (fun d => some d) := by funext d; cases k <;> simp [view]
  rw [this]
  induction ds with
  | nil => rfl
  | cons d ds ih => simp [List.mapM_cons, ih]
theorem mapM_rows (k : Nat) (q : Bool) (H : AHeap) (es : List (List Imm)) : ((es.map (·.map AV.im)).mapM fun c : List AV => c.mapM (view q k H)) = some es := by
  induction es with
  | nil => rfl
  | cons e es ih => simp only [List.map_cons, List.mapM_cons, mapM_im, ih]; rfl
theorem view_im (k : Nat) (q : Bool) (H : AHeap) (d : Imm) : view q k H (.im d) = some d := by cases k <;> simp [view]
theorem view_row {k : Nat} {q : Bool} {G : AHeap} {l m z : Nat} {es : List (List Imm)} {t : TypeId} (h : G[l]? = some (.row (es.map (·.map .im)) z t)) (hm : m = es.length) : view q (k + 1) G (.sl l m 0 m) = some (.sl z q false es) := by
  subst hm
  unfold view
  rw [rdr_eq, h]
  simp only [rdO_row, List.length_map, if_true, bind, Option.bind_some]
  rw [show sub (es.map (·.map AV.im)) 0 es.length = some (es.map (·.map AV.im)) from sub_all (by simp)]
  simp only [Option.bind_some, mapM_rows, Option.map_some]
theorem view_tup2 {k : Nat} {q : Bool} {G : AHeap} {a b : AV} {x y : Imm} (ha : view q k G a = some x) (hb : view q k G b = some y) : view q (k + 1) G (.tup [a, b]) = some (.tup [x, y]) := by
  unfold view
  simp only [List.mapM_cons, List.mapM_nil, ha, hb]
  rfl
theorem allIm_sl (a b c e : Nat) (vs : List AV) : allIm (.sl a b c e :: vs) = none := rfl
theorem allIm_ptr (a b c e : Nat) (vs : List AV) : allIm (.ptr a b c e :: vs) = none := rfl
theorem allIm_map' (a : Nat) (vs : List AV) : allIm (.map a :: vs) = none := rfl
theorem allIm_agg (a vs : List AV) : allIm (.agg a :: vs) = none := rfl
theorem allIm_fn (f : Fn) (a vs : List AV) : allIm (.fn f a :: vs) = none := rfl
theorem ifIm_none (f : List Imm → AV) (g : AV) : ifIm none f g = g := rfl
/-! What an operation that may not come early writes, and what it must come after. -/
section
variable {cx : Cx} {fn : FuncId} {ty : TypeId} {p : String} {af : Array Edge} {g : Option (Nat × Bool)} {d : Option Nat} {fr : Fr} {ds : List Dfr} {H : AHeap}
theorem wrA_store (t : TypeId) (a x : Operand) : wrA cx fn ⟨d, .store t a x, ty, p, af, g⟩ ⟨fr, ds, H⟩ = some (ev fr a).loc := rfl
theorem wrA_mapUpdate (t : TypeId) (m k x : Operand) : wrA cx fn ⟨d, .mapUpdate t m k x, ty, p, af, g⟩ ⟨fr, ds, H⟩ = some (ev fr m).loc := rfl
def locs : List AV → List Nat
  | [] => []
  | v :: vs => v.loc ++ locs vs
theorem locs_nil : locs [] = [] := rfl
theorem locs_cons (v : AV) (vs : List AV) : locs (v :: vs) = v.loc ++ locs vs := rfl
theorem wrA_bi (b : Builtin) (args : List Operand) (ts : Array TypeId) : wrA cx fn ⟨d, .call ⟨.builtin b, args.toArray, ts⟩, ty, p, af, g⟩ ⟨fr, ds, H⟩ = some (locs (args.map (ev fr))) := by
  show some (args.toArray.toList.flatMap fun x => (ev fr x).loc) = _
  congr 1
  simp only [List.toList_toArray]
  induction args with
  | nil => rfl
  | cons a l ih => simp only [List.flatMap_cons, List.map_cons, locs_cons, ih]
def vwO (H : AHeap) : List AV → Option (List Imm)
  | [] => some []
  | .im d :: vs => (vwO H vs).map (d :: ·)
  | v :: vs => (view true viewDepth H v).bind fun d => (vwO H vs).map (d :: ·)
theorem vwO_nil : vwO H [] = some [] := rfl
theorem vwO_im (x : Imm) (vs : List AV) : vwO H (.im x :: vs) = (vwO H vs).map (x :: ·) := rfl
theorem vwO_eq (vs : List AV) : views H vs = vwO H vs := by
  induction vs with
  | nil => rfl
  | cons v vs ih =>
    unfold views at ih ⊢
    rw [List.mapM_cons, ih]
    cases v <;> simp only [vwO] <;> try rfl
    all_goals (first | (rw [view_im]; cases vwO H vs <;> rfl) | (cases view true viewDepth H _ <;> cases vwO H vs <;> rfl))
def wrC (cx : Cx) (H : AHeap) (r : Option Req) : Option (List Nat) := match r with | some (.fn f as) => if (viaView cx (.fn f as) H).isSome then some [] else none | _ => none
theorem wrC_fn (f : FuncId) (as : List AV) : wrC cx H (some (.fn f as)) = pik (pik (cx.shared f) none (vwO H as)).isSome (some []) none := by
  unfold wrC viaView pik
  rw [← vwO_eq]
theorem wrA_call (f : Operand) (args : List Operand) (ts : Array TypeId) : wrA cx fn ⟨d, .call ⟨.value f, args.toArray, ts⟩, ty, p, af, g⟩ ⟨fr, ds, H⟩ = wrC cx H (callee (ev fr f) (args.map (ev fr))) := by
  show (match (callee (ev fr f) (args.toArray.toList.map (ev fr))).map AO.call with | some (.call (.fn f args)) => if (viaView cx (.fn f args) H).isSome then some [] else none | _ => none) = _
  unfold wrC
  simp only [List.toList_toArray]
  cases callee (ev fr f) (args.map (ev fr)) with
  | none => rfl
  | some r => cases r <;> rfl
theorem wro_nil (rd : List Nat) : wro (some []) rd = true := rfl
theorem wro_cons (l : Nat) (wr rd : List Nat) : wro (some (l :: wr)) rd = pik (memN l rd) false (wro (some wr) rd) := by
  unfold wro pik
  simp only [List.all_cons, memN_eq]
  cases memN l rd <;> rfl
theorem wro_none (rd : List Nat) : wro none rd = false := rfl
def rch1 (a : Array Oper) (i k : Nat) (e : Edge) : Bool := Region.binds .any e && (e.on == i || (i < e.on && match a[e.on]? with | some o => reach a i k o | none => false))
def rchL (a : Array Oper) (i k : Nat) : List Edge → Bool
  | [] => false
  | e :: l => orb (rch1 a i k e) (rchL a i k l)
theorem rchL_nil (a : Array Oper) (i k : Nat) : rchL a i k [] = false := rfl
theorem rchL_cons (a : Array Oper) (i k : Nat) (e : Edge) (l : List Edge) : rchL a i k (e :: l) = orb (rch1 a i k e) (rchL a i k l) := rfl
theorem reach_0 (a : Array Oper) (i : Nat) (o : Oper) : reach a i 0 o = false := rfl
theorem reach_s (a : Array Oper) (i k : Nat) (op : Op) (es : List Edge) : reach a i (k + 1) ⟨d, op, ty, p, es.toArray, g⟩ = rchL a i k es := by
  show es.toArray.any (fun e => rch1 a i k e) = _
  rw [List.any_toArray]
  induction es with
  | nil => rfl
  | cons e l ih => rw [List.any_cons, rchL_cons, ih]; rfl
def rchO (a : Array Oper) (i k : Nat) (o : Option Oper) : Bool := match o with | some o => reach a i k o | none => false
theorem rchO_some (a : Array Oper) (i k : Nat) (o : Oper) : rchO a i k (some o) = reach a i k o := rfl
theorem rch1_eq (l : List Oper) (i k on : Nat) (gr : Ground) : rch1 l.toArray i k ⟨on, gr⟩ = pik (Region.binds .any ⟨on, gr⟩) (pik (on == i) true (pik (i + 1 - on == 0) (rchO l.toArray i k l[on]?) false)) false := by
  unfold rch1 pik rchO
  rw [show l.toArray[on]? = l[on]? by simp]
  have : decide (i < on) = (i + 1 - on == 0) := by
    cases h : (i + 1 - on == 0) with
    | true => simp at h; exact decide_eq_true (by omega)
    | false => simp at h; exact decide_eq_false (by omega)
  rw [this]
  cases Region.binds .any ⟨on, gr⟩ <;> cases on == i <;> cases (i + 1 - on == 0) <;> rfl
theorem bd_phase (on : Nat) : Region.binds .any ⟨on, .phase⟩ = true := rfl
theorem bd_text (on : Nat) (r : Departure) : Region.binds .any ⟨on, .textOnly r⟩ = false := rfl
theorem bd_gc (on : Nat) (r : Departure) : Region.binds .any ⟨on, .gcOnly r⟩ = false := rfl
theorem bd_data (on : Nat) : Region.binds .any ⟨on, .data⟩ = true := rfl
theorem bd_chain (on : Nat) : Region.binds .any ⟨on, .chain⟩ = true := rfl
theorem bd_guard (on : Nat) : Region.binds .any ⟨on, .guard⟩ = true := rfl
theorem beq_s (n k : Nat) : (n == n + (k + 1)) = false := by simp
theorem beq_s' (n k : Nat) : (n + (k + 1) == n) = false := by simp
theorem beq_ss (n k l : Nat) : (n + k == n + l) = (k == l) := by
  cases h : k == l with
  | true => simp at h; subst h; simp
  | false => simp at h ⊢; exact h
end
end Go.Proofs.Ytnbbhbbhgcipjaa.Am

namespace Go.Proofs.Ytnbbhbbhgcipjaa.Am
theorem hp0 {α : Type} (H l : List α) : (H ++ l)[H.length]? = l[0]? := by rw [List.getElem?_append_right (Nat.le_refl _), Nat.sub_self]
theorem hpk {α : Type} (H l : List α) (k : Nat) : (H ++ l)[H.length + k]? = l[k]? := by rw [List.getElem?_append_right (by omega)]; congr 1; omega
theorem hs0 {α : Type} (H l : List α) (x : α) : (H ++ l).set H.length x = H ++ l.set 0 x := by rw [List.set_append_right _ _ (by omega), Nat.sub_self]
theorem hsk {α : Type} (H l : List α) (k : Nat) (x : α) : (H ++ l).set (H.length + k) x = H ++ l.set k x := by rw [List.set_append_right _ _ (by omega)]; congr 2; omega
theorem hpo {α : Type} {H : List α} {i : Nat} {o : α} (h : H[i]? = some o) (l : List α) : (H ++ l)[i]? = some o := by
  rw [List.getElem?_append_left (List.getElem?_eq_some_iff.1 h).1]; exact h
theorem nn0 (j : Nat) : (0 ≤ (j : Int)) = True := by simp
theorem wrap_succ {j n : Nat} (h : j < n) (hn : n ≤ lim) : IntKind.i64.wrap ((j : Int) + 1) = ((j + 1 : Nat) : Int) := by
  have : lim = 1073741824 := rfl
  rw [wrap_id] <;> omega
section
variable {cx : Cx} {fn : FuncId} {rd : Option Nat} {all rest : List Oper} {fr : Fr} {ds : List Dfr} {H : AHeap} {Q : RQ} {QQ : Ex → St → Prop} {x y : Code} {st : St} {a : Prop} [Decidable a] {b : Bool} {o : Option Nat} {op : Op} {ty : TypeId} {p : String} {af : Array Edge} {w : Bool} {l : List Oper} {i : Nat} {rs : List Nat} {E : List (Nat × List Nat)} {oo : Oper}
theorem kcd_dec (h : a → kcd cx fn rd x y st QQ true) (h' : ¬a → kcd cx fn rd x y st QQ false) : kcd cx fn rd x y st QQ (decide a) := bdec h h'
theorem kcd_not (h : b = true → kcd cx fn rd x y st QQ false) (h' : b = false → kcd cx fn rd x y st QQ true) : kcd cx fn rd x y st QQ (!b) := bnot h h'
theorem kcd_b (h : b = true → kcd cx fn rd x y st QQ true) (h' : b = false → kcd cx fn rd x y st QQ false) : kcd cx fn rd x y st QQ b := bcase h h'
theorem kgb_dec (h : a → kgb cx fn all rest o op ty p af w fr ds H Q true) (h' : ¬a → kgb cx fn all rest o op ty p af w fr ds H Q false) : kgb cx fn all rest o op ty p af w fr ds H Q (decide a) := bdec h h'
theorem kgb_not (h : b = true → kgb cx fn all rest o op ty p af w fr ds H Q false) (h' : b = false → kgb cx fn all rest o op ty p af w fr ds H Q true) : kgb cx fn all rest o op ty p af w fr ds H Q (!b) := bnot h h'
theorem kgb_b (h : b = true → kgb cx fn all rest o op ty p af w fr ds H Q true) (h' : b = false → kgb cx fn all rest o op ty p af w fr ds H Q false) : kgb cx fn all rest o op ty p af w fr ds H Q b := bcase h h'
theorem kdb_dec (h : a → kdb cx fn l i rs E st Q oo w true) (h' : ¬a → kdb cx fn l i rs E st Q oo w false) : kdb cx fn l i rs E st Q oo w (decide a) := bdec h h'
theorem kdb_not (h : b = true → kdb cx fn l i rs E st Q oo w false) (h' : b = false → kdb cx fn l i rs E st Q oo w true) : kdb cx fn l i rs E st Q oo w (!b) := bnot h h'
theorem kdb_b (h : b = true → kdb cx fn l i rs E st Q oo w true) (h' : b = false → kdb cx fn l i rs E st Q oo w false) : kdb cx fn l i rs E st Q oo w b := bcase h h'
end
def IsB (d : Imm) : Prop := ∃ b, d = .b b
def IsI (d : Imm) : Prop := ∃ n, d = .i .i64 n
attribute [go_sem ↓] klp_nrm klp_ret klp_exit WD_nil WD_cons kdo_none kdo_some kdg_none kdg_some kdb_tt kdb_ff kdb_tf kdb_ft kdm_t kdm_f kbd_f kcr_t kdE_eq kdn_eq kval_eq kvh_eq kH_eq kn0_eq kmp_eq kvc_im kvc_ptr kvc_sl kvc_map kvc_fn kvc_agg kvc_ifc kvc_tupi kvc_tupp kvc_tups kvc0_im kvc0_ptr kvc0_sl kvc0_map kvc0_fn kvc0_agg kvc0_ifc kvc0_tupi kvc0_tupp kvc0_tups kvc_pan kvc0_pan kreg_p kdn_p kpn_eq kdfr_fn kseq_pan kblock_pan klp_pan kfin_pan WO_defer WO_panic kca_eq kgd_none kgb_tt kgb_ff kgb_tf kgb_ft kcd_t kcd_f kcl_eq wseq_eq W_skip W_label W_region W_draw W_cond W_block W_scope W_loop W_rf W_exit W_ret kseq_nrm kseq_exit kseq_ret kblock_nrm kblock_ret kblock_exit kreg_eq kfin_ret kfin_nrm
  WO_nil WO_guard WO_move WO_assign WO_pick WO_alloc WO_box WO_build WO_bslice WO_load WO_store WO_nilCheck WO_nilCheck0 WO_bin WO_un WO_conv WO_func WO_makeMap WO_makeSlice WO_slice WO_slice3 WO_fieldAddr WO_field WO_indexAddr WO_index WO_lookup WO_mapUpdate WO_extract WO_len WO_max WO_min WO_append WO_call WO_call0
attribute [go_sem] allIm_sl allIm_ptr allIm_map' allIm_agg allIm_fn ifIm_none wrA_store wrA_mapUpdate locs_nil locs_cons wrA_bi vwO_nil vwO_im wrC_fn wrA_call wro_nil wro_cons wro_none rchL_nil rchL_cons reach_0 reach_s rchO_some rch1_eq bd_data bd_chain bd_guard bd_phase bd_text bd_gc List.size_toArray beq_s beq_s' beq_ss beq_self_eq_true Option.isSome_some Option.isSome_none fillA_nil fillA_cons fil_some bslice_eq bsE_some bsF_some bsG_some bsH_f bsH_t elemsA_nil elemsA_cons allImL_nil allImL_cons append_eq apA_some apB_some apC_sl apC_im apD_row elemsOf_im elemsOf_sl elR_some aslice_eq slS_str slS_im bnd_none bnd_int ung_eq memN_nil memN_cons mob_some mob_none m0_move m0_pick m0_build m0_load m0_nil m0_bin m0_un m0_conv m0_slice m0_fa m0_f m0_ia m0_i m0_lk m0_ext m0_bs m0_asg m0_alloc m0_len m0_max m0_min m0_app m0_call m0_store m0_mu m0_box
  bad_of isBs_move isBs_pick isBs_build isBs_load isBs_nil isBs_bin isBs_un isBs_conv isBs_slice isBs_fa isBs_f isBs_ia isBs_i isBs_lk isBs_ext isBs_asg isBs_alloc isBs_call
  rd_move rd_asg rd_pick rd_build rd_bs rd_bin rd_un rd_conv rd_f rd_i rd_ext rd_alloc rd_load rd_nil rd_fa rd_ia rd_lk rd_slice rd_len rd_max lc_im lc_ptr lc_sl lc_map clear_nil clear_cons orb_t orb_f List.isEmpty_nil List.isEmpty_cons ob_some eb_eq kpk_t kpk_f kpk_tf kpk_ft kgd_some kbl_t kbl_f kres_1 kres_2 kres_3 kres_4 kmt_im kmt_ptr kmt_sl kmt_map kmt_fn kmt_agg kmt_ifc kmt_tupi kmt_tupp kmt_tups pik_t pik_f lk_nil lk_cons gd_some pcons_some pcons_none pickF_nil pickF_cons cleanF_some cleanF_none
  lkK_nil lkK_cons ev_tmp ev_int ev_bool ev_str ev_nilp ev_nilm ev_nilf ev_nili ev_nils ev_func abool_b ares_nil ares_tmp allIm_nil allIm_cons ifIm_some mkTup_eq mkAgg_map mkAgg_eq yv_b yv_und yd_some yw_some yielded_eq
  putT_some putT_none asg_f asg_t asg_n pickA_t pickA_f pickA_tf alc_f bx_t bx_f extA_im extA_tup callee_im callee_fn callee_yield mkFn_nil mkFn_eq
  aload_im aldI_t aldI_f aload_p aldP_t aldP_f aldR_some aldC_some sub_eq rdr_eq rdO_row live_eq astore_ptr ast_row splice_eq
  cells_agg cells_b cells_i cells_s cells_sl cells_asl cells_aagg cells_ptr cells_map cells_nilm icells_agg icells_b icells_i icells_s icells_sl icells_fn
  sto_agg sto_aagg sto_b sto_i sto_s sto_sl sto_asl sto_fn sto_afn sto_map sto_nilm
  faE_some afieldAddr_eq faF_im faF_ptr fE_some afield_eq fF_imt fF_imf fF_t fF_f aindexAddr_eq iaS_im iaS_sl alen_eq lenS_s lenS_im lenS_sl
  bin_eql bin_neq bin_lss bin_leq bin_gtr bin_geq bin_add bin_sub bin_mul bin_seql bin_sneq aindex_eq ixS_s un_not amax_ok amin_ok
  Option.map_some Option.bind_some Option.isSome_some Option.map_none List.map_cons List.map_nil List.getElem?_cons_zero List.getElem?_cons_succ List.length_cons List.length_nil List.append_assoc List.cons_append List.nil_append List.length_append
  List.set_cons_zero List.set_cons_succ hp0 hpk hs0 hsk List.take_zero List.take_succ_cons List.drop_zero List.drop_succ_cons List.drop_nil List.append_nil List.length_map enterFr Nat.zero_add
  nn0 Int.toNat_natCast true_and and_true decide_true decide_false not_true not_false_eq_true Bool.not_true Bool.not_false eq_self
attribute [go_sem] sel_false isD_store isD_mu isD_call isD_box isD_alloc isD_asg isD_mm isD_ms isD_bs isD_load
attribute [go_sem] slS_arr chunk_0 chunk_s
attribute [go_sem] Nat.sub_zero Nat.zero_le false_or or_true true_or or_false Bool.false_eq_true if_false if_true
end Go.Proofs.Ytnbbhbbhgcipjaa.Am
