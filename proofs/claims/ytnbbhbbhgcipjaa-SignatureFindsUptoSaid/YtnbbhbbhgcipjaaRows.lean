/-
  NARROWER THAN 'FOR EVERY INPUT', by the rows' own cells (each row's printed sentence says how): CallgraphRelates: loops · CallgraphOrders: loops · CallgraphParts: loops · SignatureChecks: loops · SignatureFinds: loops · DependAffects: loops · DependNeeds: loops · DependGraphs: loops.
  DERIVED. THE GIVEN ROWS OF THIS SEAT. 8 by the template 'for every input the law returns true; each argument reads behind the call as it read before'; 0 by the template 'total and deterministic' (their statements: YtnbbhbbhgcipjaaTotals.lean).
  GIVEN WITH THE SEED: the statements are not yours to turn. If you find one false, say at which input.
  Laid BY PROGRAM, IN A SANDBOX (cutbox-rows.mjs): the forced cells as the released guide's own fill.sh prints them over the translation 5c6d382b3ec3c614… (all of the seat's roots in one cut). By AI agents, Wed Nov 11 2026. No macro, syntax, notation, axiom, sorry.
-/
import Derived.Test.YtnbbhbbhgcipjaaChecked
import GoSem.Claim
import GoSem.ClaimJoined
import GoSem.ClaimMapViews
import Derived.JoinedTies
import Derived.KernelRfl
namespace Go.Proofs.Ytnbbhbbhgcipjaa
/- THE CELL 'sum', in the pinned program and in every row, IS THE sha256 OF THE DUMP (.gsa) THAT YtnbbhbbhgcipjaaProg.lean LOADS. Nothing in Lean hashes anything: it is a label: what it is worth is what the hold of that sum in a sandbox is worth. -/
noncomputable def Try.pinned : Pinned := { name := "ytnbbhbbhgcipjaa", sum := "5c6d382b3ec3c614ff706e1c366f9a9e391beb789c16559bf44fe5b039810517", checked := Try.checked }
namespace Rows
def none {H : Type} : Left H := { results := [], args := [] }

/-- 'euclidlaw21.CallgraphRelates': WHATEVER THE INPUT: true; the input reads as it did. -/
def callgraphRelatesSpec : ChangeSpec := { name := "callgraphRelates", fn := fun _ => fun
  | [d1, d2, d3] => { results := [.lit (.bool true)], args := [d1, d2, d3] }
  | _ => none }
def callgraphRelatesRow : OpenClaim := { program := "ytnbbhbbhgcipjaa", sum := "5c6d382b3ec3c614ff706e1c366f9a9e391beb789c16559bf44fe5b039810517", func := "euclid/euclidlaw21.CallgraphRelates", spec := "callgraphRelates", unfollowed := true, recurses := true, loops := true, apart := false }
def CallgraphRelatesSaid : Prop := callgraphRelatesRow.holds Try.pinned (OpenSpec.ofChange callgraphRelatesSpec)

/-- ITS FALSE NEIGHBOUR: 'it returns false'. Refute it at one input. -/
def callgraphRelatesWrong : ChangeSpec := { name := "callgraphRelates", fn := fun _ => fun
  | [d1, d2, d3] => { results := [.lit (.bool false)], args := [d1, d2, d3] }
  | _ => none }
def CallgraphRelatesWrongFalsely : Prop := callgraphRelatesRow.holds Try.pinned (OpenSpec.ofChange callgraphRelatesWrong)

/-- 'euclidlaw21.CallgraphOrders': WHATEVER THE INPUT: true; the input reads as it did. -/
def callgraphOrdersSpec : ChangeSpec := { name := "callgraphOrders", fn := fun _ => fun
  | [d1, d2] => { results := [.lit (.bool true)], args := [d1, d2] }
  | _ => none }
def callgraphOrdersRow : OpenClaim := { program := "ytnbbhbbhgcipjaa", sum := "5c6d382b3ec3c614ff706e1c366f9a9e391beb789c16559bf44fe5b039810517", func := "euclid/euclidlaw21.CallgraphOrders", spec := "callgraphOrders", unfollowed := true, recurses := true, loops := true, apart := false }
def CallgraphOrdersSaid : Prop := callgraphOrdersRow.holds Try.pinned (OpenSpec.ofChange callgraphOrdersSpec)

/-- ITS FALSE NEIGHBOUR: 'it returns false'. Refute it at one input. -/
def callgraphOrdersWrong : ChangeSpec := { name := "callgraphOrders", fn := fun _ => fun
  | [d1, d2] => { results := [.lit (.bool false)], args := [d1, d2] }
  | _ => none }
def CallgraphOrdersWrongFalsely : Prop := callgraphOrdersRow.holds Try.pinned (OpenSpec.ofChange callgraphOrdersWrong)

/-- 'euclidlaw21.CallgraphParts': WHATEVER THE INPUT: true; the input reads as it did. -/
def callgraphPartsSpec : ChangeSpec := { name := "callgraphParts", fn := fun _ => fun
  | [d1, d2, d3] => { results := [.lit (.bool true)], args := [d1, d2, d3] }
  | _ => none }
def callgraphPartsRow : OpenClaim := { program := "ytnbbhbbhgcipjaa", sum := "5c6d382b3ec3c614ff706e1c366f9a9e391beb789c16559bf44fe5b039810517", func := "euclid/euclidlaw21.CallgraphParts", spec := "callgraphParts", unfollowed := true, recurses := true, loops := true, apart := false }
def CallgraphPartsSaid : Prop := callgraphPartsRow.holds Try.pinned (OpenSpec.ofChange callgraphPartsSpec)

/-- ITS FALSE NEIGHBOUR: 'it returns false'. Refute it at one input. -/
def callgraphPartsWrong : ChangeSpec := { name := "callgraphParts", fn := fun _ => fun
  | [d1, d2, d3] => { results := [.lit (.bool false)], args := [d1, d2, d3] }
  | _ => none }
def CallgraphPartsWrongFalsely : Prop := callgraphPartsRow.holds Try.pinned (OpenSpec.ofChange callgraphPartsWrong)

/-- 'euclidlaw07.SignatureChecks': WHATEVER THE INPUT: true; the input reads as it did. -/
def signatureChecksSpec : ChangeSpec := { name := "signatureChecks", fn := fun _ => fun
  | [d] => { results := [.lit (.bool true)], args := [d] }
  | _ => none }
def signatureChecksRow : OpenClaim := { program := "ytnbbhbbhgcipjaa", sum := "5c6d382b3ec3c614ff706e1c366f9a9e391beb789c16559bf44fe5b039810517", func := "euclid/euclidlaw07.SignatureChecks", spec := "signatureChecks", unfollowed := true, recurses := true, loops := true, apart := false }
def SignatureChecksSaid : Prop := signatureChecksRow.holds Try.pinned (OpenSpec.ofChange signatureChecksSpec)

/-- ITS FALSE NEIGHBOUR: 'it returns false'. Refute it at one input. -/
def signatureChecksWrong : ChangeSpec := { name := "signatureChecks", fn := fun _ => fun
  | [d] => { results := [.lit (.bool false)], args := [d] }
  | _ => none }
def SignatureChecksWrongFalsely : Prop := signatureChecksRow.holds Try.pinned (OpenSpec.ofChange signatureChecksWrong)

/-- 'euclidlaw07.SignatureFinds': WHATEVER THE INPUT: true; the input reads as it did. -/
def signatureFindsSpec : ChangeSpec := { name := "signatureFinds", fn := fun _ => fun
  | [d1, d2] => { results := [.lit (.bool true)], args := [d1, d2] }
  | _ => none }
def signatureFindsRow : OpenClaim := { program := "ytnbbhbbhgcipjaa", sum := "5c6d382b3ec3c614ff706e1c366f9a9e391beb789c16559bf44fe5b039810517", func := "euclid/euclidlaw07.SignatureFinds", spec := "signatureFinds", unfollowed := true, recurses := true, loops := true, apart := false }
def SignatureFindsSaid : Prop := signatureFindsRow.holds Try.pinned (OpenSpec.ofChange signatureFindsSpec)

/-- ITS FALSE NEIGHBOUR: 'it returns false'. Refute it at one input. -/
def signatureFindsWrong : ChangeSpec := { name := "signatureFinds", fn := fun _ => fun
  | [d1, d2] => { results := [.lit (.bool false)], args := [d1, d2] }
  | _ => none }
def SignatureFindsWrongFalsely : Prop := signatureFindsRow.holds Try.pinned (OpenSpec.ofChange signatureFindsWrong)

/-- 'euclidlaw46.DependAffects': WHATEVER THE INPUT: true; the input reads as it did. -/
def dependAffectsSpec : ChangeSpec := { name := "dependAffects", fn := fun _ => fun
  | [d1, d2] => { results := [.lit (.bool true)], args := [d1, d2] }
  | _ => none }
def dependAffectsRow : OpenClaim := { program := "ytnbbhbbhgcipjaa", sum := "5c6d382b3ec3c614ff706e1c366f9a9e391beb789c16559bf44fe5b039810517", func := "euclid/euclidlaw46.DependAffects", spec := "dependAffects", unfollowed := true, recurses := true, loops := true, apart := false }
def DependAffectsSaid : Prop := dependAffectsRow.holds Try.pinned (OpenSpec.ofChange dependAffectsSpec)

/-- ITS FALSE NEIGHBOUR: 'it returns false'. Refute it at one input. -/
def dependAffectsWrong : ChangeSpec := { name := "dependAffects", fn := fun _ => fun
  | [d1, d2] => { results := [.lit (.bool false)], args := [d1, d2] }
  | _ => none }
def DependAffectsWrongFalsely : Prop := dependAffectsRow.holds Try.pinned (OpenSpec.ofChange dependAffectsWrong)

/-- 'euclidlaw46.DependNeeds': WHATEVER THE INPUT: true; the input reads as it did. -/
def dependNeedsSpec : ChangeSpec := { name := "dependNeeds", fn := fun _ => fun
  | [d1, d2] => { results := [.lit (.bool true)], args := [d1, d2] }
  | _ => none }
def dependNeedsRow : OpenClaim := { program := "ytnbbhbbhgcipjaa", sum := "5c6d382b3ec3c614ff706e1c366f9a9e391beb789c16559bf44fe5b039810517", func := "euclid/euclidlaw46.DependNeeds", spec := "dependNeeds", unfollowed := true, recurses := true, loops := true, apart := false }
def DependNeedsSaid : Prop := dependNeedsRow.holds Try.pinned (OpenSpec.ofChange dependNeedsSpec)

/-- ITS FALSE NEIGHBOUR: 'it returns false'. Refute it at one input. -/
def dependNeedsWrong : ChangeSpec := { name := "dependNeeds", fn := fun _ => fun
  | [d1, d2] => { results := [.lit (.bool false)], args := [d1, d2] }
  | _ => none }
def DependNeedsWrongFalsely : Prop := dependNeedsRow.holds Try.pinned (OpenSpec.ofChange dependNeedsWrong)

/-- 'euclidlaw46.DependGraphs': WHATEVER THE INPUT: true; the input reads as it did. -/
def dependGraphsSpec : ChangeSpec := { name := "dependGraphs", fn := fun _ => fun
  | [d] => { results := [.lit (.bool true)], args := [d] }
  | _ => none }
def dependGraphsRow : OpenClaim := { program := "ytnbbhbbhgcipjaa", sum := "5c6d382b3ec3c614ff706e1c366f9a9e391beb789c16559bf44fe5b039810517", func := "euclid/euclidlaw46.DependGraphs", spec := "dependGraphs", unfollowed := true, recurses := true, loops := true, apart := false }
def DependGraphsSaid : Prop := dependGraphsRow.holds Try.pinned (OpenSpec.ofChange dependGraphsSpec)

/-- ITS FALSE NEIGHBOUR: 'it returns false'. Refute it at one input. -/
def dependGraphsWrong : ChangeSpec := { name := "dependGraphs", fn := fun _ => fun
  | [d] => { results := [.lit (.bool false)], args := [d] }
  | _ => none }
def DependGraphsWrongFalsely : Prop := dependGraphsRow.holds Try.pinned (OpenSpec.ofChange dependGraphsWrong)

/- THE SECOND FORM. 'bulk': how many values and letters a reading holds, each counted each time it is reached (what is shared counts as often as it is met; a slice's spare places count too). A statement '..UptoSaid' is the law's where the arguments, and the package variables that the reading takes, are together of bulk at most 1048576: NARROWER than '..Said'. Prove '..Said' where nothing that the law and all that it calls make is longer than what came in: it says more and counts as full. Else prove '..UptoSaid'. A law counts once. -/
mutual
def uptoBulk {H : Type} : DataW H → Nat
  | .lit (.string bytes) => bytes.length + 1
  | .lit _ => 1
  | .nil => 1
  | .ptr d => uptoBulk d + 1
  | .slice elems spare => uptoBulkAll elems + uptoBulkAll spare + 1
  | .agg parts => uptoBulkAll parts + 1
  | .iface _ d => uptoBulk d + 1
  | .map entries => uptoBulkEntries entries + 1
  | .held _ => 1
def uptoBulkAll {H : Type} : List (DataW H) → Nat
  | [] => 0
  | d :: r => uptoBulk d + uptoBulkAll r
def uptoBulkEntries {H : Type} : List (Lit × DataW H) → Nat
  | [] => 0
  | x :: r => uptoBulkEntry x + uptoBulkEntries r
def uptoBulkEntry {H : Type} : Lit × DataW H → Nat
  | (.string bytes, d) => bytes.length + uptoBulk d + 1
  | (_, d) => uptoBulk d + 1
 end
def uptoSmall : (H : Type) → List (DataW H) → Bool := fun _ ds => decide (uptoBulkAll ds ≤ 1048576)
def OpenSpec.upto (s : _root_.Go.ChangeSpec) : _root_.Go.OpenSpec := { _root_.Go.OpenSpec.ofChange s with cond := some uptoSmall }

/-- 'euclidlaw21.CallgraphRelates', WHERE WHAT IT READS IS OF BULK AT MOST 1048576: true; the input reads as it did. -/
def callgraphRelatesUptoRow : OpenClaim := { program := "ytnbbhbbhgcipjaa", sum := "5c6d382b3ec3c614ff706e1c366f9a9e391beb789c16559bf44fe5b039810517", func := "euclid/euclidlaw21.CallgraphRelates", spec := "callgraphRelates", unfollowed := true, recurses := true, loops := true, apart := false, narrowed := true }
def CallgraphRelatesUptoSaid : Prop := callgraphRelatesUptoRow.holds Try.pinned (OpenSpec.upto callgraphRelatesSpec)

/-- 'euclidlaw21.CallgraphOrders', WHERE WHAT IT READS IS OF BULK AT MOST 1048576: true; the input reads as it did. -/
def callgraphOrdersUptoRow : OpenClaim := { program := "ytnbbhbbhgcipjaa", sum := "5c6d382b3ec3c614ff706e1c366f9a9e391beb789c16559bf44fe5b039810517", func := "euclid/euclidlaw21.CallgraphOrders", spec := "callgraphOrders", unfollowed := true, recurses := true, loops := true, apart := false, narrowed := true }
def CallgraphOrdersUptoSaid : Prop := callgraphOrdersUptoRow.holds Try.pinned (OpenSpec.upto callgraphOrdersSpec)

/-- 'euclidlaw21.CallgraphParts', WHERE WHAT IT READS IS OF BULK AT MOST 1048576: true; the input reads as it did. -/
def callgraphPartsUptoRow : OpenClaim := { program := "ytnbbhbbhgcipjaa", sum := "5c6d382b3ec3c614ff706e1c366f9a9e391beb789c16559bf44fe5b039810517", func := "euclid/euclidlaw21.CallgraphParts", spec := "callgraphParts", unfollowed := true, recurses := true, loops := true, apart := false, narrowed := true }
def CallgraphPartsUptoSaid : Prop := callgraphPartsUptoRow.holds Try.pinned (OpenSpec.upto callgraphPartsSpec)

/-- 'euclidlaw07.SignatureChecks', WHERE WHAT IT READS IS OF BULK AT MOST 1048576: true; the input reads as it did. -/
def signatureChecksUptoRow : OpenClaim := { program := "ytnbbhbbhgcipjaa", sum := "5c6d382b3ec3c614ff706e1c366f9a9e391beb789c16559bf44fe5b039810517", func := "euclid/euclidlaw07.SignatureChecks", spec := "signatureChecks", unfollowed := true, recurses := true, loops := true, apart := false, narrowed := true }
def SignatureChecksUptoSaid : Prop := signatureChecksUptoRow.holds Try.pinned (OpenSpec.upto signatureChecksSpec)

/-- 'euclidlaw07.SignatureFinds', WHERE WHAT IT READS IS OF BULK AT MOST 1048576: true; the input reads as it did. -/
def signatureFindsUptoRow : OpenClaim := { program := "ytnbbhbbhgcipjaa", sum := "5c6d382b3ec3c614ff706e1c366f9a9e391beb789c16559bf44fe5b039810517", func := "euclid/euclidlaw07.SignatureFinds", spec := "signatureFinds", unfollowed := true, recurses := true, loops := true, apart := false, narrowed := true }
def SignatureFindsUptoSaid : Prop := signatureFindsUptoRow.holds Try.pinned (OpenSpec.upto signatureFindsSpec)

/-- 'euclidlaw46.DependAffects', WHERE WHAT IT READS IS OF BULK AT MOST 1048576: true; the input reads as it did. -/
def dependAffectsUptoRow : OpenClaim := { program := "ytnbbhbbhgcipjaa", sum := "5c6d382b3ec3c614ff706e1c366f9a9e391beb789c16559bf44fe5b039810517", func := "euclid/euclidlaw46.DependAffects", spec := "dependAffects", unfollowed := true, recurses := true, loops := true, apart := false, narrowed := true }
def DependAffectsUptoSaid : Prop := dependAffectsUptoRow.holds Try.pinned (OpenSpec.upto dependAffectsSpec)

/-- 'euclidlaw46.DependNeeds', WHERE WHAT IT READS IS OF BULK AT MOST 1048576: true; the input reads as it did. -/
def dependNeedsUptoRow : OpenClaim := { program := "ytnbbhbbhgcipjaa", sum := "5c6d382b3ec3c614ff706e1c366f9a9e391beb789c16559bf44fe5b039810517", func := "euclid/euclidlaw46.DependNeeds", spec := "dependNeeds", unfollowed := true, recurses := true, loops := true, apart := false, narrowed := true }
def DependNeedsUptoSaid : Prop := dependNeedsUptoRow.holds Try.pinned (OpenSpec.upto dependNeedsSpec)

/-- 'euclidlaw46.DependGraphs', WHERE WHAT IT READS IS OF BULK AT MOST 1048576: true; the input reads as it did. -/
def dependGraphsUptoRow : OpenClaim := { program := "ytnbbhbbhgcipjaa", sum := "5c6d382b3ec3c614ff706e1c366f9a9e391beb789c16559bf44fe5b039810517", func := "euclid/euclidlaw46.DependGraphs", spec := "dependGraphs", unfollowed := true, recurses := true, loops := true, apart := false, narrowed := true }
def DependGraphsUptoSaid : Prop := dependGraphsUptoRow.holds Try.pinned (OpenSpec.upto dependGraphsSpec)

end Rows
end Go.Proofs.Ytnbbhbbhgcipjaa
