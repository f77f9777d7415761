/-
  No cell of these rows narrows 'for every input' (looked for: loops, veiled, ifaces, maps, wideKeys, modest, calm, conditions, laid).
  DERIVED. THE GIVEN ROWS OF THIS SEAT. 8 by the template 'for every input the law returns true; each argument reads behind the call as it read before'; 0 by the template 'total and deterministic' (their statements: YtpcoflcelmfnbaaTotals.lean).
  GIVEN WITH THE SEED: the statements are not yours to turn. If you find one false, say at which input.
  Laid BY PROGRAM, IN A SANDBOX (cutbox-rows.mjs): the forced cells as the released guide's own fill.sh prints them over the translation 701f267ec365d3a1… (all of the seat's roots in one cut). By AI agents, Wed Nov 11 2026. No macro, syntax, notation, axiom, sorry.
-/
import Derived.Test.YtpcoflcelmfnbaaChecked
import GoSem.Claim
import GoSem.ClaimJoined
import GoSem.ClaimMapViews
import Derived.JoinedTies
import Derived.KernelRfl
namespace Go.Proofs.Ytpcoflcelmfnbaa
/- THE CELL 'sum', in the pinned program and in every row, IS THE sha256 OF THE DUMP (.gsa) THAT YtpcoflcelmfnbaaProg.lean LOADS. Nothing in Lean hashes anything: it is a label: what it is worth is what the hold of that sum in a sandbox is worth. -/
noncomputable def Try.pinned : Pinned := { name := "ytpcoflcelmfnbaa", sum := "701f267ec365d3a1e27e276a621c3e663d246381609dd600b09a7c6a8b74fe2c", checked := Try.checked }
namespace Rows
def none {H : Type} : Left H := { results := [], args := [] }

/-- 'bodegalaw1.WordHeaders': WHATEVER THE INPUT: true; the input reads as it did. -/
def wordHeadersSpec : ChangeSpec := { name := "wordHeaders", fn := fun _ => fun
  | [d1, d2, d3, d4] => { results := [.lit (.bool true)], args := [d1, d2, d3, d4] }
  | _ => none }
def wordHeadersRow : OpenClaim := { program := "ytpcoflcelmfnbaa", sum := "701f267ec365d3a1e27e276a621c3e663d246381609dd600b09a7c6a8b74fe2c", func := "bodega/bodegalaw1.WordHeaders", spec := "wordHeaders", apart := false }
def WordHeadersSaid : Prop := wordHeadersRow.holds Try.pinned (OpenSpec.ofChange wordHeadersSpec)

/-- ITS FALSE NEIGHBOUR: 'it returns false'. Refute it at one input. -/
def wordHeadersWrong : ChangeSpec := { name := "wordHeaders", fn := fun _ => fun
  | [d1, d2, d3, d4] => { results := [.lit (.bool false)], args := [d1, d2, d3, d4] }
  | _ => none }
def WordHeadersWrongFalsely : Prop := wordHeadersRow.holds Try.pinned (OpenSpec.ofChange wordHeadersWrong)

/-- 'bodegalaw1.WordHeaderLife': WHATEVER THE INPUT: true; the input reads as it did. -/
def wordHeaderLifeSpec : ChangeSpec := { name := "wordHeaderLife", fn := fun _ => fun
  | [d1, d2, d3, d4] => { results := [.lit (.bool true)], args := [d1, d2, d3, d4] }
  | _ => none }
def wordHeaderLifeRow : OpenClaim := { program := "ytpcoflcelmfnbaa", sum := "701f267ec365d3a1e27e276a621c3e663d246381609dd600b09a7c6a8b74fe2c", func := "bodega/bodegalaw1.WordHeaderLife", spec := "wordHeaderLife", apart := false }
def WordHeaderLifeSaid : Prop := wordHeaderLifeRow.holds Try.pinned (OpenSpec.ofChange wordHeaderLifeSpec)

/-- ITS FALSE NEIGHBOUR: 'it returns false'. Refute it at one input. -/
def wordHeaderLifeWrong : ChangeSpec := { name := "wordHeaderLife", fn := fun _ => fun
  | [d1, d2, d3, d4] => { results := [.lit (.bool false)], args := [d1, d2, d3, d4] }
  | _ => none }
def WordHeaderLifeWrongFalsely : Prop := wordHeaderLifeRow.holds Try.pinned (OpenSpec.ofChange wordHeaderLifeWrong)

/-- 'bodegalaw1.WordBallots': WHATEVER THE INPUT: true; the input reads as it did. -/
def wordBallotsSpec : ChangeSpec := { name := "wordBallots", fn := fun _ => fun
  | [d1, d2, d3, d4] => { results := [.lit (.bool true)], args := [d1, d2, d3, d4] }
  | _ => none }
def wordBallotsRow : OpenClaim := { program := "ytpcoflcelmfnbaa", sum := "701f267ec365d3a1e27e276a621c3e663d246381609dd600b09a7c6a8b74fe2c", func := "bodega/bodegalaw1.WordBallots", spec := "wordBallots", apart := false }
def WordBallotsSaid : Prop := wordBallotsRow.holds Try.pinned (OpenSpec.ofChange wordBallotsSpec)

/-- ITS FALSE NEIGHBOUR: 'it returns false'. Refute it at one input. -/
def wordBallotsWrong : ChangeSpec := { name := "wordBallots", fn := fun _ => fun
  | [d1, d2, d3, d4] => { results := [.lit (.bool false)], args := [d1, d2, d3, d4] }
  | _ => none }
def WordBallotsWrongFalsely : Prop := wordBallotsRow.holds Try.pinned (OpenSpec.ofChange wordBallotsWrong)

/-- 'bodegalaw1.WordPacks': WHATEVER THE INPUT: true; the input reads as it did. -/
def wordPacksSpec : ChangeSpec := { name := "wordPacks", fn := fun _ => fun
  | [d1, d2, d3, d4, d5, d6, d7, d8, d9, d10] => { results := [.lit (.bool true)], args := [d1, d2, d3, d4, d5, d6, d7, d8, d9, d10] }
  | _ => none }
def wordPacksRow : OpenClaim := { program := "ytpcoflcelmfnbaa", sum := "701f267ec365d3a1e27e276a621c3e663d246381609dd600b09a7c6a8b74fe2c", func := "bodega/bodegalaw1.WordPacks", spec := "wordPacks", apart := false }
def WordPacksSaid : Prop := wordPacksRow.holds Try.pinned (OpenSpec.ofChange wordPacksSpec)

/-- ITS FALSE NEIGHBOUR: 'it returns false'. Refute it at one input. -/
def wordPacksWrong : ChangeSpec := { name := "wordPacks", fn := fun _ => fun
  | [d1, d2, d3, d4, d5, d6, d7, d8, d9, d10] => { results := [.lit (.bool false)], args := [d1, d2, d3, d4, d5, d6, d7, d8, d9, d10] }
  | _ => none }
def WordPacksWrongFalsely : Prop := wordPacksRow.holds Try.pinned (OpenSpec.ofChange wordPacksWrong)

/-- 'bodegalaw1.WordFields': WHATEVER THE INPUT: true; the input reads as it did. -/
def wordFieldsSpec : ChangeSpec := { name := "wordFields", fn := fun _ => fun
  | [d1, d2, d3, d4] => { results := [.lit (.bool true)], args := [d1, d2, d3, d4] }
  | _ => none }
def wordFieldsRow : OpenClaim := { program := "ytpcoflcelmfnbaa", sum := "701f267ec365d3a1e27e276a621c3e663d246381609dd600b09a7c6a8b74fe2c", func := "bodega/bodegalaw1.WordFields", spec := "wordFields", apart := false }
def WordFieldsSaid : Prop := wordFieldsRow.holds Try.pinned (OpenSpec.ofChange wordFieldsSpec)

/-- ITS FALSE NEIGHBOUR: 'it returns false'. Refute it at one input. -/
def wordFieldsWrong : ChangeSpec := { name := "wordFields", fn := fun _ => fun
  | [d1, d2, d3, d4] => { results := [.lit (.bool false)], args := [d1, d2, d3, d4] }
  | _ => none }
def WordFieldsWrongFalsely : Prop := wordFieldsRow.holds Try.pinned (OpenSpec.ofChange wordFieldsWrong)

/-- 'bodegalaw1.WordFieldsBack': WHATEVER THE INPUT: true; the input reads as it did. -/
def wordFieldsBackSpec : ChangeSpec := { name := "wordFieldsBack", fn := fun _ => fun
  | [d1, d2, d3, d4, d5, d6] => { results := [.lit (.bool true)], args := [d1, d2, d3, d4, d5, d6] }
  | _ => none }
def wordFieldsBackRow : OpenClaim := { program := "ytpcoflcelmfnbaa", sum := "701f267ec365d3a1e27e276a621c3e663d246381609dd600b09a7c6a8b74fe2c", func := "bodega/bodegalaw1.WordFieldsBack", spec := "wordFieldsBack", apart := false }
def WordFieldsBackSaid : Prop := wordFieldsBackRow.holds Try.pinned (OpenSpec.ofChange wordFieldsBackSpec)

/-- ITS FALSE NEIGHBOUR: 'it returns false'. Refute it at one input. -/
def wordFieldsBackWrong : ChangeSpec := { name := "wordFieldsBack", fn := fun _ => fun
  | [d1, d2, d3, d4, d5, d6] => { results := [.lit (.bool false)], args := [d1, d2, d3, d4, d5, d6] }
  | _ => none }
def WordFieldsBackWrongFalsely : Prop := wordFieldsBackRow.holds Try.pinned (OpenSpec.ofChange wordFieldsBackWrong)

/-- 'bodegalaw1.WordBack': WHATEVER THE INPUT: true; the input reads as it did. -/
def wordBackSpec : ChangeSpec := { name := "wordBack", fn := fun _ => fun
  | [d1, d2, d3, d4, d5, d6, d7, d8] => { results := [.lit (.bool true)], args := [d1, d2, d3, d4, d5, d6, d7, d8] }
  | _ => none }
def wordBackRow : OpenClaim := { program := "ytpcoflcelmfnbaa", sum := "701f267ec365d3a1e27e276a621c3e663d246381609dd600b09a7c6a8b74fe2c", func := "bodega/bodegalaw1.WordBack", spec := "wordBack", apart := false }
def WordBackSaid : Prop := wordBackRow.holds Try.pinned (OpenSpec.ofChange wordBackSpec)

/-- ITS FALSE NEIGHBOUR: 'it returns false'. Refute it at one input. -/
def wordBackWrong : ChangeSpec := { name := "wordBack", fn := fun _ => fun
  | [d1, d2, d3, d4, d5, d6, d7, d8] => { results := [.lit (.bool false)], args := [d1, d2, d3, d4, d5, d6, d7, d8] }
  | _ => none }
def WordBackWrongFalsely : Prop := wordBackRow.holds Try.pinned (OpenSpec.ofChange wordBackWrong)

/-- 'bodegalaw1.WordSplits': WHATEVER THE INPUT: true; the input reads as it did. -/
def wordSplitsSpec : ChangeSpec := { name := "wordSplits", fn := fun _ => fun
  | [d] => { results := [.lit (.bool true)], args := [d] }
  | _ => none }
def wordSplitsRow : OpenClaim := { program := "ytpcoflcelmfnbaa", sum := "701f267ec365d3a1e27e276a621c3e663d246381609dd600b09a7c6a8b74fe2c", func := "bodega/bodegalaw1.WordSplits", spec := "wordSplits", apart := false }
def WordSplitsSaid : Prop := wordSplitsRow.holds Try.pinned (OpenSpec.ofChange wordSplitsSpec)

/-- ITS FALSE NEIGHBOUR: 'it returns false'. Refute it at one input. -/
def wordSplitsWrong : ChangeSpec := { name := "wordSplits", fn := fun _ => fun
  | [d] => { results := [.lit (.bool false)], args := [d] }
  | _ => none }
def WordSplitsWrongFalsely : Prop := wordSplitsRow.holds Try.pinned (OpenSpec.ofChange wordSplitsWrong)

/- THE SECOND FORM. 'bulk': how many values and letters a reading holds, each counted each time it is reached (what is shared counts as often as it is met; a slice's spare places count too). A statement '..UptoSaid' is the law's where the arguments, and the package variables that the reading takes, are together of bulk at most 1048576: NARROWER than '..Said'. Prove '..Said' where nothing that the law and all that it calls make is longer than what came in: it says more and counts as full. Else prove '..UptoSaid'. A law counts once. -/
mutual
def uptoBulk {H : Type} : DataW H → Nat
  | .lit (.string bytes) => bytes.length + 1
  | .lit _ => 1
  | .nil => 1
  | .ptr d => uptoBulk d + 1
  | .slice elems spare => uptoBulkAll elems + uptoBulkAll spare + 1
  | .agg parts => uptoBulkAll parts + 1
  | .iface _ d => uptoBulk d + 1
  | .map entries => uptoBulkEntries entries + 1
  | .held _ => 1
def uptoBulkAll {H : Type} : List (DataW H) → Nat
  | [] => 0
  | d :: r => uptoBulk d + uptoBulkAll r
def uptoBulkEntries {H : Type} : List (Lit × DataW H) → Nat
  | [] => 0
  | x :: r => uptoBulkEntry x + uptoBulkEntries r
def uptoBulkEntry {H : Type} : Lit × DataW H → Nat
  | (.string bytes, d) => bytes.length + uptoBulk d + 1
  | (_, d) => uptoBulk d + 1
 end
def uptoSmall : (H : Type) → List (DataW H) → Bool := fun _ ds => decide (uptoBulkAll ds ≤ 1048576)
def OpenSpec.upto (s : _root_.Go.ChangeSpec) : _root_.Go.OpenSpec := { _root_.Go.OpenSpec.ofChange s with cond := some uptoSmall }

/-- 'bodegalaw1.WordHeaders', WHERE WHAT IT READS IS OF BULK AT MOST 1048576: true; the input reads as it did. -/
def wordHeadersUptoRow : OpenClaim := { program := "ytpcoflcelmfnbaa", sum := "701f267ec365d3a1e27e276a621c3e663d246381609dd600b09a7c6a8b74fe2c", func := "bodega/bodegalaw1.WordHeaders", spec := "wordHeaders", apart := false, narrowed := true }
def WordHeadersUptoSaid : Prop := wordHeadersUptoRow.holds Try.pinned (OpenSpec.upto wordHeadersSpec)

/-- 'bodegalaw1.WordHeaderLife', WHERE WHAT IT READS IS OF BULK AT MOST 1048576: true; the input reads as it did. -/
def wordHeaderLifeUptoRow : OpenClaim := { program := "ytpcoflcelmfnbaa", sum := "701f267ec365d3a1e27e276a621c3e663d246381609dd600b09a7c6a8b74fe2c", func := "bodega/bodegalaw1.WordHeaderLife", spec := "wordHeaderLife", apart := false, narrowed := true }
def WordHeaderLifeUptoSaid : Prop := wordHeaderLifeUptoRow.holds Try.pinned (OpenSpec.upto wordHeaderLifeSpec)

/-- 'bodegalaw1.WordBallots', WHERE WHAT IT READS IS OF BULK AT MOST 1048576: true; the input reads as it did. -/
def wordBallotsUptoRow : OpenClaim := { program := "ytpcoflcelmfnbaa", sum := "701f267ec365d3a1e27e276a621c3e663d246381609dd600b09a7c6a8b74fe2c", func := "bodega/bodegalaw1.WordBallots", spec := "wordBallots", apart := false, narrowed := true }
def WordBallotsUptoSaid : Prop := wordBallotsUptoRow.holds Try.pinned (OpenSpec.upto wordBallotsSpec)

/-- 'bodegalaw1.WordPacks', WHERE WHAT IT READS IS OF BULK AT MOST 1048576: true; the input reads as it did. -/
def wordPacksUptoRow : OpenClaim := { program := "ytpcoflcelmfnbaa", sum := "701f267ec365d3a1e27e276a621c3e663d246381609dd600b09a7c6a8b74fe2c", func := "bodega/bodegalaw1.WordPacks", spec := "wordPacks", apart := false, narrowed := true }
def WordPacksUptoSaid : Prop := wordPacksUptoRow.holds Try.pinned (OpenSpec.upto wordPacksSpec)

/-- 'bodegalaw1.WordFields', WHERE WHAT IT READS IS OF BULK AT MOST 1048576: true; the input reads as it did. -/
def wordFieldsUptoRow : OpenClaim := { program := "ytpcoflcelmfnbaa", sum := "701f267ec365d3a1e27e276a621c3e663d246381609dd600b09a7c6a8b74fe2c", func := "bodega/bodegalaw1.WordFields", spec := "wordFields", apart := false, narrowed := true }
def WordFieldsUptoSaid : Prop := wordFieldsUptoRow.holds Try.pinned (OpenSpec.upto wordFieldsSpec)

/-- 'bodegalaw1.WordFieldsBack', WHERE WHAT IT READS IS OF BULK AT MOST 1048576: true; the input reads as it did. -/
def wordFieldsBackUptoRow : OpenClaim := { program := "ytpcoflcelmfnbaa", sum := "701f267ec365d3a1e27e276a621c3e663d246381609dd600b09a7c6a8b74fe2c", func := "bodega/bodegalaw1.WordFieldsBack", spec := "wordFieldsBack", apart := false, narrowed := true }
def WordFieldsBackUptoSaid : Prop := wordFieldsBackUptoRow.holds Try.pinned (OpenSpec.upto wordFieldsBackSpec)

/-- 'bodegalaw1.WordBack', WHERE WHAT IT READS IS OF BULK AT MOST 1048576: true; the input reads as it did. -/
def wordBackUptoRow : OpenClaim := { program := "ytpcoflcelmfnbaa", sum := "701f267ec365d3a1e27e276a621c3e663d246381609dd600b09a7c6a8b74fe2c", func := "bodega/bodegalaw1.WordBack", spec := "wordBack", apart := false, narrowed := true }
def WordBackUptoSaid : Prop := wordBackUptoRow.holds Try.pinned (OpenSpec.upto wordBackSpec)

/-- 'bodegalaw1.WordSplits', WHERE WHAT IT READS IS OF BULK AT MOST 1048576: true; the input reads as it did. -/
def wordSplitsUptoRow : OpenClaim := { program := "ytpcoflcelmfnbaa", sum := "701f267ec365d3a1e27e276a621c3e663d246381609dd600b09a7c6a8b74fe2c", func := "bodega/bodegalaw1.WordSplits", spec := "wordSplits", apart := false, narrowed := true }
def WordSplitsUptoSaid : Prop := wordSplitsUptoRow.holds Try.pinned (OpenSpec.upto wordSplitsSpec)

end Rows
end Go.Proofs.Ytpcoflcelmfnbaa
