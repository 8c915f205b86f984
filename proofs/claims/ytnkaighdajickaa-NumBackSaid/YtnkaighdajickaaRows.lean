/-
  No cell of these rows narrows 'for every input' (looked for: loops, veiled, ifaces, maps, wideKeys, modest, calm, conditions, laid).
  DERIVED. THE GIVEN ROWS OF THIS SEAT. 8 by the template 'for every input the law returns true; each argument reads behind the call as it read before'; 0 by the template 'total and deterministic' (their statements: YtnkaighdajickaaTotals.lean).
  GIVEN WITH THE SEED: the statements are not yours to turn. If you find one false, say at which input.
  Laid BY PROGRAM, IN A SANDBOX (cutbox-rows.mjs): the forced cells as the released guide's own fill.sh prints them over the translation f5b7c9eb9fe0b680… (all of the seat's roots in one cut). By AI agents, Wed Nov 11 2026. No macro, syntax, notation, axiom, sorry.
-/
import Derived.Test.YtnkaighdajickaaChecked
import GoSem.Claim
import GoSem.ClaimJoined
import GoSem.ClaimMapViews
import Derived.JoinedTies
import Derived.KernelRfl
namespace Go.Proofs.Ytnkaighdajickaa
/- THE CELL 'sum', in the pinned program and in every row, IS THE sha256 OF THE DUMP (.gsa) THAT YtnkaighdajickaaProg.lean LOADS. Nothing in Lean hashes anything: it is a label: what it is worth is what the hold of that sum in a sandbox is worth. -/
noncomputable def Try.pinned : Pinned := { name := "ytnkaighdajickaa", sum := "f5b7c9eb9fe0b6800d4347778e7795980cc601f4456e0d5baf9a32a02788325d", checked := Try.checked }
namespace Rows
def none {H : Type} : Left H := { results := [], args := [] }

/-- 'registrarlaw01.NumShort': WHATEVER THE INPUT: true; the input reads as it did. -/
def numShortSpec : ChangeSpec := { name := "numShort", fn := fun _ => fun
  | [d1, d2] => { results := [.lit (.bool true)], args := [d1, d2] }
  | _ => none }
def numShortRow : OpenClaim := { program := "ytnkaighdajickaa", sum := "f5b7c9eb9fe0b6800d4347778e7795980cc601f4456e0d5baf9a32a02788325d", func := "registrar/registrarlaw01.NumShort", spec := "numShort", apart := false }
def NumShortSaid : Prop := numShortRow.holds Try.pinned (OpenSpec.ofChange numShortSpec)

/-- ITS FALSE NEIGHBOUR: 'it returns false'. Refute it at one input. -/
def numShortWrong : ChangeSpec := { name := "numShort", fn := fun _ => fun
  | [d1, d2] => { results := [.lit (.bool false)], args := [d1, d2] }
  | _ => none }
def NumShortWrongFalsely : Prop := numShortRow.holds Try.pinned (OpenSpec.ofChange numShortWrong)

/-- 'registrarlaw01.NumBehind': WHATEVER THE INPUT: true; the input reads as it did. -/
def numBehindSpec : ChangeSpec := { name := "numBehind", fn := fun _ => fun
  | [d1, d2, d3] => { results := [.lit (.bool true)], args := [d1, d2, d3] }
  | _ => none }
def numBehindRow : OpenClaim := { program := "ytnkaighdajickaa", sum := "f5b7c9eb9fe0b6800d4347778e7795980cc601f4456e0d5baf9a32a02788325d", func := "registrar/registrarlaw01.NumBehind", spec := "numBehind", apart := false }
def NumBehindSaid : Prop := numBehindRow.holds Try.pinned (OpenSpec.ofChange numBehindSpec)

/-- ITS FALSE NEIGHBOUR: 'it returns false'. Refute it at one input. -/
def numBehindWrong : ChangeSpec := { name := "numBehind", fn := fun _ => fun
  | [d1, d2, d3] => { results := [.lit (.bool false)], args := [d1, d2, d3] }
  | _ => none }
def NumBehindWrongFalsely : Prop := numBehindRow.holds Try.pinned (OpenSpec.ofChange numBehindWrong)

/-- 'registrarlaw01.NumPuts': WHATEVER THE INPUT: true; the input reads as it did. -/
def numPutsSpec : ChangeSpec := { name := "numPuts", fn := fun _ => fun
  | [d1, d2, d3] => { results := [.lit (.bool true)], args := [d1, d2, d3] }
  | _ => none }
def numPutsRow : OpenClaim := { program := "ytnkaighdajickaa", sum := "f5b7c9eb9fe0b6800d4347778e7795980cc601f4456e0d5baf9a32a02788325d", func := "registrar/registrarlaw01.NumPuts", spec := "numPuts", apart := false }
def NumPutsSaid : Prop := numPutsRow.holds Try.pinned (OpenSpec.ofChange numPutsSpec)

/-- ITS FALSE NEIGHBOUR: 'it returns false'. Refute it at one input. -/
def numPutsWrong : ChangeSpec := { name := "numPuts", fn := fun _ => fun
  | [d1, d2, d3] => { results := [.lit (.bool false)], args := [d1, d2, d3] }
  | _ => none }
def NumPutsWrongFalsely : Prop := numPutsRow.holds Try.pinned (OpenSpec.ofChange numPutsWrong)

/-- 'registrarlaw01.NumMany': WHATEVER THE INPUT: true; the input reads as it did. -/
def numManySpec : ChangeSpec := { name := "numMany", fn := fun _ => fun
  | [d] => { results := [.lit (.bool true)], args := [d] }
  | _ => none }
def numManyRow : OpenClaim := { program := "ytnkaighdajickaa", sum := "f5b7c9eb9fe0b6800d4347778e7795980cc601f4456e0d5baf9a32a02788325d", func := "registrar/registrarlaw01.NumMany", spec := "numMany", apart := false }
def NumManySaid : Prop := numManyRow.holds Try.pinned (OpenSpec.ofChange numManySpec)

/-- ITS FALSE NEIGHBOUR: 'it returns false'. Refute it at one input. -/
def numManyWrong : ChangeSpec := { name := "numMany", fn := fun _ => fun
  | [d] => { results := [.lit (.bool false)], args := [d] }
  | _ => none }
def NumManyWrongFalsely : Prop := numManyRow.holds Try.pinned (OpenSpec.ofChange numManyWrong)

/-- 'registrarlaw01.NumTakes': WHATEVER THE INPUT: true; the input reads as it did. -/
def numTakesSpec : ChangeSpec := { name := "numTakes", fn := fun _ => fun
  | [d1, d2] => { results := [.lit (.bool true)], args := [d1, d2] }
  | _ => none }
def numTakesRow : OpenClaim := { program := "ytnkaighdajickaa", sum := "f5b7c9eb9fe0b6800d4347778e7795980cc601f4456e0d5baf9a32a02788325d", func := "registrar/registrarlaw01.NumTakes", spec := "numTakes", apart := false }
def NumTakesSaid : Prop := numTakesRow.holds Try.pinned (OpenSpec.ofChange numTakesSpec)

/-- ITS FALSE NEIGHBOUR: 'it returns false'. Refute it at one input. -/
def numTakesWrong : ChangeSpec := { name := "numTakes", fn := fun _ => fun
  | [d1, d2] => { results := [.lit (.bool false)], args := [d1, d2] }
  | _ => none }
def NumTakesWrongFalsely : Prop := numTakesRow.holds Try.pinned (OpenSpec.ofChange numTakesWrong)

/-- 'registrarlaw01.NumCut': WHATEVER THE INPUT: true; the input reads as it did. -/
def numCutSpec : ChangeSpec := { name := "numCut", fn := fun _ => fun
  | [d1, d2] => { results := [.lit (.bool true)], args := [d1, d2] }
  | _ => none }
def numCutRow : OpenClaim := { program := "ytnkaighdajickaa", sum := "f5b7c9eb9fe0b6800d4347778e7795980cc601f4456e0d5baf9a32a02788325d", func := "registrar/registrarlaw01.NumCut", spec := "numCut", apart := false }
def NumCutSaid : Prop := numCutRow.holds Try.pinned (OpenSpec.ofChange numCutSpec)

/-- ITS FALSE NEIGHBOUR: 'it returns false'. Refute it at one input. -/
def numCutWrong : ChangeSpec := { name := "numCut", fn := fun _ => fun
  | [d1, d2] => { results := [.lit (.bool false)], args := [d1, d2] }
  | _ => none }
def NumCutWrongFalsely : Prop := numCutRow.holds Try.pinned (OpenSpec.ofChange numCutWrong)

/-- 'registrarlaw01.NumBack': WHATEVER THE INPUT: true; the input reads as it did. -/
def numBackSpec : ChangeSpec := { name := "numBack", fn := fun _ => fun
  | [d1, d2] => { results := [.lit (.bool true)], args := [d1, d2] }
  | _ => none }
def numBackRow : OpenClaim := { program := "ytnkaighdajickaa", sum := "f5b7c9eb9fe0b6800d4347778e7795980cc601f4456e0d5baf9a32a02788325d", func := "registrar/registrarlaw01.NumBack", spec := "numBack", apart := false }
def NumBackSaid : Prop := numBackRow.holds Try.pinned (OpenSpec.ofChange numBackSpec)

/-- ITS FALSE NEIGHBOUR: 'it returns false'. Refute it at one input. -/
def numBackWrong : ChangeSpec := { name := "numBack", fn := fun _ => fun
  | [d1, d2] => { results := [.lit (.bool false)], args := [d1, d2] }
  | _ => none }
def NumBackWrongFalsely : Prop := numBackRow.holds Try.pinned (OpenSpec.ofChange numBackWrong)

/-- 'registrarlaw01.NumText': WHATEVER THE INPUT: true; the input reads as it did. -/
def numTextSpec : ChangeSpec := { name := "numText", fn := fun _ => fun
  | [d1, d2] => { results := [.lit (.bool true)], args := [d1, d2] }
  | _ => none }
def numTextRow : OpenClaim := { program := "ytnkaighdajickaa", sum := "f5b7c9eb9fe0b6800d4347778e7795980cc601f4456e0d5baf9a32a02788325d", func := "registrar/registrarlaw01.NumText", spec := "numText", apart := false }
def NumTextSaid : Prop := numTextRow.holds Try.pinned (OpenSpec.ofChange numTextSpec)

/-- ITS FALSE NEIGHBOUR: 'it returns false'. Refute it at one input. -/
def numTextWrong : ChangeSpec := { name := "numText", fn := fun _ => fun
  | [d1, d2] => { results := [.lit (.bool false)], args := [d1, d2] }
  | _ => none }
def NumTextWrongFalsely : Prop := numTextRow.holds Try.pinned (OpenSpec.ofChange numTextWrong)

/- THE SECOND FORM. 'bulk': how many values and letters a reading holds, each counted each time it is reached (what is shared counts as often as it is met; a slice's spare places count too). A statement '..UptoSaid' is the law's where the arguments, and the package variables that the reading takes, are together of bulk at most 1048576: NARROWER than '..Said'. Prove '..Said' where nothing that the law and all that it calls make is longer than what came in: it says more and counts as full. Else prove '..UptoSaid'. A law counts once. -/
mutual
def uptoBulk {H : Type} : DataW H → Nat
  | .lit (.string bytes) => bytes.length + 1
  | .lit _ => 1
  | .nil => 1
  | .ptr d => uptoBulk d + 1
  | .slice elems spare => uptoBulkAll elems + uptoBulkAll spare + 1
  | .agg parts => uptoBulkAll parts + 1
  | .iface _ d => uptoBulk d + 1
  | .map entries => uptoBulkEntries entries + 1
  | .held _ => 1
def uptoBulkAll {H : Type} : List (DataW H) → Nat
  | [] => 0
  | d :: r => uptoBulk d + uptoBulkAll r
def uptoBulkEntries {H : Type} : List (Lit × DataW H) → Nat
  | [] => 0
  | x :: r => uptoBulkEntry x + uptoBulkEntries r
def uptoBulkEntry {H : Type} : Lit × DataW H → Nat
  | (.string bytes, d) => bytes.length + uptoBulk d + 1
  | (_, d) => uptoBulk d + 1
 end
def uptoSmall : (H : Type) → List (DataW H) → Bool := fun _ ds => decide (uptoBulkAll ds ≤ 1048576)
def OpenSpec.upto (s : _root_.Go.ChangeSpec) : _root_.Go.OpenSpec := { _root_.Go.OpenSpec.ofChange s with cond := some uptoSmall }

/-- 'registrarlaw01.NumShort', WHERE WHAT IT READS IS OF BULK AT MOST 1048576: true; the input reads as it did. -/
def numShortUptoRow : OpenClaim := { program := "ytnkaighdajickaa", sum := "f5b7c9eb9fe0b6800d4347778e7795980cc601f4456e0d5baf9a32a02788325d", func := "registrar/registrarlaw01.NumShort", spec := "numShort", apart := false, narrowed := true }
def NumShortUptoSaid : Prop := numShortUptoRow.holds Try.pinned (OpenSpec.upto numShortSpec)

/-- 'registrarlaw01.NumBehind', WHERE WHAT IT READS IS OF BULK AT MOST 1048576: true; the input reads as it did. -/
def numBehindUptoRow : OpenClaim := { program := "ytnkaighdajickaa", sum := "f5b7c9eb9fe0b6800d4347778e7795980cc601f4456e0d5baf9a32a02788325d", func := "registrar/registrarlaw01.NumBehind", spec := "numBehind", apart := false, narrowed := true }
def NumBehindUptoSaid : Prop := numBehindUptoRow.holds Try.pinned (OpenSpec.upto numBehindSpec)

/-- 'registrarlaw01.NumPuts', WHERE WHAT IT READS IS OF BULK AT MOST 1048576: true; the input reads as it did. -/
def numPutsUptoRow : OpenClaim := { program := "ytnkaighdajickaa", sum := "f5b7c9eb9fe0b6800d4347778e7795980cc601f4456e0d5baf9a32a02788325d", func := "registrar/registrarlaw01.NumPuts", spec := "numPuts", apart := false, narrowed := true }
def NumPutsUptoSaid : Prop := numPutsUptoRow.holds Try.pinned (OpenSpec.upto numPutsSpec)

/-- 'registrarlaw01.NumMany', WHERE WHAT IT READS IS OF BULK AT MOST 1048576: true; the input reads as it did. -/
def numManyUptoRow : OpenClaim := { program := "ytnkaighdajickaa", sum := "f5b7c9eb9fe0b6800d4347778e7795980cc601f4456e0d5baf9a32a02788325d", func := "registrar/registrarlaw01.NumMany", spec := "numMany", apart := false, narrowed := true }
def NumManyUptoSaid : Prop := numManyUptoRow.holds Try.pinned (OpenSpec.upto numManySpec)

/-- 'registrarlaw01.NumTakes', WHERE WHAT IT READS IS OF BULK AT MOST 1048576: true; the input reads as it did. -/
def numTakesUptoRow : OpenClaim := { program := "ytnkaighdajickaa", sum := "f5b7c9eb9fe0b6800d4347778e7795980cc601f4456e0d5baf9a32a02788325d", func := "registrar/registrarlaw01.NumTakes", spec := "numTakes", apart := false, narrowed := true }
def NumTakesUptoSaid : Prop := numTakesUptoRow.holds Try.pinned (OpenSpec.upto numTakesSpec)

/-- 'registrarlaw01.NumCut', WHERE WHAT IT READS IS OF BULK AT MOST 1048576: true; the input reads as it did. -/
def numCutUptoRow : OpenClaim := { program := "ytnkaighdajickaa", sum := "f5b7c9eb9fe0b6800d4347778e7795980cc601f4456e0d5baf9a32a02788325d", func := "registrar/registrarlaw01.NumCut", spec := "numCut", apart := false, narrowed := true }
def NumCutUptoSaid : Prop := numCutUptoRow.holds Try.pinned (OpenSpec.upto numCutSpec)

/-- 'registrarlaw01.NumBack', WHERE WHAT IT READS IS OF BULK AT MOST 1048576: true; the input reads as it did. -/
def numBackUptoRow : OpenClaim := { program := "ytnkaighdajickaa", sum := "f5b7c9eb9fe0b6800d4347778e7795980cc601f4456e0d5baf9a32a02788325d", func := "registrar/registrarlaw01.NumBack", spec := "numBack", apart := false, narrowed := true }
def NumBackUptoSaid : Prop := numBackUptoRow.holds Try.pinned (OpenSpec.upto numBackSpec)

/-- 'registrarlaw01.NumText', WHERE WHAT IT READS IS OF BULK AT MOST 1048576: true; the input reads as it did. -/
def numTextUptoRow : OpenClaim := { program := "ytnkaighdajickaa", sum := "f5b7c9eb9fe0b6800d4347778e7795980cc601f4456e0d5baf9a32a02788325d", func := "registrar/registrarlaw01.NumText", spec := "numText", apart := false, narrowed := true }
def NumTextUptoSaid : Prop := numTextUptoRow.holds Try.pinned (OpenSpec.upto numTextSpec)

end Rows
end Go.Proofs.Ytnkaighdajickaa
