/-
  No cell of these rows narrows 'for every input' (looked for: loops, veiled, ifaces, maps, wideKeys, modest, calm, conditions, laid).
  DERIVED. THE GIVEN ROWS OF THIS SEAT. 3 by the template 'for every input the law returns true; each argument reads behind the call as it read before'; 0 by the template 'total and deterministic' (their statements: YteicdkknciljhaaTotals.lean).
  GIVEN WITH THE SEED: the statements are not yours to turn. If you find one false, say at which input.
  Laid BY PROGRAM, IN A SANDBOX (cutbox-rows.mjs): the forced cells as the released guide's own fill.sh prints them over the translation 1b30adcea5115623… (all of the seat's roots in one cut). By AI agents, Wed Nov 11 2026. No macro, syntax, notation, axiom, sorry.
-/
import Derived.Test.YteicdkknciljhaaChecked
import GoSem.Claim
import GoSem.ClaimJoined
import GoSem.ClaimMapViews
import Derived.JoinedTies
import Derived.KernelRfl
namespace Go.Proofs.Yteicdkknciljhaa
/- THE CELL 'sum', in the pinned program and in every row, IS THE sha256 OF THE DUMP (.gsa) THAT YteicdkknciljhaaProg.lean LOADS. Nothing in Lean hashes anything: it is a label: what it is worth is what the hold of that sum in a sandbox is worth. -/
noncomputable def Try.pinned : Pinned := { name := "yteicdkknciljhaa", sum := "1b30adcea511562370fe7dced00649c203de35b2bb07f72ea6f01f3008e1ae31", checked := Try.checked }
namespace Rows
def none {H : Type} : Left H := { results := [], args := [] }

/-- 'chroniclelaw10.DerDecodes': WHATEVER THE INPUT: true; the input reads as it did. -/
def derDecodesSpec : ChangeSpec := { name := "derDecodes", fn := fun _ => fun
  | [d] => { results := [.lit (.bool true)], args := [d] }
  | _ => none }
def derDecodesRow : OpenClaim := { program := "yteicdkknciljhaa", sum := "1b30adcea511562370fe7dced00649c203de35b2bb07f72ea6f01f3008e1ae31", func := "chronicle/chroniclelaw10.DerDecodes", spec := "derDecodes", unfollowed := true, recurses := true, apart := false }
def DerDecodesSaid : Prop := derDecodesRow.holds Try.pinned (OpenSpec.ofChange derDecodesSpec)

/-- ITS FALSE NEIGHBOUR: 'it returns false'. Refute it at one input. -/
def derDecodesWrong : ChangeSpec := { name := "derDecodes", fn := fun _ => fun
  | [d] => { results := [.lit (.bool false)], args := [d] }
  | _ => none }
def DerDecodesWrongFalsely : Prop := derDecodesRow.holds Try.pinned (OpenSpec.ofChange derDecodesWrong)

/-- 'chroniclelaw10.DerBack': WHATEVER THE INPUT: true; the input reads as it did. -/
def derBackSpec : ChangeSpec := { name := "derBack", fn := fun _ => fun
  | [d1, d2, d3] => { results := [.lit (.bool true)], args := [d1, d2, d3] }
  | _ => none }
def derBackRow : OpenClaim := { program := "yteicdkknciljhaa", sum := "1b30adcea511562370fe7dced00649c203de35b2bb07f72ea6f01f3008e1ae31", func := "chronicle/chroniclelaw10.DerBack", spec := "derBack", unfollowed := true, recurses := true, apart := false }
def DerBackSaid : Prop := derBackRow.holds Try.pinned (OpenSpec.ofChange derBackSpec)

/-- ITS FALSE NEIGHBOUR: 'it returns false'. Refute it at one input. -/
def derBackWrong : ChangeSpec := { name := "derBack", fn := fun _ => fun
  | [d1, d2, d3] => { results := [.lit (.bool false)], args := [d1, d2, d3] }
  | _ => none }
def DerBackWrongFalsely : Prop := derBackRow.holds Try.pinned (OpenSpec.ofChange derBackWrong)

/-- 'chroniclelaw10.DerCuts': WHATEVER THE INPUT: true; the input reads as it did. -/
def derCutsSpec : ChangeSpec := { name := "derCuts", fn := fun _ => fun
  | [d1, d2, d3] => { results := [.lit (.bool true)], args := [d1, d2, d3] }
  | _ => none }
def derCutsRow : OpenClaim := { program := "yteicdkknciljhaa", sum := "1b30adcea511562370fe7dced00649c203de35b2bb07f72ea6f01f3008e1ae31", func := "chronicle/chroniclelaw10.DerCuts", spec := "derCuts", unfollowed := true, recurses := true, apart := false }
def DerCutsSaid : Prop := derCutsRow.holds Try.pinned (OpenSpec.ofChange derCutsSpec)

/-- ITS FALSE NEIGHBOUR: 'it returns false'. Refute it at one input. -/
def derCutsWrong : ChangeSpec := { name := "derCuts", fn := fun _ => fun
  | [d1, d2, d3] => { results := [.lit (.bool false)], args := [d1, d2, d3] }
  | _ => none }
def DerCutsWrongFalsely : Prop := derCutsRow.holds Try.pinned (OpenSpec.ofChange derCutsWrong)

/- THE SECOND FORM. 'bulk': how many values and letters a reading holds, each counted each time it is reached (what is shared counts as often as it is met; a slice's spare places count too). A statement '..UptoSaid' is the law's where the arguments, and the package variables that the reading takes, are together of bulk at most 1048576: NARROWER than '..Said'. Prove '..Said' where nothing that the law and all that it calls make is longer than what came in: it says more and counts as full. Else prove '..UptoSaid'. A law counts once. -/
mutual
def uptoBulk {H : Type} : DataW H → Nat
  | .lit (.string bytes) => bytes.length + 1
  | .lit _ => 1
  | .nil => 1
  | .ptr d => uptoBulk d + 1
  | .slice elems spare => uptoBulkAll elems + uptoBulkAll spare + 1
  | .agg parts => uptoBulkAll parts + 1
  | .iface _ d => uptoBulk d + 1
  | .map entries => uptoBulkEntries entries + 1
  | .held _ => 1
def uptoBulkAll {H : Type} : List (DataW H) → Nat
  | [] => 0
  | d :: r => uptoBulk d + uptoBulkAll r
def uptoBulkEntries {H : Type} : List (Lit × DataW H) → Nat
  | [] => 0
  | x :: r => uptoBulkEntry x + uptoBulkEntries r
def uptoBulkEntry {H : Type} : Lit × DataW H → Nat
  | (.string bytes, d) => bytes.length + uptoBulk d + 1
  | (_, d) => uptoBulk d + 1
 end
def uptoSmall : (H : Type) → List (DataW H) → Bool := fun _ ds => decide (uptoBulkAll ds ≤ 1048576)
def OpenSpec.upto (s : _root_.Go.ChangeSpec) : _root_.Go.OpenSpec := { _root_.Go.OpenSpec.ofChange s with cond := some uptoSmall }

/-- 'chroniclelaw10.DerDecodes', WHERE WHAT IT READS IS OF BULK AT MOST 1048576: true; the input reads as it did. -/
def derDecodesUptoRow : OpenClaim := { program := "yteicdkknciljhaa", sum := "1b30adcea511562370fe7dced00649c203de35b2bb07f72ea6f01f3008e1ae31", func := "chronicle/chroniclelaw10.DerDecodes", spec := "derDecodes", unfollowed := true, recurses := true, apart := false, narrowed := true }
def DerDecodesUptoSaid : Prop := derDecodesUptoRow.holds Try.pinned (OpenSpec.upto derDecodesSpec)

/-- 'chroniclelaw10.DerBack', WHERE WHAT IT READS IS OF BULK AT MOST 1048576: true; the input reads as it did. -/
def derBackUptoRow : OpenClaim := { program := "yteicdkknciljhaa", sum := "1b30adcea511562370fe7dced00649c203de35b2bb07f72ea6f01f3008e1ae31", func := "chronicle/chroniclelaw10.DerBack", spec := "derBack", unfollowed := true, recurses := true, apart := false, narrowed := true }
def DerBackUptoSaid : Prop := derBackUptoRow.holds Try.pinned (OpenSpec.upto derBackSpec)

/-- 'chroniclelaw10.DerCuts', WHERE WHAT IT READS IS OF BULK AT MOST 1048576: true; the input reads as it did. -/
def derCutsUptoRow : OpenClaim := { program := "yteicdkknciljhaa", sum := "1b30adcea511562370fe7dced00649c203de35b2bb07f72ea6f01f3008e1ae31", func := "chronicle/chroniclelaw10.DerCuts", spec := "derCuts", unfollowed := true, recurses := true, apart := false, narrowed := true }
def DerCutsUptoSaid : Prop := derCutsUptoRow.holds Try.pinned (OpenSpec.upto derCutsSpec)

end Rows
end Go.Proofs.Yteicdkknciljhaa
