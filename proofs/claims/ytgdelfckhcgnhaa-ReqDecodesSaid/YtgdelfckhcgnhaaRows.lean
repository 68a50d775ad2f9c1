/-
  No cell of these rows narrows 'for every input' (looked for: loops, veiled, ifaces, maps, wideKeys, modest, calm, conditions, laid).
  DERIVED. THE GIVEN ROWS OF THIS SEAT. 5 by the template 'for every input the law returns true; each argument reads behind the call as it read before'; 0 by the template 'total and deterministic' (their statements: YtgdelfckhcgnhaaTotals.lean).
  GIVEN WITH THE SEED: the statements are not yours to turn. If you find one false, say at which input.
  Laid BY PROGRAM, IN A SANDBOX (cutbox-rows.mjs): the forced cells as the released guide's own fill.sh prints them over the translation 84542b816ede15b5… (all of the seat's roots in one cut). By AI agents, Wed Nov 11 2026. No macro, syntax, notation, axiom, sorry.
-/
import Derived.Test.YtgdelfckhcgnhaaChecked
import GoSem.Claim
import GoSem.ClaimJoined
import GoSem.ClaimMapViews
import Derived.JoinedTies
import Derived.KernelRfl
namespace Go.Proofs.Ytgdelfckhcgnhaa
/- THE CELL 'sum', in the pinned program and in every row, IS THE sha256 OF THE DUMP (.gsa) THAT YtgdelfckhcgnhaaProg.lean LOADS. Nothing in Lean hashes anything: it is a label: what it is worth is what the hold of that sum in a sandbox is worth. -/
noncomputable def Try.pinned : Pinned := { name := "ytgdelfckhcgnhaa", sum := "84542b816ede15b5281f01dac6e939af4020f1364b36dd176eac433b2fd53ff1", checked := Try.checked }
namespace Rows
def none {H : Type} : Left H := { results := [], args := [] }

/-- 'quartermasterlaw21.ReqOnly': WHATEVER THE INPUT: true; the input reads as it did. -/
def reqOnlySpec : ChangeSpec := { name := "reqOnly", fn := fun _ => fun
  | [d1, d2, d3] => { results := [.lit (.bool true)], args := [d1, d2, d3] }
  | _ => none }
def reqOnlyRow : OpenClaim := { program := "ytgdelfckhcgnhaa", sum := "84542b816ede15b5281f01dac6e939af4020f1364b36dd176eac433b2fd53ff1", func := "quartermaster/quartermasterlaw21.ReqOnly", spec := "reqOnly", unfollowed := true, recurses := true, apart := false }
def ReqOnlySaid : Prop := reqOnlyRow.holds Try.pinned (OpenSpec.ofChange reqOnlySpec)

/-- ITS FALSE NEIGHBOUR: 'it returns false'. Refute it at one input. -/
def reqOnlyWrong : ChangeSpec := { name := "reqOnly", fn := fun _ => fun
  | [d1, d2, d3] => { results := [.lit (.bool false)], args := [d1, d2, d3] }
  | _ => none }
def ReqOnlyWrongFalsely : Prop := reqOnlyRow.holds Try.pinned (OpenSpec.ofChange reqOnlyWrong)

/-- 'quartermasterlaw21.ReqApart': WHATEVER THE INPUT: true; the input reads as it did. -/
def reqApartSpec : ChangeSpec := { name := "reqApart", fn := fun _ => fun
  | [d1, d2, d3, d4] => { results := [.lit (.bool true)], args := [d1, d2, d3, d4] }
  | _ => none }
def reqApartRow : OpenClaim := { program := "ytgdelfckhcgnhaa", sum := "84542b816ede15b5281f01dac6e939af4020f1364b36dd176eac433b2fd53ff1", func := "quartermaster/quartermasterlaw21.ReqApart", spec := "reqApart", unfollowed := true, recurses := true, apart := false }
def ReqApartSaid : Prop := reqApartRow.holds Try.pinned (OpenSpec.ofChange reqApartSpec)

/-- ITS FALSE NEIGHBOUR: 'it returns false'. Refute it at one input. -/
def reqApartWrong : ChangeSpec := { name := "reqApart", fn := fun _ => fun
  | [d1, d2, d3, d4] => { results := [.lit (.bool false)], args := [d1, d2, d3, d4] }
  | _ => none }
def ReqApartWrongFalsely : Prop := reqApartRow.holds Try.pinned (OpenSpec.ofChange reqApartWrong)

/-- 'quartermasterlaw21.ReqEncodes': WHATEVER THE INPUT: true; the input reads as it did. -/
def reqEncodesSpec : ChangeSpec := { name := "reqEncodes", fn := fun _ => fun
  | [d1, d2] => { results := [.lit (.bool true)], args := [d1, d2] }
  | _ => none }
def reqEncodesRow : OpenClaim := { program := "ytgdelfckhcgnhaa", sum := "84542b816ede15b5281f01dac6e939af4020f1364b36dd176eac433b2fd53ff1", func := "quartermaster/quartermasterlaw21.ReqEncodes", spec := "reqEncodes", unfollowed := true, recurses := true, apart := false }
def ReqEncodesSaid : Prop := reqEncodesRow.holds Try.pinned (OpenSpec.ofChange reqEncodesSpec)

/-- ITS FALSE NEIGHBOUR: 'it returns false'. Refute it at one input. -/
def reqEncodesWrong : ChangeSpec := { name := "reqEncodes", fn := fun _ => fun
  | [d1, d2] => { results := [.lit (.bool false)], args := [d1, d2] }
  | _ => none }
def ReqEncodesWrongFalsely : Prop := reqEncodesRow.holds Try.pinned (OpenSpec.ofChange reqEncodesWrong)

/-- 'quartermasterlaw21.ReqDecodes': WHATEVER THE INPUT: true; the input reads as it did. -/
def reqDecodesSpec : ChangeSpec := { name := "reqDecodes", fn := fun _ => fun
  | [d] => { results := [.lit (.bool true)], args := [d] }
  | _ => none }
def reqDecodesRow : OpenClaim := { program := "ytgdelfckhcgnhaa", sum := "84542b816ede15b5281f01dac6e939af4020f1364b36dd176eac433b2fd53ff1", func := "quartermaster/quartermasterlaw21.ReqDecodes", spec := "reqDecodes", unfollowed := true, recurses := true, apart := false }
def ReqDecodesSaid : Prop := reqDecodesRow.holds Try.pinned (OpenSpec.ofChange reqDecodesSpec)

/-- ITS FALSE NEIGHBOUR: 'it returns false'. Refute it at one input. -/
def reqDecodesWrong : ChangeSpec := { name := "reqDecodes", fn := fun _ => fun
  | [d] => { results := [.lit (.bool false)], args := [d] }
  | _ => none }
def ReqDecodesWrongFalsely : Prop := reqDecodesRow.holds Try.pinned (OpenSpec.ofChange reqDecodesWrong)

/-- 'quartermasterlaw21.ReqBack': WHATEVER THE INPUT: true; the input reads as it did. -/
def reqBackSpec : ChangeSpec := { name := "reqBack", fn := fun _ => fun
  | [d1, d2] => { results := [.lit (.bool true)], args := [d1, d2] }
  | _ => none }
def reqBackRow : OpenClaim := { program := "ytgdelfckhcgnhaa", sum := "84542b816ede15b5281f01dac6e939af4020f1364b36dd176eac433b2fd53ff1", func := "quartermaster/quartermasterlaw21.ReqBack", spec := "reqBack", unfollowed := true, recurses := true, apart := false }
def ReqBackSaid : Prop := reqBackRow.holds Try.pinned (OpenSpec.ofChange reqBackSpec)

/-- ITS FALSE NEIGHBOUR: 'it returns false'. Refute it at one input. -/
def reqBackWrong : ChangeSpec := { name := "reqBack", fn := fun _ => fun
  | [d1, d2] => { results := [.lit (.bool false)], args := [d1, d2] }
  | _ => none }
def ReqBackWrongFalsely : Prop := reqBackRow.holds Try.pinned (OpenSpec.ofChange reqBackWrong)

/- THE SECOND FORM. 'bulk': how many values and letters a reading holds, each counted each time it is reached (what is shared counts as often as it is met; a slice's spare places count too). A statement '..UptoSaid' is the law's where the arguments, and the package variables that the reading takes, are together of bulk at most 1048576: NARROWER than '..Said'. Prove '..Said' where nothing that the law and all that it calls make is longer than what came in: it says more and counts as full. Else prove '..UptoSaid'. A law counts once. -/
mutual
def uptoBulk {H : Type} : DataW H → Nat
  | .lit (.string bytes) => bytes.length + 1
  | .lit _ => 1
  | .nil => 1
  | .ptr d => uptoBulk d + 1
  | .slice elems spare => uptoBulkAll elems + uptoBulkAll spare + 1
  | .agg parts => uptoBulkAll parts + 1
  | .iface _ d => uptoBulk d + 1
  | .map entries => uptoBulkEntries entries + 1
  | .held _ => 1
def uptoBulkAll {H : Type} : List (DataW H) → Nat
  | [] => 0
  | d :: r => uptoBulk d + uptoBulkAll r
def uptoBulkEntries {H : Type} : List (Lit × DataW H) → Nat
  | [] => 0
  | x :: r => uptoBulkEntry x + uptoBulkEntries r
def uptoBulkEntry {H : Type} : Lit × DataW H → Nat
  | (.string bytes, d) => bytes.length + uptoBulk d + 1
  | (_, d) => uptoBulk d + 1
 end
def uptoSmall : (H : Type) → List (DataW H) → Bool := fun _ ds => decide (uptoBulkAll ds ≤ 1048576)
def OpenSpec.upto (s : _root_.Go.ChangeSpec) : _root_.Go.OpenSpec := { _root_.Go.OpenSpec.ofChange s with cond := some uptoSmall }

/-- 'quartermasterlaw21.ReqOnly', WHERE WHAT IT READS IS OF BULK AT MOST 1048576: true; the input reads as it did. -/
def reqOnlyUptoRow : OpenClaim := { program := "ytgdelfckhcgnhaa", sum := "84542b816ede15b5281f01dac6e939af4020f1364b36dd176eac433b2fd53ff1", func := "quartermaster/quartermasterlaw21.ReqOnly", spec := "reqOnly", unfollowed := true, recurses := true, apart := false, narrowed := true }
def ReqOnlyUptoSaid : Prop := reqOnlyUptoRow.holds Try.pinned (OpenSpec.upto reqOnlySpec)

/-- 'quartermasterlaw21.ReqApart', WHERE WHAT IT READS IS OF BULK AT MOST 1048576: true; the input reads as it did. -/
def reqApartUptoRow : OpenClaim := { program := "ytgdelfckhcgnhaa", sum := "84542b816ede15b5281f01dac6e939af4020f1364b36dd176eac433b2fd53ff1", func := "quartermaster/quartermasterlaw21.ReqApart", spec := "reqApart", unfollowed := true, recurses := true, apart := false, narrowed := true }
def ReqApartUptoSaid : Prop := reqApartUptoRow.holds Try.pinned (OpenSpec.upto reqApartSpec)

/-- 'quartermasterlaw21.ReqEncodes', WHERE WHAT IT READS IS OF BULK AT MOST 1048576: true; the input reads as it did. -/
def reqEncodesUptoRow : OpenClaim := { program := "ytgdelfckhcgnhaa", sum := "84542b816ede15b5281f01dac6e939af4020f1364b36dd176eac433b2fd53ff1", func := "quartermaster/quartermasterlaw21.ReqEncodes", spec := "reqEncodes", unfollowed := true, recurses := true, apart := false, narrowed := true }
def ReqEncodesUptoSaid : Prop := reqEncodesUptoRow.holds Try.pinned (OpenSpec.upto reqEncodesSpec)

/-- 'quartermasterlaw21.ReqDecodes', WHERE WHAT IT READS IS OF BULK AT MOST 1048576: true; the input reads as it did. -/
def reqDecodesUptoRow : OpenClaim := { program := "ytgdelfckhcgnhaa", sum := "84542b816ede15b5281f01dac6e939af4020f1364b36dd176eac433b2fd53ff1", func := "quartermaster/quartermasterlaw21.ReqDecodes", spec := "reqDecodes", unfollowed := true, recurses := true, apart := false, narrowed := true }
def ReqDecodesUptoSaid : Prop := reqDecodesUptoRow.holds Try.pinned (OpenSpec.upto reqDecodesSpec)

/-- 'quartermasterlaw21.ReqBack', WHERE WHAT IT READS IS OF BULK AT MOST 1048576: true; the input reads as it did. -/
def reqBackUptoRow : OpenClaim := { program := "ytgdelfckhcgnhaa", sum := "84542b816ede15b5281f01dac6e939af4020f1364b36dd176eac433b2fd53ff1", func := "quartermaster/quartermasterlaw21.ReqBack", spec := "reqBack", unfollowed := true, recurses := true, apart := false, narrowed := true }
def ReqBackUptoSaid : Prop := reqBackUptoRow.holds Try.pinned (OpenSpec.upto reqBackSpec)

end Rows
end Go.Proofs.Ytgdelfckhcgnhaa
