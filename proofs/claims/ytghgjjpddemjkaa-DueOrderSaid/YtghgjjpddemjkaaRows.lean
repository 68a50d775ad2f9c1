/-
  No cell of these rows narrows 'for every input' (looked for: loops, veiled, ifaces, maps, wideKeys, modest, calm, conditions, laid).
  DERIVED. THE GIVEN ROWS OF THIS SEAT. 5 by the template 'for every input the law returns true; each argument reads behind the call as it read before'; 0 by the template 'total and deterministic' (their statements: YtghgjjpddemjkaaTotals.lean).
  GIVEN WITH THE SEED: the statements are not yours to turn. If you find one false, say at which input.
  Laid BY PROGRAM, IN A SANDBOX (cutbox-rows.mjs): the forced cells as the released guide's own fill.sh prints them over the translation 00515ad067953f43… (all of the seat's roots in one cut). By AI agents, Wed Nov 11 2026. No macro, syntax, notation, axiom, sorry.
-/
import Derived.Test.YtghgjjpddemjkaaChecked
import GoSem.Claim
import GoSem.ClaimJoined
import GoSem.ClaimMapViews
import Derived.JoinedTies
import Derived.KernelRfl
namespace Go.Proofs.Ytghgjjpddemjkaa
/- THE CELL 'sum', in the pinned program and in every row, IS THE sha256 OF THE DUMP (.gsa) THAT YtghgjjpddemjkaaProg.lean LOADS. Nothing in Lean hashes anything: it is a label: what it is worth is what the hold of that sum in a sandbox is worth. -/
noncomputable def Try.pinned : Pinned := { name := "ytghgjjpddemjkaa", sum := "00515ad067953f431ea892069aa6621b98f918ed3fb563bbb5b573cc20b0bd55", checked := Try.checked }
namespace Rows
def none {H : Type} : Left H := { results := [], args := [] }

/-- 'quartermasterlaw15.DueRises': WHATEVER THE INPUT: true; the input reads as it did. -/
def dueRisesSpec : ChangeSpec := { name := "dueRises", fn := fun _ => fun
  | [d1, d2] => { results := [.lit (.bool true)], args := [d1, d2] }
  | _ => none }
def dueRisesRow : OpenClaim := { program := "ytghgjjpddemjkaa", sum := "00515ad067953f431ea892069aa6621b98f918ed3fb563bbb5b573cc20b0bd55", func := "quartermaster/quartermasterlaw15.DueRises", spec := "dueRises", unfollowed := true, recurses := true, apart := false }
def DueRisesSaid : Prop := dueRisesRow.holds Try.pinned (OpenSpec.ofChange dueRisesSpec)

/-- ITS FALSE NEIGHBOUR: 'it returns false'. Refute it at one input. -/
def dueRisesWrong : ChangeSpec := { name := "dueRises", fn := fun _ => fun
  | [d1, d2] => { results := [.lit (.bool false)], args := [d1, d2] }
  | _ => none }
def DueRisesWrongFalsely : Prop := dueRisesRow.holds Try.pinned (OpenSpec.ofChange dueRisesWrong)

/-- 'quartermasterlaw15.DueTwo': WHATEVER THE INPUT: true; the input reads as it did. -/
def dueTwoSpec : ChangeSpec := { name := "dueTwo", fn := fun _ => fun
  | [d1, d2, d3] => { results := [.lit (.bool true)], args := [d1, d2, d3] }
  | _ => none }
def dueTwoRow : OpenClaim := { program := "ytghgjjpddemjkaa", sum := "00515ad067953f431ea892069aa6621b98f918ed3fb563bbb5b573cc20b0bd55", func := "quartermaster/quartermasterlaw15.DueTwo", spec := "dueTwo", unfollowed := true, recurses := true, apart := false }
def DueTwoSaid : Prop := dueTwoRow.holds Try.pinned (OpenSpec.ofChange dueTwoSpec)

/-- ITS FALSE NEIGHBOUR: 'it returns false'. Refute it at one input. -/
def dueTwoWrong : ChangeSpec := { name := "dueTwo", fn := fun _ => fun
  | [d1, d2, d3] => { results := [.lit (.bool false)], args := [d1, d2, d3] }
  | _ => none }
def DueTwoWrongFalsely : Prop := dueTwoRow.holds Try.pinned (OpenSpec.ofChange dueTwoWrong)

/-- 'quartermasterlaw15.DueDoes': WHATEVER THE INPUT: true; the input reads as it did. -/
def dueDoesSpec : ChangeSpec := { name := "dueDoes", fn := fun _ => fun
  | [d] => { results := [.lit (.bool true)], args := [d] }
  | _ => none }
def dueDoesRow : OpenClaim := { program := "ytghgjjpddemjkaa", sum := "00515ad067953f431ea892069aa6621b98f918ed3fb563bbb5b573cc20b0bd55", func := "quartermaster/quartermasterlaw15.DueDoes", spec := "dueDoes", unfollowed := true, recurses := true, apart := false }
def DueDoesSaid : Prop := dueDoesRow.holds Try.pinned (OpenSpec.ofChange dueDoesSpec)

/-- ITS FALSE NEIGHBOUR: 'it returns false'. Refute it at one input. -/
def dueDoesWrong : ChangeSpec := { name := "dueDoes", fn := fun _ => fun
  | [d] => { results := [.lit (.bool false)], args := [d] }
  | _ => none }
def DueDoesWrongFalsely : Prop := dueDoesRow.holds Try.pinned (OpenSpec.ofChange dueDoesWrong)

/-- 'quartermasterlaw15.DueOrder': WHATEVER THE INPUT: true; the input reads as it did. -/
def dueOrderSpec : ChangeSpec := { name := "dueOrder", fn := fun _ => fun
  | [d1, d2] => { results := [.lit (.bool true)], args := [d1, d2] }
  | _ => none }
def dueOrderRow : OpenClaim := { program := "ytghgjjpddemjkaa", sum := "00515ad067953f431ea892069aa6621b98f918ed3fb563bbb5b573cc20b0bd55", func := "quartermaster/quartermasterlaw15.DueOrder", spec := "dueOrder", unfollowed := true, recurses := true, apart := false }
def DueOrderSaid : Prop := dueOrderRow.holds Try.pinned (OpenSpec.ofChange dueOrderSpec)

/-- ITS FALSE NEIGHBOUR: 'it returns false'. Refute it at one input. -/
def dueOrderWrong : ChangeSpec := { name := "dueOrder", fn := fun _ => fun
  | [d1, d2] => { results := [.lit (.bool false)], args := [d1, d2] }
  | _ => none }
def DueOrderWrongFalsely : Prop := dueOrderRow.holds Try.pinned (OpenSpec.ofChange dueOrderWrong)

/-- 'quartermasterlaw15.DueNone': WHATEVER THE INPUT: true; the input reads as it did. -/
def dueNoneSpec : ChangeSpec := { name := "dueNone", fn := fun _ => fun
  | [d] => { results := [.lit (.bool true)], args := [d] }
  | _ => none }
def dueNoneRow : OpenClaim := { program := "ytghgjjpddemjkaa", sum := "00515ad067953f431ea892069aa6621b98f918ed3fb563bbb5b573cc20b0bd55", func := "quartermaster/quartermasterlaw15.DueNone", spec := "dueNone", unfollowed := true, recurses := true, apart := false }
def DueNoneSaid : Prop := dueNoneRow.holds Try.pinned (OpenSpec.ofChange dueNoneSpec)

/-- ITS FALSE NEIGHBOUR: 'it returns false'. Refute it at one input. -/
def dueNoneWrong : ChangeSpec := { name := "dueNone", fn := fun _ => fun
  | [d] => { results := [.lit (.bool false)], args := [d] }
  | _ => none }
def DueNoneWrongFalsely : Prop := dueNoneRow.holds Try.pinned (OpenSpec.ofChange dueNoneWrong)

/- THE SECOND FORM. 'bulk': how many values and letters a reading holds, each counted each time it is reached (what is shared counts as often as it is met; a slice's spare places count too). A statement '..UptoSaid' is the law's where the arguments, and the package variables that the reading takes, are together of bulk at most 1048576: NARROWER than '..Said'. Prove '..Said' where nothing that the law and all that it calls make is longer than what came in: it says more and counts as full. Else prove '..UptoSaid'. A law counts once. -/
mutual
def uptoBulk {H : Type} : DataW H → Nat
  | .lit (.string bytes) => bytes.length + 1
  | .lit _ => 1
  | .nil => 1
  | .ptr d => uptoBulk d + 1
  | .slice elems spare => uptoBulkAll elems + uptoBulkAll spare + 1
  | .agg parts => uptoBulkAll parts + 1
  | .iface _ d => uptoBulk d + 1
  | .map entries => uptoBulkEntries entries + 1
  | .held _ => 1
def uptoBulkAll {H : Type} : List (DataW H) → Nat
  | [] => 0
  | d :: r => uptoBulk d + uptoBulkAll r
def uptoBulkEntries {H : Type} : List (Lit × DataW H) → Nat
  | [] => 0
  | x :: r => uptoBulkEntry x + uptoBulkEntries r
def uptoBulkEntry {H : Type} : Lit × DataW H → Nat
  | (.string bytes, d) => bytes.length + uptoBulk d + 1
  | (_, d) => uptoBulk d + 1
 end
def uptoSmall : (H : Type) → List (DataW H) → Bool := fun _ ds => decide (uptoBulkAll ds ≤ 1048576)
def OpenSpec.upto (s : _root_.Go.ChangeSpec) : _root_.Go.OpenSpec := { _root_.Go.OpenSpec.ofChange s with cond := some uptoSmall }

/-- 'quartermasterlaw15.DueRises', WHERE WHAT IT READS IS OF BULK AT MOST 1048576: true; the input reads as it did. -/
def dueRisesUptoRow : OpenClaim := { program := "ytghgjjpddemjkaa", sum := "00515ad067953f431ea892069aa6621b98f918ed3fb563bbb5b573cc20b0bd55", func := "quartermaster/quartermasterlaw15.DueRises", spec := "dueRises", unfollowed := true, recurses := true, apart := false, narrowed := true }
def DueRisesUptoSaid : Prop := dueRisesUptoRow.holds Try.pinned (OpenSpec.upto dueRisesSpec)

/-- 'quartermasterlaw15.DueTwo', WHERE WHAT IT READS IS OF BULK AT MOST 1048576: true; the input reads as it did. -/
def dueTwoUptoRow : OpenClaim := { program := "ytghgjjpddemjkaa", sum := "00515ad067953f431ea892069aa6621b98f918ed3fb563bbb5b573cc20b0bd55", func := "quartermaster/quartermasterlaw15.DueTwo", spec := "dueTwo", unfollowed := true, recurses := true, apart := false, narrowed := true }
def DueTwoUptoSaid : Prop := dueTwoUptoRow.holds Try.pinned (OpenSpec.upto dueTwoSpec)

/-- 'quartermasterlaw15.DueDoes', WHERE WHAT IT READS IS OF BULK AT MOST 1048576: true; the input reads as it did. -/
def dueDoesUptoRow : OpenClaim := { program := "ytghgjjpddemjkaa", sum := "00515ad067953f431ea892069aa6621b98f918ed3fb563bbb5b573cc20b0bd55", func := "quartermaster/quartermasterlaw15.DueDoes", spec := "dueDoes", unfollowed := true, recurses := true, apart := false, narrowed := true }
def DueDoesUptoSaid : Prop := dueDoesUptoRow.holds Try.pinned (OpenSpec.upto dueDoesSpec)

/-- 'quartermasterlaw15.DueOrder', WHERE WHAT IT READS IS OF BULK AT MOST 1048576: true; the input reads as it did. -/
def dueOrderUptoRow : OpenClaim := { program := "ytghgjjpddemjkaa", sum := "00515ad067953f431ea892069aa6621b98f918ed3fb563bbb5b573cc20b0bd55", func := "quartermaster/quartermasterlaw15.DueOrder", spec := "dueOrder", unfollowed := true, recurses := true, apart := false, narrowed := true }
def DueOrderUptoSaid : Prop := dueOrderUptoRow.holds Try.pinned (OpenSpec.upto dueOrderSpec)

/-- 'quartermasterlaw15.DueNone', WHERE WHAT IT READS IS OF BULK AT MOST 1048576: true; the input reads as it did. -/
def dueNoneUptoRow : OpenClaim := { program := "ytghgjjpddemjkaa", sum := "00515ad067953f431ea892069aa6621b98f918ed3fb563bbb5b573cc20b0bd55", func := "quartermaster/quartermasterlaw15.DueNone", spec := "dueNone", unfollowed := true, recurses := true, apart := false, narrowed := true }
def DueNoneUptoSaid : Prop := dueNoneUptoRow.holds Try.pinned (OpenSpec.upto dueNoneSpec)

end Rows
end Go.Proofs.Ytghgjjpddemjkaa
