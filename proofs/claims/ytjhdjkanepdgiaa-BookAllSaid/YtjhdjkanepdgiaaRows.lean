/-
  No cell of these rows narrows 'for every input' (looked for: loops, veiled, ifaces, maps, wideKeys, modest, calm, conditions, laid).
  DERIVED. THE GIVEN ROWS OF THIS SEAT. 5 by the template 'for every input the law returns true; each argument reads behind the call as it read before'; 0 by the template 'total and deterministic' (their statements: YtjhdjkanepdgiaaTotals.lean).
  GIVEN WITH THE SEED: the statements are not yours to turn. If you find one false, say at which input.
  Laid BY PROGRAM, IN A SANDBOX (cutbox-rows.mjs): the forced cells as the released guide's own fill.sh prints them over the translation 0661d3c24f7d07ed… (all of the seat's roots in one cut). By AI agents, Wed Nov 11 2026. No macro, syntax, notation, axiom, sorry.
-/
import Derived.Test.YtjhdjkanepdgiaaChecked
import GoSem.Claim
import GoSem.ClaimJoined
import GoSem.ClaimMapViews
import Derived.JoinedTies
import Derived.KernelRfl
namespace Go.Proofs.Ytjhdjkanepdgiaa
/- THE CELL 'sum', in the pinned program and in every row, IS THE sha256 OF THE DUMP (.gsa) THAT YtjhdjkanepdgiaaProg.lean LOADS. Nothing in Lean hashes anything: it is a label: what it is worth is what the hold of that sum in a sandbox is worth. -/
noncomputable def Try.pinned : Pinned := { name := "ytjhdjkanepdgiaa", sum := "0661d3c24f7d07edcdfcaea8e1e7c43636e7b67a7f249672c41258005b1bb070", checked := Try.checked }
namespace Rows
def none {H : Type} : Left H := { results := [], args := [] }

/-- 'quartermasterlaw18.BookStays': WHATEVER THE INPUT: true; the input reads as it did. -/
def bookStaysSpec : ChangeSpec := { name := "bookStays", fn := fun _ => fun
  | [d1, d2, d3, d4, d5] => { results := [.lit (.bool true)], args := [d1, d2, d3, d4, d5] }
  | _ => none }
def bookStaysRow : OpenClaim := { program := "ytjhdjkanepdgiaa", sum := "0661d3c24f7d07edcdfcaea8e1e7c43636e7b67a7f249672c41258005b1bb070", func := "quartermaster/quartermasterlaw18.BookStays", spec := "bookStays", unfollowed := true, recurses := true, apart := false }
def BookStaysSaid : Prop := bookStaysRow.holds Try.pinned (OpenSpec.ofChange bookStaysSpec)

/-- ITS FALSE NEIGHBOUR: 'it returns false'. Refute it at one input. -/
def bookStaysWrong : ChangeSpec := { name := "bookStays", fn := fun _ => fun
  | [d1, d2, d3, d4, d5] => { results := [.lit (.bool false)], args := [d1, d2, d3, d4, d5] }
  | _ => none }
def BookStaysWrongFalsely : Prop := bookStaysRow.holds Try.pinned (OpenSpec.ofChange bookStaysWrong)

/-- 'quartermasterlaw18.BookAll': WHATEVER THE INPUT: true; the input reads as it did. -/
def bookAllSpec : ChangeSpec := { name := "bookAll", fn := fun _ => fun
  | [d1, d2] => { results := [.lit (.bool true)], args := [d1, d2] }
  | _ => none }
def bookAllRow : OpenClaim := { program := "ytjhdjkanepdgiaa", sum := "0661d3c24f7d07edcdfcaea8e1e7c43636e7b67a7f249672c41258005b1bb070", func := "quartermaster/quartermasterlaw18.BookAll", spec := "bookAll", unfollowed := true, recurses := true, apart := false }
def BookAllSaid : Prop := bookAllRow.holds Try.pinned (OpenSpec.ofChange bookAllSpec)

/-- ITS FALSE NEIGHBOUR: 'it returns false'. Refute it at one input. -/
def bookAllWrong : ChangeSpec := { name := "bookAll", fn := fun _ => fun
  | [d1, d2] => { results := [.lit (.bool false)], args := [d1, d2] }
  | _ => none }
def BookAllWrongFalsely : Prop := bookAllRow.holds Try.pinned (OpenSpec.ofChange bookAllWrong)

/-- 'quartermasterlaw18.BookTells': WHATEVER THE INPUT: true; the input reads as it did. -/
def bookTellsSpec : ChangeSpec := { name := "bookTells", fn := fun _ => fun
  | [d1, d2, d3, d4, d5, d6] => { results := [.lit (.bool true)], args := [d1, d2, d3, d4, d5, d6] }
  | _ => none }
def bookTellsRow : OpenClaim := { program := "ytjhdjkanepdgiaa", sum := "0661d3c24f7d07edcdfcaea8e1e7c43636e7b67a7f249672c41258005b1bb070", func := "quartermaster/quartermasterlaw18.BookTells", spec := "bookTells", unfollowed := true, recurses := true, apart := false }
def BookTellsSaid : Prop := bookTellsRow.holds Try.pinned (OpenSpec.ofChange bookTellsSpec)

/-- ITS FALSE NEIGHBOUR: 'it returns false'. Refute it at one input. -/
def bookTellsWrong : ChangeSpec := { name := "bookTells", fn := fun _ => fun
  | [d1, d2, d3, d4, d5, d6] => { results := [.lit (.bool false)], args := [d1, d2, d3, d4, d5, d6] }
  | _ => none }
def BookTellsWrongFalsely : Prop := bookTellsRow.holds Try.pinned (OpenSpec.ofChange bookTellsWrong)

/-- 'quartermasterlaw18.BookOver': WHATEVER THE INPUT: true; the input reads as it did. -/
def bookOverSpec : ChangeSpec := { name := "bookOver", fn := fun _ => fun
  | [d1, d2] => { results := [.lit (.bool true)], args := [d1, d2] }
  | _ => none }
def bookOverRow : OpenClaim := { program := "ytjhdjkanepdgiaa", sum := "0661d3c24f7d07edcdfcaea8e1e7c43636e7b67a7f249672c41258005b1bb070", func := "quartermaster/quartermasterlaw18.BookOver", spec := "bookOver", unfollowed := true, recurses := true, apart := false }
def BookOverSaid : Prop := bookOverRow.holds Try.pinned (OpenSpec.ofChange bookOverSpec)

/-- ITS FALSE NEIGHBOUR: 'it returns false'. Refute it at one input. -/
def bookOverWrong : ChangeSpec := { name := "bookOver", fn := fun _ => fun
  | [d1, d2] => { results := [.lit (.bool false)], args := [d1, d2] }
  | _ => none }
def BookOverWrongFalsely : Prop := bookOverRow.holds Try.pinned (OpenSpec.ofChange bookOverWrong)

/-- 'quartermasterlaw18.BookApart': WHATEVER THE INPUT: true; the input reads as it did. -/
def bookApartSpec : ChangeSpec := { name := "bookApart", fn := fun _ => fun
  | [d1, d2, d3, d4, d5] => { results := [.lit (.bool true)], args := [d1, d2, d3, d4, d5] }
  | _ => none }
def bookApartRow : OpenClaim := { program := "ytjhdjkanepdgiaa", sum := "0661d3c24f7d07edcdfcaea8e1e7c43636e7b67a7f249672c41258005b1bb070", func := "quartermaster/quartermasterlaw18.BookApart", spec := "bookApart", unfollowed := true, recurses := true, apart := false }
def BookApartSaid : Prop := bookApartRow.holds Try.pinned (OpenSpec.ofChange bookApartSpec)

/-- ITS FALSE NEIGHBOUR: 'it returns false'. Refute it at one input. -/
def bookApartWrong : ChangeSpec := { name := "bookApart", fn := fun _ => fun
  | [d1, d2, d3, d4, d5] => { results := [.lit (.bool false)], args := [d1, d2, d3, d4, d5] }
  | _ => none }
def BookApartWrongFalsely : Prop := bookApartRow.holds Try.pinned (OpenSpec.ofChange bookApartWrong)

/- THE SECOND FORM. 'bulk': how many values and letters a reading holds, each counted each time it is reached (what is shared counts as often as it is met; a slice's spare places count too). A statement '..UptoSaid' is the law's where the arguments, and the package variables that the reading takes, are together of bulk at most 1048576: NARROWER than '..Said'. Prove '..Said' where nothing that the law and all that it calls make is longer than what came in: it says more and counts as full. Else prove '..UptoSaid'. A law counts once. -/
mutual
def uptoBulk {H : Type} : DataW H → Nat
  | .lit (.string bytes) => bytes.length + 1
  | .lit _ => 1
  | .nil => 1
  | .ptr d => uptoBulk d + 1
  | .slice elems spare => uptoBulkAll elems + uptoBulkAll spare + 1
  | .agg parts => uptoBulkAll parts + 1
  | .iface _ d => uptoBulk d + 1
  | .map entries => uptoBulkEntries entries + 1
  | .held _ => 1
def uptoBulkAll {H : Type} : List (DataW H) → Nat
  | [] => 0
  | d :: r => uptoBulk d + uptoBulkAll r
def uptoBulkEntries {H : Type} : List (Lit × DataW H) → Nat
  | [] => 0
  | x :: r => uptoBulkEntry x + uptoBulkEntries r
def uptoBulkEntry {H : Type} : Lit × DataW H → Nat
  | (.string bytes, d) => bytes.length + uptoBulk d + 1
  | (_, d) => uptoBulk d + 1
 end
def uptoSmall : (H : Type) → List (DataW H) → Bool := fun _ ds => decide (uptoBulkAll ds ≤ 1048576)
def OpenSpec.upto (s : _root_.Go.ChangeSpec) : _root_.Go.OpenSpec := { _root_.Go.OpenSpec.ofChange s with cond := some uptoSmall }

/-- 'quartermasterlaw18.BookStays', WHERE WHAT IT READS IS OF BULK AT MOST 1048576: true; the input reads as it did. -/
def bookStaysUptoRow : OpenClaim := { program := "ytjhdjkanepdgiaa", sum := "0661d3c24f7d07edcdfcaea8e1e7c43636e7b67a7f249672c41258005b1bb070", func := "quartermaster/quartermasterlaw18.BookStays", spec := "bookStays", unfollowed := true, recurses := true, apart := false, narrowed := true }
def BookStaysUptoSaid : Prop := bookStaysUptoRow.holds Try.pinned (OpenSpec.upto bookStaysSpec)

/-- 'quartermasterlaw18.BookAll', WHERE WHAT IT READS IS OF BULK AT MOST 1048576: true; the input reads as it did. -/
def bookAllUptoRow : OpenClaim := { program := "ytjhdjkanepdgiaa", sum := "0661d3c24f7d07edcdfcaea8e1e7c43636e7b67a7f249672c41258005b1bb070", func := "quartermaster/quartermasterlaw18.BookAll", spec := "bookAll", unfollowed := true, recurses := true, apart := false, narrowed := true }
def BookAllUptoSaid : Prop := bookAllUptoRow.holds Try.pinned (OpenSpec.upto bookAllSpec)

/-- 'quartermasterlaw18.BookTells', WHERE WHAT IT READS IS OF BULK AT MOST 1048576: true; the input reads as it did. -/
def bookTellsUptoRow : OpenClaim := { program := "ytjhdjkanepdgiaa", sum := "0661d3c24f7d07edcdfcaea8e1e7c43636e7b67a7f249672c41258005b1bb070", func := "quartermaster/quartermasterlaw18.BookTells", spec := "bookTells", unfollowed := true, recurses := true, apart := false, narrowed := true }
def BookTellsUptoSaid : Prop := bookTellsUptoRow.holds Try.pinned (OpenSpec.upto bookTellsSpec)

/-- 'quartermasterlaw18.BookOver', WHERE WHAT IT READS IS OF BULK AT MOST 1048576: true; the input reads as it did. -/
def bookOverUptoRow : OpenClaim := { program := "ytjhdjkanepdgiaa", sum := "0661d3c24f7d07edcdfcaea8e1e7c43636e7b67a7f249672c41258005b1bb070", func := "quartermaster/quartermasterlaw18.BookOver", spec := "bookOver", unfollowed := true, recurses := true, apart := false, narrowed := true }
def BookOverUptoSaid : Prop := bookOverUptoRow.holds Try.pinned (OpenSpec.upto bookOverSpec)

/-- 'quartermasterlaw18.BookApart', WHERE WHAT IT READS IS OF BULK AT MOST 1048576: true; the input reads as it did. -/
def bookApartUptoRow : OpenClaim := { program := "ytjhdjkanepdgiaa", sum := "0661d3c24f7d07edcdfcaea8e1e7c43636e7b67a7f249672c41258005b1bb070", func := "quartermaster/quartermasterlaw18.BookApart", spec := "bookApart", unfollowed := true, recurses := true, apart := false, narrowed := true }
def BookApartUptoSaid : Prop := bookApartUptoRow.holds Try.pinned (OpenSpec.upto bookApartSpec)

end Rows
end Go.Proofs.Ytjhdjkanepdgiaa
