/-
  No cell of these rows narrows 'for every input' (looked for: loops, veiled, ifaces, maps, wideKeys, modest, calm, conditions, laid).
  DERIVED. THE GIVEN ROWS OF THIS SEAT. 7 by the template 'for every input the law returns true; each argument reads behind the call as it read before'; 0 by the template 'total and deterministic' (their statements: YthckkoledhjmeaaTotals.lean).
  GIVEN WITH THE SEED: the statements are not yours to turn. If you find one false, say at which input.
  Laid BY PROGRAM, IN A SANDBOX (cutbox-rows.mjs): the forced cells as the released guide's own fill.sh prints them over the translation 653c26474c607c95… (all of the seat's roots in one cut). By AI agents, Wed Nov 11 2026. No macro, syntax, notation, axiom, sorry.
-/
import Derived.Test.YthckkoledhjmeaaChecked
import GoSem.Claim
import GoSem.ClaimJoined
import GoSem.ClaimMapViews
import Derived.JoinedTies
import Derived.KernelRfl
namespace Go.Proofs.Ythckkoledhjmeaa
/- THE CELL 'sum', in the pinned program and in every row, IS THE sha256 OF THE DUMP (.gsa) THAT YthckkoledhjmeaaProg.lean LOADS. Nothing in Lean hashes anything: it is a label: what it is worth is what the hold of that sum in a sandbox is worth. -/
noncomputable def Try.pinned : Pinned := { name := "ythckkoledhjmeaa", sum := "653c26474c607c95e67ad75199636feb46de6bcffa04e6072dbf39d85b166395", checked := Try.checked }
namespace Rows
def none {H : Type} : Left H := { results := [], args := [] }

/-- 'pacemakerlaw11.LedgerDoes': WHATEVER THE INPUT: true; the input reads as it did. -/
def ledgerDoesSpec : ChangeSpec := { name := "ledgerDoes", fn := fun _ => fun
  | [d1, d2, d3] => { results := [.lit (.bool true)], args := [d1, d2, d3] }
  | _ => none }
def ledgerDoesRow : OpenClaim := { program := "ythckkoledhjmeaa", sum := "653c26474c607c95e67ad75199636feb46de6bcffa04e6072dbf39d85b166395", func := "pacemaker/pacemakerlaw11.LedgerDoes", spec := "ledgerDoes", unfollowed := true, recurses := true, apart := false }
def LedgerDoesSaid : Prop := ledgerDoesRow.holds Try.pinned (OpenSpec.ofChange ledgerDoesSpec)

/-- ITS FALSE NEIGHBOUR: 'it returns false'. Refute it at one input. -/
def ledgerDoesWrong : ChangeSpec := { name := "ledgerDoes", fn := fun _ => fun
  | [d1, d2, d3] => { results := [.lit (.bool false)], args := [d1, d2, d3] }
  | _ => none }
def LedgerDoesWrongFalsely : Prop := ledgerDoesRow.holds Try.pinned (OpenSpec.ofChange ledgerDoesWrong)

/-- 'pacemakerlaw11.LedgerOnce': WHATEVER THE INPUT: true; the input reads as it did. -/
def ledgerOnceSpec : ChangeSpec := { name := "ledgerOnce", fn := fun _ => fun
  | [d1, d2, d3] => { results := [.lit (.bool true)], args := [d1, d2, d3] }
  | _ => none }
def ledgerOnceRow : OpenClaim := { program := "ythckkoledhjmeaa", sum := "653c26474c607c95e67ad75199636feb46de6bcffa04e6072dbf39d85b166395", func := "pacemaker/pacemakerlaw11.LedgerOnce", spec := "ledgerOnce", unfollowed := true, recurses := true, apart := false }
def LedgerOnceSaid : Prop := ledgerOnceRow.holds Try.pinned (OpenSpec.ofChange ledgerOnceSpec)

/-- ITS FALSE NEIGHBOUR: 'it returns false'. Refute it at one input. -/
def ledgerOnceWrong : ChangeSpec := { name := "ledgerOnce", fn := fun _ => fun
  | [d1, d2, d3] => { results := [.lit (.bool false)], args := [d1, d2, d3] }
  | _ => none }
def LedgerOnceWrongFalsely : Prop := ledgerOnceRow.holds Try.pinned (OpenSpec.ofChange ledgerOnceWrong)

/-- 'pacemakerlaw11.LedgerFull': WHATEVER THE INPUT: true; the input reads as it did. -/
def ledgerFullSpec : ChangeSpec := { name := "ledgerFull", fn := fun _ => fun
  | [d1, d2, d3, d4] => { results := [.lit (.bool true)], args := [d1, d2, d3, d4] }
  | _ => none }
def ledgerFullRow : OpenClaim := { program := "ythckkoledhjmeaa", sum := "653c26474c607c95e67ad75199636feb46de6bcffa04e6072dbf39d85b166395", func := "pacemaker/pacemakerlaw11.LedgerFull", spec := "ledgerFull", unfollowed := true, recurses := true, apart := false }
def LedgerFullSaid : Prop := ledgerFullRow.holds Try.pinned (OpenSpec.ofChange ledgerFullSpec)

/-- ITS FALSE NEIGHBOUR: 'it returns false'. Refute it at one input. -/
def ledgerFullWrong : ChangeSpec := { name := "ledgerFull", fn := fun _ => fun
  | [d1, d2, d3, d4] => { results := [.lit (.bool false)], args := [d1, d2, d3, d4] }
  | _ => none }
def LedgerFullWrongFalsely : Prop := ledgerFullRow.holds Try.pinned (OpenSpec.ofChange ledgerFullWrong)

/-- 'pacemakerlaw11.LedgerTimes': WHATEVER THE INPUT: true; the input reads as it did. -/
def ledgerTimesSpec : ChangeSpec := { name := "ledgerTimes", fn := fun _ => fun
  | [d1, d2, d3, d4] => { results := [.lit (.bool true)], args := [d1, d2, d3, d4] }
  | _ => none }
def ledgerTimesRow : OpenClaim := { program := "ythckkoledhjmeaa", sum := "653c26474c607c95e67ad75199636feb46de6bcffa04e6072dbf39d85b166395", func := "pacemaker/pacemakerlaw11.LedgerTimes", spec := "ledgerTimes", unfollowed := true, recurses := true, apart := false }
def LedgerTimesSaid : Prop := ledgerTimesRow.holds Try.pinned (OpenSpec.ofChange ledgerTimesSpec)

/-- ITS FALSE NEIGHBOUR: 'it returns false'. Refute it at one input. -/
def ledgerTimesWrong : ChangeSpec := { name := "ledgerTimes", fn := fun _ => fun
  | [d1, d2, d3, d4] => { results := [.lit (.bool false)], args := [d1, d2, d3, d4] }
  | _ => none }
def LedgerTimesWrongFalsely : Prop := ledgerTimesRow.holds Try.pinned (OpenSpec.ofChange ledgerTimesWrong)

/-- 'pacemakerlaw12.BooksSums': WHATEVER THE INPUT: true; the input reads as it did. -/
def booksSumsSpec : ChangeSpec := { name := "booksSums", fn := fun _ => fun
  | [d1, d2, d3, d4] => { results := [.lit (.bool true)], args := [d1, d2, d3, d4] }
  | _ => none }
def booksSumsRow : OpenClaim := { program := "ythckkoledhjmeaa", sum := "653c26474c607c95e67ad75199636feb46de6bcffa04e6072dbf39d85b166395", func := "pacemaker/pacemakerlaw12.BooksSums", spec := "booksSums", unfollowed := true, recurses := true, apart := false }
def BooksSumsSaid : Prop := booksSumsRow.holds Try.pinned (OpenSpec.ofChange booksSumsSpec)

/-- ITS FALSE NEIGHBOUR: 'it returns false'. Refute it at one input. -/
def booksSumsWrong : ChangeSpec := { name := "booksSums", fn := fun _ => fun
  | [d1, d2, d3, d4] => { results := [.lit (.bool false)], args := [d1, d2, d3, d4] }
  | _ => none }
def BooksSumsWrongFalsely : Prop := booksSumsRow.holds Try.pinned (OpenSpec.ofChange booksSumsWrong)

/-- 'pacemakerlaw12.BooksDoes': WHATEVER THE INPUT: true; the input reads as it did. -/
def booksDoesSpec : ChangeSpec := { name := "booksDoes", fn := fun _ => fun
  | [d1, d2, d3, d4] => { results := [.lit (.bool true)], args := [d1, d2, d3, d4] }
  | _ => none }
def booksDoesRow : OpenClaim := { program := "ythckkoledhjmeaa", sum := "653c26474c607c95e67ad75199636feb46de6bcffa04e6072dbf39d85b166395", func := "pacemaker/pacemakerlaw12.BooksDoes", spec := "booksDoes", unfollowed := true, recurses := true, apart := false }
def BooksDoesSaid : Prop := booksDoesRow.holds Try.pinned (OpenSpec.ofChange booksDoesSpec)

/-- ITS FALSE NEIGHBOUR: 'it returns false'. Refute it at one input. -/
def booksDoesWrong : ChangeSpec := { name := "booksDoes", fn := fun _ => fun
  | [d1, d2, d3, d4] => { results := [.lit (.bool false)], args := [d1, d2, d3, d4] }
  | _ => none }
def BooksDoesWrongFalsely : Prop := booksDoesRow.holds Try.pinned (OpenSpec.ofChange booksDoesWrong)

/-- 'pacemakerlaw12.BooksCloses': WHATEVER THE INPUT: true; the input reads as it did. -/
def booksClosesSpec : ChangeSpec := { name := "booksCloses", fn := fun _ => fun
  | [d1, d2, d3, d4] => { results := [.lit (.bool true)], args := [d1, d2, d3, d4] }
  | _ => none }
def booksClosesRow : OpenClaim := { program := "ythckkoledhjmeaa", sum := "653c26474c607c95e67ad75199636feb46de6bcffa04e6072dbf39d85b166395", func := "pacemaker/pacemakerlaw12.BooksCloses", spec := "booksCloses", unfollowed := true, recurses := true, apart := false }
def BooksClosesSaid : Prop := booksClosesRow.holds Try.pinned (OpenSpec.ofChange booksClosesSpec)

/-- ITS FALSE NEIGHBOUR: 'it returns false'. Refute it at one input. -/
def booksClosesWrong : ChangeSpec := { name := "booksCloses", fn := fun _ => fun
  | [d1, d2, d3, d4] => { results := [.lit (.bool false)], args := [d1, d2, d3, d4] }
  | _ => none }
def BooksClosesWrongFalsely : Prop := booksClosesRow.holds Try.pinned (OpenSpec.ofChange booksClosesWrong)

/- THE SECOND FORM. 'bulk': how many values and letters a reading holds, each counted each time it is reached (what is shared counts as often as it is met; a slice's spare places count too). A statement '..UptoSaid' is the law's where the arguments, and the package variables that the reading takes, are together of bulk at most 1048576: NARROWER than '..Said'. Prove '..Said' where nothing that the law and all that it calls make is longer than what came in: it says more and counts as full. Else prove '..UptoSaid'. A law counts once. -/
mutual
def uptoBulk {H : Type} : DataW H → Nat
  | .lit (.string bytes) => bytes.length + 1
  | .lit _ => 1
  | .nil => 1
  | .ptr d => uptoBulk d + 1
  | .slice elems spare => uptoBulkAll elems + uptoBulkAll spare + 1
  | .agg parts => uptoBulkAll parts + 1
  | .iface _ d => uptoBulk d + 1
  | .map entries => uptoBulkEntries entries + 1
  | .held _ => 1
def uptoBulkAll {H : Type} : List (DataW H) → Nat
  | [] => 0
  | d :: r => uptoBulk d + uptoBulkAll r
def uptoBulkEntries {H : Type} : List (Lit × DataW H) → Nat
  | [] => 0
  | x :: r => uptoBulkEntry x + uptoBulkEntries r
def uptoBulkEntry {H : Type} : Lit × DataW H → Nat
  | (.string bytes, d) => bytes.length + uptoBulk d + 1
  | (_, d) => uptoBulk d + 1
 end
def uptoSmall : (H : Type) → List (DataW H) → Bool := fun _ ds => decide (uptoBulkAll ds ≤ 1048576)
def OpenSpec.upto (s : _root_.Go.ChangeSpec) : _root_.Go.OpenSpec := { _root_.Go.OpenSpec.ofChange s with cond := some uptoSmall }

/-- 'pacemakerlaw11.LedgerDoes', WHERE WHAT IT READS IS OF BULK AT MOST 1048576: true; the input reads as it did. -/
def ledgerDoesUptoRow : OpenClaim := { program := "ythckkoledhjmeaa", sum := "653c26474c607c95e67ad75199636feb46de6bcffa04e6072dbf39d85b166395", func := "pacemaker/pacemakerlaw11.LedgerDoes", spec := "ledgerDoes", unfollowed := true, recurses := true, apart := false, narrowed := true }
def LedgerDoesUptoSaid : Prop := ledgerDoesUptoRow.holds Try.pinned (OpenSpec.upto ledgerDoesSpec)

/-- 'pacemakerlaw11.LedgerOnce', WHERE WHAT IT READS IS OF BULK AT MOST 1048576: true; the input reads as it did. -/
def ledgerOnceUptoRow : OpenClaim := { program := "ythckkoledhjmeaa", sum := "653c26474c607c95e67ad75199636feb46de6bcffa04e6072dbf39d85b166395", func := "pacemaker/pacemakerlaw11.LedgerOnce", spec := "ledgerOnce", unfollowed := true, recurses := true, apart := false, narrowed := true }
def LedgerOnceUptoSaid : Prop := ledgerOnceUptoRow.holds Try.pinned (OpenSpec.upto ledgerOnceSpec)

/-- 'pacemakerlaw11.LedgerFull', WHERE WHAT IT READS IS OF BULK AT MOST 1048576: true; the input reads as it did. -/
def ledgerFullUptoRow : OpenClaim := { program := "ythckkoledhjmeaa", sum := "653c26474c607c95e67ad75199636feb46de6bcffa04e6072dbf39d85b166395", func := "pacemaker/pacemakerlaw11.LedgerFull", spec := "ledgerFull", unfollowed := true, recurses := true, apart := false, narrowed := true }
def LedgerFullUptoSaid : Prop := ledgerFullUptoRow.holds Try.pinned (OpenSpec.upto ledgerFullSpec)

/-- 'pacemakerlaw11.LedgerTimes', WHERE WHAT IT READS IS OF BULK AT MOST 1048576: true; the input reads as it did. -/
def ledgerTimesUptoRow : OpenClaim := { program := "ythckkoledhjmeaa", sum := "653c26474c607c95e67ad75199636feb46de6bcffa04e6072dbf39d85b166395", func := "pacemaker/pacemakerlaw11.LedgerTimes", spec := "ledgerTimes", unfollowed := true, recurses := true, apart := false, narrowed := true }
def LedgerTimesUptoSaid : Prop := ledgerTimesUptoRow.holds Try.pinned (OpenSpec.upto ledgerTimesSpec)

/-- 'pacemakerlaw12.BooksSums', WHERE WHAT IT READS IS OF BULK AT MOST 1048576: true; the input reads as it did. -/
def booksSumsUptoRow : OpenClaim := { program := "ythckkoledhjmeaa", sum := "653c26474c607c95e67ad75199636feb46de6bcffa04e6072dbf39d85b166395", func := "pacemaker/pacemakerlaw12.BooksSums", spec := "booksSums", unfollowed := true, recurses := true, apart := false, narrowed := true }
def BooksSumsUptoSaid : Prop := booksSumsUptoRow.holds Try.pinned (OpenSpec.upto booksSumsSpec)

/-- 'pacemakerlaw12.BooksDoes', WHERE WHAT IT READS IS OF BULK AT MOST 1048576: true; the input reads as it did. -/
def booksDoesUptoRow : OpenClaim := { program := "ythckkoledhjmeaa", sum := "653c26474c607c95e67ad75199636feb46de6bcffa04e6072dbf39d85b166395", func := "pacemaker/pacemakerlaw12.BooksDoes", spec := "booksDoes", unfollowed := true, recurses := true, apart := false, narrowed := true }
def BooksDoesUptoSaid : Prop := booksDoesUptoRow.holds Try.pinned (OpenSpec.upto booksDoesSpec)

/-- 'pacemakerlaw12.BooksCloses', WHERE WHAT IT READS IS OF BULK AT MOST 1048576: true; the input reads as it did. -/
def booksClosesUptoRow : OpenClaim := { program := "ythckkoledhjmeaa", sum := "653c26474c607c95e67ad75199636feb46de6bcffa04e6072dbf39d85b166395", func := "pacemaker/pacemakerlaw12.BooksCloses", spec := "booksCloses", unfollowed := true, recurses := true, apart := false, narrowed := true }
def BooksClosesUptoSaid : Prop := booksClosesUptoRow.holds Try.pinned (OpenSpec.upto booksClosesSpec)

end Rows
end Go.Proofs.Ythckkoledhjmeaa
