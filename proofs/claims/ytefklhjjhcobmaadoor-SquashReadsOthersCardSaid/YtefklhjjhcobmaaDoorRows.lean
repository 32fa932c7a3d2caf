/-
  NARROWER THAN 'FOR EVERY INPUT', by the rows' own cells (each row's printed sentence says how): FtextPatternsMatch: laid · SquashUnpackMatches: laid · SquashReadsOthers: laid.
  DERIVED. THE GIVEN ROWS OF THIS SEAT. 3 by the template 'for every input the law returns true; each argument reads behind the call as it read before'; 0 by the template 'total and deterministic' (their statements: YtefklhjjhcobmaaDoorTotals.lean).
  GIVEN WITH THE SEED: the statements are not yours to turn. If you find one false, say at which input.
  Laid BY PROGRAM, IN A SANDBOX (cutbox-rows.mjs): the forced cells as the released guide's own fill.sh prints them over the translation 3b366cd3e2f66b49… (all of the seat's roots in one cut). By AI agents, Wed Nov 11 2026. No macro, syntax, notation, axiom, sorry.
-/
import Derived.Test.YtefklhjjhcobmaaDoorChecked
import GoSem.PinnedTables
import GoSem.Claim
import GoSem.ClaimJoined
import GoSem.ClaimMapViews
import Derived.JoinedTies
import Derived.KernelRfl
namespace Go.Proofs.YtefklhjjhcobmaaDoor
/- THE CELL 'sum', in the pinned program and in every row, IS THE sha256 OF THE DUMP (.gsa) THAT YtefklhjjhcobmaaDoorProg.lean LOADS. Nothing in Lean hashes anything: it is a label: what it is worth is what the hold of that sum in a sandbox is worth. -/
noncomputable def Tryd.pinned : Pinned := { name := "ytefklhjjhcobmaadoor", sum := "3b366cd3e2f66b4938aa9e472a04a1bfd16f2171fc7446c875ee7d2f206b1356", checked := Tryd.checked }
namespace Rows
def none {H : Type} : Left H := { results := [], args := [] }

/- WHAT THE LISTED PACKAGE-LEVEL VARIABLES READ AS WHEN THE CALL BEGINS. Each datum BY PROGRAM (the guide's laid-datum.mjs) off the statement by which the dump's own 'gosem.cut.vars' lays the variable. In a bare row this is a premise. The card (YtefklhjjhcobmaaDoorCards.lean) ties it to the program's text. -/
def laid_unicode_utf8_acceptRanges {H : Type} : DataW H := .agg [.agg [.lit (.int .u8 128), .lit (.int .u8 191)], .agg [.lit (.int .u8 160), .lit (.int .u8 191)], .agg [.lit (.int .u8 128), .lit (.int .u8 159)], .agg [.lit (.int .u8 144), .lit (.int .u8 191)], .agg [.lit (.int .u8 128), .lit (.int .u8 143)], .agg [.lit (.int .u8 0), .lit (.int .u8 0)], .agg [.lit (.int .u8 0), .lit (.int .u8 0)], .agg [.lit (.int .u8 0), .lit (.int .u8 0)], .agg [.lit (.int .u8 0), .lit (.int .u8 0)], .agg [.lit (.int .u8 0), .lit (.int .u8 0)], .agg [.lit (.int .u8 0), .lit (.int .u8 0)], .agg [.lit (.int .u8 0), .lit (.int .u8 0)], .agg [.lit (.int .u8 0), .lit (.int .u8 0)], .agg [.lit (.int .u8 0), .lit (.int .u8 0)], .agg [.lit (.int .u8 0), .lit (.int .u8 0)], .agg [.lit (.int .u8 0), .lit (.int .u8 0)]]
/-- One of Go's own tables, pinned by name: the form's constant. -/
def laid_unicode_utf8_first : DataW Unit := Go.Pinned.utf8First
def laid_chancery_squash_bases {H : Type} : DataW H := .agg [.lit (.int .i64 11), .lit (.int .i64 13), .lit (.int .i64 17), .lit (.int .i64 25), .lit (.int .i64 41), .lit (.int .i64 73), .lit (.int .i64 137), .lit (.int .i64 265)]

/-- 'chancerylaw2.FtextPatternsMatch': WHATEVER THE INPUT: true; the input reads as it did. -/
def ftextPatternsMatchSpec : ChangeSpec := { name := "ftextPatternsMatch", fn := fun _ => fun
  | [d1, d2] => { results := [.lit (.bool true)], args := [d1, d2] }
  | _ => none }
def ftextPatternsMatchRow : OpenClaim := { program := "ytefklhjjhcobmaadoor", sum := "3b366cd3e2f66b4938aa9e472a04a1bfd16f2171fc7446c875ee7d2f206b1356", func := "chancery/chancerylaw2.FtextPatternsMatch", spec := "ftextPatternsMatch", named := ["unicode/utf8.first", "unicode/utf8.acceptRanges"], apart := false, laid := [("unicode/utf8.acceptRanges", laid_unicode_utf8_acceptRanges), ("unicode/utf8.first", laid_unicode_utf8_first)] }
def FtextPatternsMatchSaid : Prop := ftextPatternsMatchRow.holds Tryd.pinned (OpenSpec.ofChange ftextPatternsMatchSpec)

/-- ITS FALSE NEIGHBOUR: 'it returns false'. Refute it at one input. -/
def ftextPatternsMatchWrong : ChangeSpec := { name := "ftextPatternsMatch", fn := fun _ => fun
  | [d1, d2] => { results := [.lit (.bool false)], args := [d1, d2] }
  | _ => none }
def FtextPatternsMatchWrongFalsely : Prop := ftextPatternsMatchRow.holds Tryd.pinned (OpenSpec.ofChange ftextPatternsMatchWrong)

/-- 'chancerylaw2.SquashUnpackMatches': WHATEVER THE INPUT: true; the input reads as it did. -/
def squashUnpackMatchesSpec : ChangeSpec := { name := "squashUnpackMatches", fn := fun _ => fun
  | [d1, d2] => { results := [.lit (.bool true)], args := [d1, d2] }
  | _ => none }
def squashUnpackMatchesRow : OpenClaim := { program := "ytefklhjjhcobmaadoor", sum := "3b366cd3e2f66b4938aa9e472a04a1bfd16f2171fc7446c875ee7d2f206b1356", func := "chancery/chancerylaw2.SquashUnpackMatches", spec := "squashUnpackMatches", recurses := true, named := ["chancery/squash.bases"], apart := false, laid := [("chancery/squash.bases", laid_chancery_squash_bases)] }
def SquashUnpackMatchesSaid : Prop := squashUnpackMatchesRow.holds Tryd.pinned (OpenSpec.ofChange squashUnpackMatchesSpec)

/-- ITS FALSE NEIGHBOUR: 'it returns false'. Refute it at one input. -/
def squashUnpackMatchesWrong : ChangeSpec := { name := "squashUnpackMatches", fn := fun _ => fun
  | [d1, d2] => { results := [.lit (.bool false)], args := [d1, d2] }
  | _ => none }
def SquashUnpackMatchesWrongFalsely : Prop := squashUnpackMatchesRow.holds Tryd.pinned (OpenSpec.ofChange squashUnpackMatchesWrong)

/-- 'chancerylaw2.SquashReadsOthers': WHATEVER THE INPUT: true; the input reads as it did. -/
def squashReadsOthersSpec : ChangeSpec := { name := "squashReadsOthers", fn := fun _ => fun
  | [d] => { results := [.lit (.bool true)], args := [d] }
  | _ => none }
def squashReadsOthersRow : OpenClaim := { program := "ytefklhjjhcobmaadoor", sum := "3b366cd3e2f66b4938aa9e472a04a1bfd16f2171fc7446c875ee7d2f206b1356", func := "chancery/chancerylaw2.SquashReadsOthers", spec := "squashReadsOthers", unfollowed := true, recurses := true, named := ["chancery/squash.bases"], apart := false, laid := [("chancery/squash.bases", laid_chancery_squash_bases)] }
def SquashReadsOthersSaid : Prop := squashReadsOthersRow.holds Tryd.pinned (OpenSpec.ofChange squashReadsOthersSpec)

/-- ITS FALSE NEIGHBOUR: 'it returns false'. Refute it at one input. -/
def squashReadsOthersWrong : ChangeSpec := { name := "squashReadsOthers", fn := fun _ => fun
  | [d] => { results := [.lit (.bool false)], args := [d] }
  | _ => none }
def SquashReadsOthersWrongFalsely : Prop := squashReadsOthersRow.holds Tryd.pinned (OpenSpec.ofChange squashReadsOthersWrong)

/- THE SECOND FORM. 'bulk': how many values and letters a reading holds, each counted each time it is reached (what is shared counts as often as it is met; a slice's spare places count too). A statement '..UptoSaid' is the law's where the arguments, and the package variables that the reading takes, are together of bulk at most 1048576: NARROWER than '..Said'. Prove '..Said' where nothing that the law and all that it calls make is longer than what came in: it says more and counts as full. Else prove '..UptoSaid'. A law counts once. -/
mutual
def uptoBulk {H : Type} : DataW H → Nat
  | .lit (.string bytes) => bytes.length + 1
  | .lit _ => 1
  | .nil => 1
  | .ptr d => uptoBulk d + 1
  | .slice elems spare => uptoBulkAll elems + uptoBulkAll spare + 1
  | .agg parts => uptoBulkAll parts + 1
  | .iface _ d => uptoBulk d + 1
  | .map entries => uptoBulkEntries entries + 1
  | .held _ => 1
def uptoBulkAll {H : Type} : List (DataW H) → Nat
  | [] => 0
  | d :: r => uptoBulk d + uptoBulkAll r
def uptoBulkEntries {H : Type} : List (Lit × DataW H) → Nat
  | [] => 0
  | x :: r => uptoBulkEntry x + uptoBulkEntries r
def uptoBulkEntry {H : Type} : Lit × DataW H → Nat
  | (.string bytes, d) => bytes.length + uptoBulk d + 1
  | (_, d) => uptoBulk d + 1
 end
def uptoSmall : (H : Type) → List (DataW H) → Bool := fun _ ds => decide (uptoBulkAll ds ≤ 1048576)
def OpenSpec.upto (s : _root_.Go.ChangeSpec) : _root_.Go.OpenSpec := { _root_.Go.OpenSpec.ofChange s with cond := some uptoSmall }

/-- 'chancerylaw2.FtextPatternsMatch', WHERE WHAT IT READS IS OF BULK AT MOST 1048576: true; the input reads as it did. -/
def ftextPatternsMatchUptoRow : OpenClaim := { program := "ytefklhjjhcobmaadoor", sum := "3b366cd3e2f66b4938aa9e472a04a1bfd16f2171fc7446c875ee7d2f206b1356", func := "chancery/chancerylaw2.FtextPatternsMatch", spec := "ftextPatternsMatch", named := ["unicode/utf8.first", "unicode/utf8.acceptRanges"], apart := false, laid := [("unicode/utf8.acceptRanges", laid_unicode_utf8_acceptRanges), ("unicode/utf8.first", laid_unicode_utf8_first)], narrowed := true }
def FtextPatternsMatchUptoSaid : Prop := ftextPatternsMatchUptoRow.holds Tryd.pinned (OpenSpec.upto ftextPatternsMatchSpec)

/-- 'chancerylaw2.SquashUnpackMatches', WHERE WHAT IT READS IS OF BULK AT MOST 1048576: true; the input reads as it did. -/
def squashUnpackMatchesUptoRow : OpenClaim := { program := "ytefklhjjhcobmaadoor", sum := "3b366cd3e2f66b4938aa9e472a04a1bfd16f2171fc7446c875ee7d2f206b1356", func := "chancery/chancerylaw2.SquashUnpackMatches", spec := "squashUnpackMatches", recurses := true, named := ["chancery/squash.bases"], apart := false, laid := [("chancery/squash.bases", laid_chancery_squash_bases)], narrowed := true }
def SquashUnpackMatchesUptoSaid : Prop := squashUnpackMatchesUptoRow.holds Tryd.pinned (OpenSpec.upto squashUnpackMatchesSpec)

/-- 'chancerylaw2.SquashReadsOthers', WHERE WHAT IT READS IS OF BULK AT MOST 1048576: true; the input reads as it did. -/
def squashReadsOthersUptoRow : OpenClaim := { program := "ytefklhjjhcobmaadoor", sum := "3b366cd3e2f66b4938aa9e472a04a1bfd16f2171fc7446c875ee7d2f206b1356", func := "chancery/chancerylaw2.SquashReadsOthers", spec := "squashReadsOthers", unfollowed := true, recurses := true, named := ["chancery/squash.bases"], apart := false, laid := [("chancery/squash.bases", laid_chancery_squash_bases)], narrowed := true }
def SquashReadsOthersUptoSaid : Prop := squashReadsOthersUptoRow.holds Tryd.pinned (OpenSpec.upto squashReadsOthersSpec)

end Rows
end Go.Proofs.YtefklhjjhcobmaaDoor
