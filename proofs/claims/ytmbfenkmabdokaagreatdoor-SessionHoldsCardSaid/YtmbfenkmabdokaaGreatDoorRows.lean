/-
  NARROWER THAN 'FOR EVERY INPUT', by the rows' own cells (each row's printed sentence says how): SessionCookies: laid · SessionHolds: laid · SessionEnds: laid · SessionApart: laid · SessionRoles: laid · SessionPlays: laid.
  DERIVED. THE GIVEN ROWS OF THIS SEAT. 6 by the template 'for every input the law returns true; each argument reads behind the call as it read before'; 0 by the template 'total and deterministic' (their statements: YtmbfenkmabdokaaGreatDoorTotals.lean).
  GIVEN WITH THE SEED: the statements are not yours to turn. If you find one false, say at which input.
  Laid BY PROGRAM, IN A SANDBOX (cutbox-rows.mjs): the forced cells as the released guide's own fill.sh prints them over the translation b35b7764c3fbe0f2… (all of the seat's roots in one cut). By AI agents, Wed Nov 11 2026. No macro, syntax, notation, axiom, sorry.
-/
import Derived.Test.YtmbfenkmabdokaaGreatDoorChecked
import GoSem.PinnedTables
import GoSem.Claim
import GoSem.ClaimJoined
import GoSem.ClaimMapViews
import Derived.JoinedTies
import Derived.KernelRfl
namespace Go.Proofs.YtmbfenkmabdokaaGreatDoor
/- THE CELL 'sum', in the pinned program and in every row, IS THE sha256 OF THE DUMP (.gsa) THAT YtmbfenkmabdokaaGreatDoorProg.lean LOADS. Nothing in Lean hashes anything: it is a label: what it is worth is what the hold of that sum in a sandbox is worth. -/
noncomputable def Tryz.pinned : Pinned := { name := "ytmbfenkmabdokaagreatdoor", sum := "b35b7764c3fbe0f20ff0a538698f8b6e7618d7ac718dcf39e71ff2af8e2556cb", checked := Tryz.checked }
namespace Rows
def none {H : Type} : Left H := { results := [], args := [] }

/- WHAT THE LISTED PACKAGE-LEVEL VARIABLES READ AS WHEN THE CALL BEGINS. Each datum BY PROGRAM (the guide's laid-datum.mjs) off the statement by which the dump's own 'gosem.cut.vars' lays the variable. In a bare row this is a premise. The card (YtmbfenkmabdokaaGreatDoorCards.lean) ties it to the program's text. -/
def laid_unicode_utf8_acceptRanges {H : Type} : DataW H := .agg [.agg [.lit (.int .u8 128), .lit (.int .u8 191)], .agg [.lit (.int .u8 160), .lit (.int .u8 191)], .agg [.lit (.int .u8 128), .lit (.int .u8 159)], .agg [.lit (.int .u8 144), .lit (.int .u8 191)], .agg [.lit (.int .u8 128), .lit (.int .u8 143)], .agg [.lit (.int .u8 0), .lit (.int .u8 0)], .agg [.lit (.int .u8 0), .lit (.int .u8 0)], .agg [.lit (.int .u8 0), .lit (.int .u8 0)], .agg [.lit (.int .u8 0), .lit (.int .u8 0)], .agg [.lit (.int .u8 0), .lit (.int .u8 0)], .agg [.lit (.int .u8 0), .lit (.int .u8 0)], .agg [.lit (.int .u8 0), .lit (.int .u8 0)], .agg [.lit (.int .u8 0), .lit (.int .u8 0)], .agg [.lit (.int .u8 0), .lit (.int .u8 0)], .agg [.lit (.int .u8 0), .lit (.int .u8 0)], .agg [.lit (.int .u8 0), .lit (.int .u8 0)]]
def laid_blotter_sum_nibbles {H : Type} : DataW H := .agg [.lit (.int .u32 0), .lit (.int .u32 498536548), .lit (.int .u32 997073096), .lit (.int .u32 651767980), .lit (.int .u32 1994146192), .lit (.int .u32 1802195444), .lit (.int .u32 1303535960), .lit (.int .u32 1342533948), .lit (.int .u32 3988292384), .lit (.int .u32 4027552580), .lit (.int .u32 3604390888), .lit (.int .u32 3412177804), .lit (.int .u32 2607071920), .lit (.int .u32 2262029012), .lit (.int .u32 2685067896), .lit (.int .u32 3183342108)]
/-- One of Go's own tables, pinned by name: the form's constant. -/
def laid_unicode_utf8_first : DataW Unit := Go.Pinned.utf8First

/-- 'blotterlaw19.SessionCookies': WHATEVER THE INPUT: true; the input reads as it did. -/
def sessionCookiesSpec : ChangeSpec := { name := "sessionCookies", fn := fun _ => fun
  | [d1, d2, d3, d4] => { results := [.lit (.bool true)], args := [d1, d2, d3, d4] }
  | _ => none }
def sessionCookiesRow : OpenClaim := { program := "ytmbfenkmabdokaagreatdoor", sum := "b35b7764c3fbe0f20ff0a538698f8b6e7618d7ac718dcf39e71ff2af8e2556cb", func := "blotter/blotterlaw19.SessionCookies", spec := "sessionCookies", inPlace := ["internal/abi.NoEscape", "internal/reflectlite.TypeOf", "internal/bytealg.abigen_runtime_cmpstring", "slices.overlaps[blotter/tree.item]", "slices.overlaps[int]", "slices.overlaps[string]", "internal/bytealg.CountString", "internal/bytealg.IndexByteString", "internal/bytealg.IndexString", "internal/bytealg.MakeNoZero"], unfollowed := true, recurses := true, named := ["blotter/sum.nibbles", "internal/bytealg.MaxLen", "unicode/utf8.first", "unicode/utf8.acceptRanges"], apart := false, laid := [("unicode/utf8.acceptRanges", laid_unicode_utf8_acceptRanges), ("blotter/sum.nibbles", laid_blotter_sum_nibbles), ("unicode/utf8.first", laid_unicode_utf8_first)] }
def SessionCookiesSaid : Prop := sessionCookiesRow.holds Tryz.pinned (OpenSpec.ofChange sessionCookiesSpec)

/-- ITS FALSE NEIGHBOUR: 'it returns false'. Refute it at one input. -/
def sessionCookiesWrong : ChangeSpec := { name := "sessionCookies", fn := fun _ => fun
  | [d1, d2, d3, d4] => { results := [.lit (.bool false)], args := [d1, d2, d3, d4] }
  | _ => none }
def SessionCookiesWrongFalsely : Prop := sessionCookiesRow.holds Tryz.pinned (OpenSpec.ofChange sessionCookiesWrong)

/-- 'blotterlaw19.SessionHolds': WHATEVER THE INPUT: true; the input reads as it did. -/
def sessionHoldsSpec : ChangeSpec := { name := "sessionHolds", fn := fun _ => fun
  | [d1, d2, d3, d4, d5] => { results := [.lit (.bool true)], args := [d1, d2, d3, d4, d5] }
  | _ => none }
def sessionHoldsRow : OpenClaim := { program := "ytmbfenkmabdokaagreatdoor", sum := "b35b7764c3fbe0f20ff0a538698f8b6e7618d7ac718dcf39e71ff2af8e2556cb", func := "blotter/blotterlaw19.SessionHolds", spec := "sessionHolds", inPlace := ["internal/abi.NoEscape", "internal/reflectlite.TypeOf", "internal/bytealg.abigen_runtime_cmpstring", "slices.overlaps[blotter/tree.item]", "slices.overlaps[int]", "slices.overlaps[string]", "internal/bytealg.CountString", "internal/bytealg.IndexByteString", "internal/bytealg.IndexString", "internal/bytealg.MakeNoZero"], unfollowed := true, recurses := true, named := ["blotter/sum.nibbles", "internal/bytealg.MaxLen", "unicode/utf8.first", "unicode/utf8.acceptRanges"], apart := false, laid := [("unicode/utf8.acceptRanges", laid_unicode_utf8_acceptRanges), ("blotter/sum.nibbles", laid_blotter_sum_nibbles), ("unicode/utf8.first", laid_unicode_utf8_first)] }
def SessionHoldsSaid : Prop := sessionHoldsRow.holds Tryz.pinned (OpenSpec.ofChange sessionHoldsSpec)

/-- ITS FALSE NEIGHBOUR: 'it returns false'. Refute it at one input. -/
def sessionHoldsWrong : ChangeSpec := { name := "sessionHolds", fn := fun _ => fun
  | [d1, d2, d3, d4, d5] => { results := [.lit (.bool false)], args := [d1, d2, d3, d4, d5] }
  | _ => none }
def SessionHoldsWrongFalsely : Prop := sessionHoldsRow.holds Tryz.pinned (OpenSpec.ofChange sessionHoldsWrong)

/-- 'blotterlaw19.SessionEnds': WHATEVER THE INPUT: true; the input reads as it did. -/
def sessionEndsSpec : ChangeSpec := { name := "sessionEnds", fn := fun _ => fun
  | [d1, d2, d3] => { results := [.lit (.bool true)], args := [d1, d2, d3] }
  | _ => none }
def sessionEndsRow : OpenClaim := { program := "ytmbfenkmabdokaagreatdoor", sum := "b35b7764c3fbe0f20ff0a538698f8b6e7618d7ac718dcf39e71ff2af8e2556cb", func := "blotter/blotterlaw19.SessionEnds", spec := "sessionEnds", inPlace := ["internal/abi.NoEscape", "internal/reflectlite.TypeOf", "internal/bytealg.abigen_runtime_cmpstring", "slices.overlaps[blotter/tree.item]", "slices.overlaps[int]", "slices.overlaps[string]", "internal/bytealg.CountString", "internal/bytealg.IndexByteString", "internal/bytealg.IndexString", "internal/bytealg.MakeNoZero"], unfollowed := true, recurses := true, named := ["blotter/sum.nibbles", "internal/bytealg.MaxLen", "unicode/utf8.first", "unicode/utf8.acceptRanges"], apart := false, laid := [("unicode/utf8.acceptRanges", laid_unicode_utf8_acceptRanges), ("blotter/sum.nibbles", laid_blotter_sum_nibbles), ("unicode/utf8.first", laid_unicode_utf8_first)] }
def SessionEndsSaid : Prop := sessionEndsRow.holds Tryz.pinned (OpenSpec.ofChange sessionEndsSpec)

/-- ITS FALSE NEIGHBOUR: 'it returns false'. Refute it at one input. -/
def sessionEndsWrong : ChangeSpec := { name := "sessionEnds", fn := fun _ => fun
  | [d1, d2, d3] => { results := [.lit (.bool false)], args := [d1, d2, d3] }
  | _ => none }
def SessionEndsWrongFalsely : Prop := sessionEndsRow.holds Tryz.pinned (OpenSpec.ofChange sessionEndsWrong)

/-- 'blotterlaw19.SessionApart': WHATEVER THE INPUT: true; the input reads as it did. -/
def sessionApartSpec : ChangeSpec := { name := "sessionApart", fn := fun _ => fun
  | [d1, d2] => { results := [.lit (.bool true)], args := [d1, d2] }
  | _ => none }
def sessionApartRow : OpenClaim := { program := "ytmbfenkmabdokaagreatdoor", sum := "b35b7764c3fbe0f20ff0a538698f8b6e7618d7ac718dcf39e71ff2af8e2556cb", func := "blotter/blotterlaw19.SessionApart", spec := "sessionApart", inPlace := ["internal/abi.NoEscape", "internal/reflectlite.TypeOf", "internal/bytealg.abigen_runtime_cmpstring", "slices.overlaps[blotter/tree.item]", "slices.overlaps[int]", "slices.overlaps[string]", "internal/bytealg.CountString", "internal/bytealg.IndexByteString", "internal/bytealg.IndexString", "internal/bytealg.MakeNoZero"], unfollowed := true, recurses := true, named := ["blotter/sum.nibbles", "internal/bytealg.MaxLen", "unicode/utf8.first", "unicode/utf8.acceptRanges"], apart := false, laid := [("unicode/utf8.acceptRanges", laid_unicode_utf8_acceptRanges), ("blotter/sum.nibbles", laid_blotter_sum_nibbles), ("unicode/utf8.first", laid_unicode_utf8_first)] }
def SessionApartSaid : Prop := sessionApartRow.holds Tryz.pinned (OpenSpec.ofChange sessionApartSpec)

/-- ITS FALSE NEIGHBOUR: 'it returns false'. Refute it at one input. -/
def sessionApartWrong : ChangeSpec := { name := "sessionApart", fn := fun _ => fun
  | [d1, d2] => { results := [.lit (.bool false)], args := [d1, d2] }
  | _ => none }
def SessionApartWrongFalsely : Prop := sessionApartRow.holds Tryz.pinned (OpenSpec.ofChange sessionApartWrong)

/-- 'blotterlaw19.SessionRoles': WHATEVER THE INPUT: true; the input reads as it did. -/
def sessionRolesSpec : ChangeSpec := { name := "sessionRoles", fn := fun _ => fun
  | [d1, d2] => { results := [.lit (.bool true)], args := [d1, d2] }
  | _ => none }
def sessionRolesRow : OpenClaim := { program := "ytmbfenkmabdokaagreatdoor", sum := "b35b7764c3fbe0f20ff0a538698f8b6e7618d7ac718dcf39e71ff2af8e2556cb", func := "blotter/blotterlaw19.SessionRoles", spec := "sessionRoles", inPlace := ["internal/abi.NoEscape", "internal/reflectlite.TypeOf", "internal/bytealg.abigen_runtime_cmpstring", "slices.overlaps[blotter/tree.item]", "slices.overlaps[int]", "slices.overlaps[string]", "internal/bytealg.CountString", "internal/bytealg.IndexByteString", "internal/bytealg.IndexString", "internal/bytealg.MakeNoZero"], unfollowed := true, recurses := true, named := ["blotter/sum.nibbles", "internal/bytealg.MaxLen", "unicode/utf8.first", "unicode/utf8.acceptRanges"], apart := false, laid := [("unicode/utf8.acceptRanges", laid_unicode_utf8_acceptRanges), ("blotter/sum.nibbles", laid_blotter_sum_nibbles), ("unicode/utf8.first", laid_unicode_utf8_first)] }
def SessionRolesSaid : Prop := sessionRolesRow.holds Tryz.pinned (OpenSpec.ofChange sessionRolesSpec)

/-- ITS FALSE NEIGHBOUR: 'it returns false'. Refute it at one input. -/
def sessionRolesWrong : ChangeSpec := { name := "sessionRoles", fn := fun _ => fun
  | [d1, d2] => { results := [.lit (.bool false)], args := [d1, d2] }
  | _ => none }
def SessionRolesWrongFalsely : Prop := sessionRolesRow.holds Tryz.pinned (OpenSpec.ofChange sessionRolesWrong)

/-- 'blotterlaw19.SessionPlays': WHATEVER THE INPUT: true; the input reads as it did. -/
def sessionPlaysSpec : ChangeSpec := { name := "sessionPlays", fn := fun _ => fun
  | [d] => { results := [.lit (.bool true)], args := [d] }
  | _ => none }
def sessionPlaysRow : OpenClaim := { program := "ytmbfenkmabdokaagreatdoor", sum := "b35b7764c3fbe0f20ff0a538698f8b6e7618d7ac718dcf39e71ff2af8e2556cb", func := "blotter/blotterlaw19.SessionPlays", spec := "sessionPlays", inPlace := ["internal/abi.NoEscape", "internal/reflectlite.TypeOf", "internal/bytealg.abigen_runtime_cmpstring", "slices.overlaps[blotter/tree.item]", "slices.overlaps[int]", "slices.overlaps[string]", "internal/bytealg.CountString", "internal/bytealg.IndexByteString", "internal/bytealg.IndexString", "internal/bytealg.MakeNoZero"], unfollowed := true, recurses := true, named := ["blotter/sum.nibbles", "internal/bytealg.MaxLen", "unicode/utf8.first", "unicode/utf8.acceptRanges"], apart := false, laid := [("unicode/utf8.acceptRanges", laid_unicode_utf8_acceptRanges), ("blotter/sum.nibbles", laid_blotter_sum_nibbles), ("unicode/utf8.first", laid_unicode_utf8_first)] }
def SessionPlaysSaid : Prop := sessionPlaysRow.holds Tryz.pinned (OpenSpec.ofChange sessionPlaysSpec)

/-- ITS FALSE NEIGHBOUR: 'it returns false'. Refute it at one input. -/
def sessionPlaysWrong : ChangeSpec := { name := "sessionPlays", fn := fun _ => fun
  | [d] => { results := [.lit (.bool false)], args := [d] }
  | _ => none }
def SessionPlaysWrongFalsely : Prop := sessionPlaysRow.holds Tryz.pinned (OpenSpec.ofChange sessionPlaysWrong)

/- THE SECOND FORM. 'bulk': how many values and letters a reading holds, each counted each time it is reached (what is shared counts as often as it is met; a slice's spare places count too). A statement '..UptoSaid' is the law's where the arguments, and the package variables that the reading takes, are together of bulk at most 1048576: NARROWER than '..Said'. Prove '..Said' where nothing that the law and all that it calls make is longer than what came in: it says more and counts as full. Else prove '..UptoSaid'. A law counts once. -/
mutual
def uptoBulk {H : Type} : DataW H → Nat
  | .lit (.string bytes) => bytes.length + 1
  | .lit _ => 1
  | .nil => 1
  | .ptr d => uptoBulk d + 1
  | .slice elems spare => uptoBulkAll elems + uptoBulkAll spare + 1
  | .agg parts => uptoBulkAll parts + 1
  | .iface _ d => uptoBulk d + 1
  | .map entries => uptoBulkEntries entries + 1
  | .held _ => 1
def uptoBulkAll {H : Type} : List (DataW H) → Nat
  | [] => 0
  | d :: r => uptoBulk d + uptoBulkAll r
def uptoBulkEntries {H : Type} : List (Lit × DataW H) → Nat
  | [] => 0
  | x :: r => uptoBulkEntry x + uptoBulkEntries r
def uptoBulkEntry {H : Type} : Lit × DataW H → Nat
  | (.string bytes, d) => bytes.length + uptoBulk d + 1
  | (_, d) => uptoBulk d + 1
 end
def uptoSmall : (H : Type) → List (DataW H) → Bool := fun _ ds => decide (uptoBulkAll ds ≤ 1048576)
def OpenSpec.upto (s : _root_.Go.ChangeSpec) : _root_.Go.OpenSpec := { _root_.Go.OpenSpec.ofChange s with cond := some uptoSmall }

/-- 'blotterlaw19.SessionCookies', WHERE WHAT IT READS IS OF BULK AT MOST 1048576: true; the input reads as it did. -/
def sessionCookiesUptoRow : OpenClaim := { program := "ytmbfenkmabdokaagreatdoor", sum := "b35b7764c3fbe0f20ff0a538698f8b6e7618d7ac718dcf39e71ff2af8e2556cb", func := "blotter/blotterlaw19.SessionCookies", spec := "sessionCookies", inPlace := ["internal/abi.NoEscape", "internal/reflectlite.TypeOf", "internal/bytealg.abigen_runtime_cmpstring", "slices.overlaps[blotter/tree.item]", "slices.overlaps[int]", "slices.overlaps[string]", "internal/bytealg.CountString", "internal/bytealg.IndexByteString", "internal/bytealg.IndexString", "internal/bytealg.MakeNoZero"], unfollowed := true, recurses := true, named := ["blotter/sum.nibbles", "internal/bytealg.MaxLen", "unicode/utf8.first", "unicode/utf8.acceptRanges"], apart := false, laid := [("unicode/utf8.acceptRanges", laid_unicode_utf8_acceptRanges), ("blotter/sum.nibbles", laid_blotter_sum_nibbles), ("unicode/utf8.first", laid_unicode_utf8_first)], narrowed := true }
def SessionCookiesUptoSaid : Prop := sessionCookiesUptoRow.holds Tryz.pinned (OpenSpec.upto sessionCookiesSpec)

/-- 'blotterlaw19.SessionHolds', WHERE WHAT IT READS IS OF BULK AT MOST 1048576: true; the input reads as it did. -/
def sessionHoldsUptoRow : OpenClaim := { program := "ytmbfenkmabdokaagreatdoor", sum := "b35b7764c3fbe0f20ff0a538698f8b6e7618d7ac718dcf39e71ff2af8e2556cb", func := "blotter/blotterlaw19.SessionHolds", spec := "sessionHolds", inPlace := ["internal/abi.NoEscape", "internal/reflectlite.TypeOf", "internal/bytealg.abigen_runtime_cmpstring", "slices.overlaps[blotter/tree.item]", "slices.overlaps[int]", "slices.overlaps[string]", "internal/bytealg.CountString", "internal/bytealg.IndexByteString", "internal/bytealg.IndexString", "internal/bytealg.MakeNoZero"], unfollowed := true, recurses := true, named := ["blotter/sum.nibbles", "internal/bytealg.MaxLen", "unicode/utf8.first", "unicode/utf8.acceptRanges"], apart := false, laid := [("unicode/utf8.acceptRanges", laid_unicode_utf8_acceptRanges), ("blotter/sum.nibbles", laid_blotter_sum_nibbles), ("unicode/utf8.first", laid_unicode_utf8_first)], narrowed := true }
def SessionHoldsUptoSaid : Prop := sessionHoldsUptoRow.holds Tryz.pinned (OpenSpec.upto sessionHoldsSpec)

/-- 'blotterlaw19.SessionEnds', WHERE WHAT IT READS IS OF BULK AT MOST 1048576: true; the input reads as it did. -/
def sessionEndsUptoRow : OpenClaim := { program := "ytmbfenkmabdokaagreatdoor", sum := "b35b7764c3fbe0f20ff0a538698f8b6e7618d7ac718dcf39e71ff2af8e2556cb", func := "blotter/blotterlaw19.SessionEnds", spec := "sessionEnds", inPlace := ["internal/abi.NoEscape", "internal/reflectlite.TypeOf", "internal/bytealg.abigen_runtime_cmpstring", "slices.overlaps[blotter/tree.item]", "slices.overlaps[int]", "slices.overlaps[string]", "internal/bytealg.CountString", "internal/bytealg.IndexByteString", "internal/bytealg.IndexString", "internal/bytealg.MakeNoZero"], unfollowed := true, recurses := true, named := ["blotter/sum.nibbles", "internal/bytealg.MaxLen", "unicode/utf8.first", "unicode/utf8.acceptRanges"], apart := false, laid := [("unicode/utf8.acceptRanges", laid_unicode_utf8_acceptRanges), ("blotter/sum.nibbles", laid_blotter_sum_nibbles), ("unicode/utf8.first", laid_unicode_utf8_first)], narrowed := true }
def SessionEndsUptoSaid : Prop := sessionEndsUptoRow.holds Tryz.pinned (OpenSpec.upto sessionEndsSpec)

/-- 'blotterlaw19.SessionApart', WHERE WHAT IT READS IS OF BULK AT MOST 1048576: true; the input reads as it did. -/
def sessionApartUptoRow : OpenClaim := { program := "ytmbfenkmabdokaagreatdoor", sum := "b35b7764c3fbe0f20ff0a538698f8b6e7618d7ac718dcf39e71ff2af8e2556cb", func := "blotter/blotterlaw19.SessionApart", spec := "sessionApart", inPlace := ["internal/abi.NoEscape", "internal/reflectlite.TypeOf", "internal/bytealg.abigen_runtime_cmpstring", "slices.overlaps[blotter/tree.item]", "slices.overlaps[int]", "slices.overlaps[string]", "internal/bytealg.CountString", "internal/bytealg.IndexByteString", "internal/bytealg.IndexString", "internal/bytealg.MakeNoZero"], unfollowed := true, recurses := true, named := ["blotter/sum.nibbles", "internal/bytealg.MaxLen", "unicode/utf8.first", "unicode/utf8.acceptRanges"], apart := false, laid := [("unicode/utf8.acceptRanges", laid_unicode_utf8_acceptRanges), ("blotter/sum.nibbles", laid_blotter_sum_nibbles), ("unicode/utf8.first", laid_unicode_utf8_first)], narrowed := true }
def SessionApartUptoSaid : Prop := sessionApartUptoRow.holds Tryz.pinned (OpenSpec.upto sessionApartSpec)

/-- 'blotterlaw19.SessionRoles', WHERE WHAT IT READS IS OF BULK AT MOST 1048576: true; the input reads as it did. -/
def sessionRolesUptoRow : OpenClaim := { program := "ytmbfenkmabdokaagreatdoor", sum := "b35b7764c3fbe0f20ff0a538698f8b6e7618d7ac718dcf39e71ff2af8e2556cb", func := "blotter/blotterlaw19.SessionRoles", spec := "sessionRoles", inPlace := ["internal/abi.NoEscape", "internal/reflectlite.TypeOf", "internal/bytealg.abigen_runtime_cmpstring", "slices.overlaps[blotter/tree.item]", "slices.overlaps[int]", "slices.overlaps[string]", "internal/bytealg.CountString", "internal/bytealg.IndexByteString", "internal/bytealg.IndexString", "internal/bytealg.MakeNoZero"], unfollowed := true, recurses := true, named := ["blotter/sum.nibbles", "internal/bytealg.MaxLen", "unicode/utf8.first", "unicode/utf8.acceptRanges"], apart := false, laid := [("unicode/utf8.acceptRanges", laid_unicode_utf8_acceptRanges), ("blotter/sum.nibbles", laid_blotter_sum_nibbles), ("unicode/utf8.first", laid_unicode_utf8_first)], narrowed := true }
def SessionRolesUptoSaid : Prop := sessionRolesUptoRow.holds Tryz.pinned (OpenSpec.upto sessionRolesSpec)

/-- 'blotterlaw19.SessionPlays', WHERE WHAT IT READS IS OF BULK AT MOST 1048576: true; the input reads as it did. -/
def sessionPlaysUptoRow : OpenClaim := { program := "ytmbfenkmabdokaagreatdoor", sum := "b35b7764c3fbe0f20ff0a538698f8b6e7618d7ac718dcf39e71ff2af8e2556cb", func := "blotter/blotterlaw19.SessionPlays", spec := "sessionPlays", inPlace := ["internal/abi.NoEscape", "internal/reflectlite.TypeOf", "internal/bytealg.abigen_runtime_cmpstring", "slices.overlaps[blotter/tree.item]", "slices.overlaps[int]", "slices.overlaps[string]", "internal/bytealg.CountString", "internal/bytealg.IndexByteString", "internal/bytealg.IndexString", "internal/bytealg.MakeNoZero"], unfollowed := true, recurses := true, named := ["blotter/sum.nibbles", "internal/bytealg.MaxLen", "unicode/utf8.first", "unicode/utf8.acceptRanges"], apart := false, laid := [("unicode/utf8.acceptRanges", laid_unicode_utf8_acceptRanges), ("blotter/sum.nibbles", laid_blotter_sum_nibbles), ("unicode/utf8.first", laid_unicode_utf8_first)], narrowed := true }
def SessionPlaysUptoSaid : Prop := sessionPlaysUptoRow.holds Tryz.pinned (OpenSpec.upto sessionPlaysSpec)

end Rows
end Go.Proofs.YtmbfenkmabdokaaGreatDoor
