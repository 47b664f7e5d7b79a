/-
  NARROWER THAN 'FOR EVERY INPUT', by the rows' own cells (each row's printed sentence says how): ReconMerges: laid · ReconPlans: laid · ReconSettles: laid · ReconPlanned: laid · ReconTurned: laid · ReconOwn: laid · ReconThree: laid · ActDoes: laid · ReconSides: laid.
  DERIVED. THE GIVEN ROWS OF THIS SEAT. 9 by the template 'for every input the law returns true; each argument reads behind the call as it read before'; 0 by the template 'total and deterministic' (their statements: YtlkmegeecmkkbaaGreatDoorTotals.lean).
  GIVEN WITH THE SEED: the statements are not yours to turn. If you find one false, say at which input.
  Laid BY PROGRAM, IN A SANDBOX (cutbox-rows.mjs): the forced cells as the released guide's own fill.sh prints them over the translation 1d8ba1527dd06777… (all of the seat's roots in one cut). By AI agents, Wed Nov 11 2026. No macro, syntax, notation, axiom, sorry.
-/
import Derived.Test.YtlkmegeecmkkbaaGreatDoorChecked
import GoSem.PinnedTables
import GoSem.Claim
import GoSem.ClaimJoined
import GoSem.ClaimMapViews
import Derived.JoinedTies
import Derived.KernelRfl
namespace Go.Proofs.YtlkmegeecmkkbaaGreatDoor
/- THE CELL 'sum', in the pinned program and in every row, IS THE sha256 OF THE DUMP (.gsa) THAT YtlkmegeecmkkbaaGreatDoorProg.lean LOADS. Nothing in Lean hashes anything: it is a label: what it is worth is what the hold of that sum in a sandbox is worth. -/
noncomputable def Tryz.pinned : Pinned := { name := "ytlkmegeecmkkbaagreatdoor", sum := "1d8ba1527dd06777464877c17e591e4a375283a68c9a1ae30e0df942b17ba6b3", checked := Tryz.checked }
namespace Rows
def none {H : Type} : Left H := { results := [], args := [] }

/- WHAT THE LISTED PACKAGE-LEVEL VARIABLES READ AS WHEN THE CALL BEGINS. Each datum BY PROGRAM (the guide's laid-datum.mjs) off the statement by which the dump's own 'gosem.cut.vars' lays the variable. In a bare row this is a premise. The card (YtlkmegeecmkkbaaGreatDoorCards.lean) ties it to the program's text. -/
def laid_unicode_utf8_acceptRanges {H : Type} : DataW H := .agg [.agg [.lit (.int .u8 128), .lit (.int .u8 191)], .agg [.lit (.int .u8 160), .lit (.int .u8 191)], .agg [.lit (.int .u8 128), .lit (.int .u8 159)], .agg [.lit (.int .u8 144), .lit (.int .u8 191)], .agg [.lit (.int .u8 128), .lit (.int .u8 143)], .agg [.lit (.int .u8 0), .lit (.int .u8 0)], .agg [.lit (.int .u8 0), .lit (.int .u8 0)], .agg [.lit (.int .u8 0), .lit (.int .u8 0)], .agg [.lit (.int .u8 0), .lit (.int .u8 0)], .agg [.lit (.int .u8 0), .lit (.int .u8 0)], .agg [.lit (.int .u8 0), .lit (.int .u8 0)], .agg [.lit (.int .u8 0), .lit (.int .u8 0)], .agg [.lit (.int .u8 0), .lit (.int .u8 0)], .agg [.lit (.int .u8 0), .lit (.int .u8 0)], .agg [.lit (.int .u8 0), .lit (.int .u8 0)], .agg [.lit (.int .u8 0), .lit (.int .u8 0)]]
/-- One of Go's own tables, pinned by name: the form's constant. -/
def laid_unicode_utf8_first : DataW Unit := Go.Pinned.utf8First

/-- 'carpetbaglaw10.ReconMerges': WHATEVER THE INPUT: true; the input reads as it did. -/
def reconMergesSpec : ChangeSpec := { name := "reconMerges", fn := fun _ => fun
  | [d1, d2, d3] => { results := [.lit (.bool true)], args := [d1, d2, d3] }
  | _ => none }
def reconMergesRow : OpenClaim := { program := "ytlkmegeecmkkbaagreatdoor", sum := "1d8ba1527dd06777464877c17e591e4a375283a68c9a1ae30e0df942b17ba6b3", func := "carpetbag/carpetbaglaw10.ReconMerges", spec := "reconMerges", inPlace := ["internal/bytealg.CountString", "internal/bytealg.IndexByteString", "internal/bytealg.IndexString", "internal/bytealg.abigen_runtime_cmpstring"], unfollowed := true, recurses := true, named := ["unicode/utf8.first", "unicode/utf8.acceptRanges", "internal/bytealg.MaxLen"], apart := false, laid := [("unicode/utf8.acceptRanges", laid_unicode_utf8_acceptRanges), ("unicode/utf8.first", laid_unicode_utf8_first)] }
def ReconMergesSaid : Prop := reconMergesRow.holds Tryz.pinned (OpenSpec.ofChange reconMergesSpec)

/-- ITS FALSE NEIGHBOUR: 'it returns false'. Refute it at one input. -/
def reconMergesWrong : ChangeSpec := { name := "reconMerges", fn := fun _ => fun
  | [d1, d2, d3] => { results := [.lit (.bool false)], args := [d1, d2, d3] }
  | _ => none }
def ReconMergesWrongFalsely : Prop := reconMergesRow.holds Tryz.pinned (OpenSpec.ofChange reconMergesWrong)

/-- 'carpetbaglaw10.ReconPlans': WHATEVER THE INPUT: true; the input reads as it did. -/
def reconPlansSpec : ChangeSpec := { name := "reconPlans", fn := fun _ => fun
  | [d1, d2, d3, d4, d5, d6] => { results := [.lit (.bool true)], args := [d1, d2, d3, d4, d5, d6] }
  | _ => none }
def reconPlansRow : OpenClaim := { program := "ytlkmegeecmkkbaagreatdoor", sum := "1d8ba1527dd06777464877c17e591e4a375283a68c9a1ae30e0df942b17ba6b3", func := "carpetbag/carpetbaglaw10.ReconPlans", spec := "reconPlans", inPlace := ["internal/bytealg.CountString", "internal/bytealg.IndexByteString", "internal/bytealg.IndexString", "internal/bytealg.abigen_runtime_cmpstring"], unfollowed := true, recurses := true, named := ["unicode/utf8.first", "unicode/utf8.acceptRanges", "internal/bytealg.MaxLen"], apart := false, laid := [("unicode/utf8.acceptRanges", laid_unicode_utf8_acceptRanges), ("unicode/utf8.first", laid_unicode_utf8_first)] }
def ReconPlansSaid : Prop := reconPlansRow.holds Tryz.pinned (OpenSpec.ofChange reconPlansSpec)

/-- ITS FALSE NEIGHBOUR: 'it returns false'. Refute it at one input. -/
def reconPlansWrong : ChangeSpec := { name := "reconPlans", fn := fun _ => fun
  | [d1, d2, d3, d4, d5, d6] => { results := [.lit (.bool false)], args := [d1, d2, d3, d4, d5, d6] }
  | _ => none }
def ReconPlansWrongFalsely : Prop := reconPlansRow.holds Tryz.pinned (OpenSpec.ofChange reconPlansWrong)

/-- 'carpetbaglaw10.ReconSettles': WHATEVER THE INPUT: true; the input reads as it did. -/
def reconSettlesSpec : ChangeSpec := { name := "reconSettles", fn := fun _ => fun
  | [d1, d2, d3, d4, d5] => { results := [.lit (.bool true)], args := [d1, d2, d3, d4, d5] }
  | _ => none }
def reconSettlesRow : OpenClaim := { program := "ytlkmegeecmkkbaagreatdoor", sum := "1d8ba1527dd06777464877c17e591e4a375283a68c9a1ae30e0df942b17ba6b3", func := "carpetbag/carpetbaglaw10.ReconSettles", spec := "reconSettles", inPlace := ["internal/bytealg.CountString", "internal/bytealg.IndexByteString", "internal/bytealg.IndexString", "internal/bytealg.abigen_runtime_cmpstring"], unfollowed := true, recurses := true, named := ["unicode/utf8.first", "unicode/utf8.acceptRanges", "internal/bytealg.MaxLen"], apart := false, laid := [("unicode/utf8.acceptRanges", laid_unicode_utf8_acceptRanges), ("unicode/utf8.first", laid_unicode_utf8_first)] }
def ReconSettlesSaid : Prop := reconSettlesRow.holds Tryz.pinned (OpenSpec.ofChange reconSettlesSpec)

/-- ITS FALSE NEIGHBOUR: 'it returns false'. Refute it at one input. -/
def reconSettlesWrong : ChangeSpec := { name := "reconSettles", fn := fun _ => fun
  | [d1, d2, d3, d4, d5] => { results := [.lit (.bool false)], args := [d1, d2, d3, d4, d5] }
  | _ => none }
def ReconSettlesWrongFalsely : Prop := reconSettlesRow.holds Tryz.pinned (OpenSpec.ofChange reconSettlesWrong)

/-- 'carpetbaglaw10.ReconPlanned': WHATEVER THE INPUT: true; the input reads as it did. -/
def reconPlannedSpec : ChangeSpec := { name := "reconPlanned", fn := fun _ => fun
  | [d1, d2] => { results := [.lit (.bool true)], args := [d1, d2] }
  | _ => none }
def reconPlannedRow : OpenClaim := { program := "ytlkmegeecmkkbaagreatdoor", sum := "1d8ba1527dd06777464877c17e591e4a375283a68c9a1ae30e0df942b17ba6b3", func := "carpetbag/carpetbaglaw10.ReconPlanned", spec := "reconPlanned", inPlace := ["internal/bytealg.CountString", "internal/bytealg.IndexByteString", "internal/bytealg.IndexString", "internal/bytealg.abigen_runtime_cmpstring"], unfollowed := true, recurses := true, named := ["unicode/utf8.first", "unicode/utf8.acceptRanges", "internal/bytealg.MaxLen"], apart := false, laid := [("unicode/utf8.acceptRanges", laid_unicode_utf8_acceptRanges), ("unicode/utf8.first", laid_unicode_utf8_first)] }
def ReconPlannedSaid : Prop := reconPlannedRow.holds Tryz.pinned (OpenSpec.ofChange reconPlannedSpec)

/-- ITS FALSE NEIGHBOUR: 'it returns false'. Refute it at one input. -/
def reconPlannedWrong : ChangeSpec := { name := "reconPlanned", fn := fun _ => fun
  | [d1, d2] => { results := [.lit (.bool false)], args := [d1, d2] }
  | _ => none }
def ReconPlannedWrongFalsely : Prop := reconPlannedRow.holds Tryz.pinned (OpenSpec.ofChange reconPlannedWrong)

/-- 'carpetbaglaw10.ReconTurned': WHATEVER THE INPUT: true; the input reads as it did. -/
def reconTurnedSpec : ChangeSpec := { name := "reconTurned", fn := fun _ => fun
  | [d1, d2] => { results := [.lit (.bool true)], args := [d1, d2] }
  | _ => none }
def reconTurnedRow : OpenClaim := { program := "ytlkmegeecmkkbaagreatdoor", sum := "1d8ba1527dd06777464877c17e591e4a375283a68c9a1ae30e0df942b17ba6b3", func := "carpetbag/carpetbaglaw10.ReconTurned", spec := "reconTurned", inPlace := ["internal/bytealg.CountString", "internal/bytealg.IndexByteString", "internal/bytealg.IndexString", "internal/bytealg.abigen_runtime_cmpstring"], unfollowed := true, recurses := true, named := ["unicode/utf8.first", "unicode/utf8.acceptRanges", "internal/bytealg.MaxLen"], apart := false, laid := [("unicode/utf8.acceptRanges", laid_unicode_utf8_acceptRanges), ("unicode/utf8.first", laid_unicode_utf8_first)] }
def ReconTurnedSaid : Prop := reconTurnedRow.holds Tryz.pinned (OpenSpec.ofChange reconTurnedSpec)

/-- ITS FALSE NEIGHBOUR: 'it returns false'. Refute it at one input. -/
def reconTurnedWrong : ChangeSpec := { name := "reconTurned", fn := fun _ => fun
  | [d1, d2] => { results := [.lit (.bool false)], args := [d1, d2] }
  | _ => none }
def ReconTurnedWrongFalsely : Prop := reconTurnedRow.holds Tryz.pinned (OpenSpec.ofChange reconTurnedWrong)

/-- 'carpetbaglaw10.ReconOwn': WHATEVER THE INPUT: true; the input reads as it did. -/
def reconOwnSpec : ChangeSpec := { name := "reconOwn", fn := fun _ => fun
  | [d] => { results := [.lit (.bool true)], args := [d] }
  | _ => none }
def reconOwnRow : OpenClaim := { program := "ytlkmegeecmkkbaagreatdoor", sum := "1d8ba1527dd06777464877c17e591e4a375283a68c9a1ae30e0df942b17ba6b3", func := "carpetbag/carpetbaglaw10.ReconOwn", spec := "reconOwn", inPlace := ["internal/bytealg.CountString", "internal/bytealg.IndexByteString", "internal/bytealg.IndexString", "internal/bytealg.abigen_runtime_cmpstring"], unfollowed := true, recurses := true, named := ["unicode/utf8.first", "unicode/utf8.acceptRanges", "internal/bytealg.MaxLen"], apart := false, laid := [("unicode/utf8.acceptRanges", laid_unicode_utf8_acceptRanges), ("unicode/utf8.first", laid_unicode_utf8_first)] }
def ReconOwnSaid : Prop := reconOwnRow.holds Tryz.pinned (OpenSpec.ofChange reconOwnSpec)

/-- ITS FALSE NEIGHBOUR: 'it returns false'. Refute it at one input. -/
def reconOwnWrong : ChangeSpec := { name := "reconOwn", fn := fun _ => fun
  | [d] => { results := [.lit (.bool false)], args := [d] }
  | _ => none }
def ReconOwnWrongFalsely : Prop := reconOwnRow.holds Tryz.pinned (OpenSpec.ofChange reconOwnWrong)

/-- 'carpetbaglaw10.ReconThree': WHATEVER THE INPUT: true; the input reads as it did. -/
def reconThreeSpec : ChangeSpec := { name := "reconThree", fn := fun _ => fun
  | [d1, d2, d3] => { results := [.lit (.bool true)], args := [d1, d2, d3] }
  | _ => none }
def reconThreeRow : OpenClaim := { program := "ytlkmegeecmkkbaagreatdoor", sum := "1d8ba1527dd06777464877c17e591e4a375283a68c9a1ae30e0df942b17ba6b3", func := "carpetbag/carpetbaglaw10.ReconThree", spec := "reconThree", inPlace := ["internal/bytealg.CountString", "internal/bytealg.IndexByteString", "internal/bytealg.IndexString", "internal/bytealg.abigen_runtime_cmpstring"], unfollowed := true, recurses := true, named := ["unicode/utf8.first", "unicode/utf8.acceptRanges", "internal/bytealg.MaxLen"], apart := false, laid := [("unicode/utf8.acceptRanges", laid_unicode_utf8_acceptRanges), ("unicode/utf8.first", laid_unicode_utf8_first)] }
def ReconThreeSaid : Prop := reconThreeRow.holds Tryz.pinned (OpenSpec.ofChange reconThreeSpec)

/-- ITS FALSE NEIGHBOUR: 'it returns false'. Refute it at one input. -/
def reconThreeWrong : ChangeSpec := { name := "reconThree", fn := fun _ => fun
  | [d1, d2, d3] => { results := [.lit (.bool false)], args := [d1, d2, d3] }
  | _ => none }
def ReconThreeWrongFalsely : Prop := reconThreeRow.holds Tryz.pinned (OpenSpec.ofChange reconThreeWrong)

/-- 'carpetbaglaw11.ActDoes': WHATEVER THE INPUT: true; the input reads as it did. -/
def actDoesSpec : ChangeSpec := { name := "actDoes", fn := fun _ => fun
  | [d1, d2, d3] => { results := [.lit (.bool true)], args := [d1, d2, d3] }
  | _ => none }
def actDoesRow : OpenClaim := { program := "ytlkmegeecmkkbaagreatdoor", sum := "1d8ba1527dd06777464877c17e591e4a375283a68c9a1ae30e0df942b17ba6b3", func := "carpetbag/carpetbaglaw11.ActDoes", spec := "actDoes", inPlace := ["internal/bytealg.CountString", "internal/bytealg.IndexByteString", "internal/bytealg.IndexString", "internal/bytealg.abigen_runtime_cmpstring", "slices.overlaps[carpetbag/api.File]"], unfollowed := true, recurses := true, named := ["unicode/utf8.first", "unicode/utf8.acceptRanges", "internal/bytealg.MaxLen"], apart := false, laid := [("unicode/utf8.acceptRanges", laid_unicode_utf8_acceptRanges), ("unicode/utf8.first", laid_unicode_utf8_first)] }
def ActDoesSaid : Prop := actDoesRow.holds Tryz.pinned (OpenSpec.ofChange actDoesSpec)

/-- ITS FALSE NEIGHBOUR: 'it returns false'. Refute it at one input. -/
def actDoesWrong : ChangeSpec := { name := "actDoes", fn := fun _ => fun
  | [d1, d2, d3] => { results := [.lit (.bool false)], args := [d1, d2, d3] }
  | _ => none }
def ActDoesWrongFalsely : Prop := actDoesRow.holds Tryz.pinned (OpenSpec.ofChange actDoesWrong)

/-- 'carpetbaglaw10.ReconSides': WHATEVER THE INPUT: true; the input reads as it did. -/
def reconSidesSpec : ChangeSpec := { name := "reconSides", fn := fun _ => fun
  | [d1, d2, d3] => { results := [.lit (.bool true)], args := [d1, d2, d3] }
  | _ => none }
def reconSidesRow : OpenClaim := { program := "ytlkmegeecmkkbaagreatdoor", sum := "1d8ba1527dd06777464877c17e591e4a375283a68c9a1ae30e0df942b17ba6b3", func := "carpetbag/carpetbaglaw10.ReconSides", spec := "reconSides", inPlace := ["internal/bytealg.CountString", "internal/bytealg.IndexByteString", "internal/bytealg.IndexString", "internal/bytealg.abigen_runtime_cmpstring"], unfollowed := true, recurses := true, named := ["unicode/utf8.first", "unicode/utf8.acceptRanges", "internal/bytealg.MaxLen"], apart := false, laid := [("unicode/utf8.acceptRanges", laid_unicode_utf8_acceptRanges), ("unicode/utf8.first", laid_unicode_utf8_first)] }
def ReconSidesSaid : Prop := reconSidesRow.holds Tryz.pinned (OpenSpec.ofChange reconSidesSpec)

/-- ITS FALSE NEIGHBOUR: 'it returns false'. Refute it at one input. -/
def reconSidesWrong : ChangeSpec := { name := "reconSides", fn := fun _ => fun
  | [d1, d2, d3] => { results := [.lit (.bool false)], args := [d1, d2, d3] }
  | _ => none }
def ReconSidesWrongFalsely : Prop := reconSidesRow.holds Tryz.pinned (OpenSpec.ofChange reconSidesWrong)

/- THE SECOND FORM. 'bulk': how many values and letters a reading holds, each counted each time it is reached (what is shared counts as often as it is met; a slice's spare places count too). A statement '..UptoSaid' is the law's where the arguments, and the package variables that the reading takes, are together of bulk at most 1048576: NARROWER than '..Said'. Prove '..Said' where nothing that the law and all that it calls make is longer than what came in: it says more and counts as full. Else prove '..UptoSaid'. A law counts once. -/
mutual
def uptoBulk {H : Type} : DataW H → Nat
  | .lit (.string bytes) => bytes.length + 1
  | .lit _ => 1
  | .nil => 1
  | .ptr d => uptoBulk d + 1
  | .slice elems spare => uptoBulkAll elems + uptoBulkAll spare + 1
  | .agg parts => uptoBulkAll parts + 1
  | .iface _ d => uptoBulk d + 1
  | .map entries => uptoBulkEntries entries + 1
  | .held _ => 1
def uptoBulkAll {H : Type} : List (DataW H) → Nat
  | [] => 0
  | d :: r => uptoBulk d + uptoBulkAll r
def uptoBulkEntries {H : Type} : List (Lit × DataW H) → Nat
  | [] => 0
  | x :: r => uptoBulkEntry x + uptoBulkEntries r
def uptoBulkEntry {H : Type} : Lit × DataW H → Nat
  | (.string bytes, d) => bytes.length + uptoBulk d + 1
  | (_, d) => uptoBulk d + 1
 end
def uptoSmall : (H : Type) → List (DataW H) → Bool := fun _ ds => decide (uptoBulkAll ds ≤ 1048576)
def OpenSpec.upto (s : _root_.Go.ChangeSpec) : _root_.Go.OpenSpec := { _root_.Go.OpenSpec.ofChange s with cond := some uptoSmall }

/-- 'carpetbaglaw10.ReconMerges', WHERE WHAT IT READS IS OF BULK AT MOST 1048576: true; the input reads as it did. -/
def reconMergesUptoRow : OpenClaim := { program := "ytlkmegeecmkkbaagreatdoor", sum := "1d8ba1527dd06777464877c17e591e4a375283a68c9a1ae30e0df942b17ba6b3", func := "carpetbag/carpetbaglaw10.ReconMerges", spec := "reconMerges", inPlace := ["internal/bytealg.CountString", "internal/bytealg.IndexByteString", "internal/bytealg.IndexString", "internal/bytealg.abigen_runtime_cmpstring"], unfollowed := true, recurses := true, named := ["unicode/utf8.first", "unicode/utf8.acceptRanges", "internal/bytealg.MaxLen"], apart := false, laid := [("unicode/utf8.acceptRanges", laid_unicode_utf8_acceptRanges), ("unicode/utf8.first", laid_unicode_utf8_first)], narrowed := true }
def ReconMergesUptoSaid : Prop := reconMergesUptoRow.holds Tryz.pinned (OpenSpec.upto reconMergesSpec)

/-- 'carpetbaglaw10.ReconPlans', WHERE WHAT IT READS IS OF BULK AT MOST 1048576: true; the input reads as it did. -/
def reconPlansUptoRow : OpenClaim := { program := "ytlkmegeecmkkbaagreatdoor", sum := "1d8ba1527dd06777464877c17e591e4a375283a68c9a1ae30e0df942b17ba6b3", func := "carpetbag/carpetbaglaw10.ReconPlans", spec := "reconPlans", inPlace := ["internal/bytealg.CountString", "internal/bytealg.IndexByteString", "internal/bytealg.IndexString", "internal/bytealg.abigen_runtime_cmpstring"], unfollowed := true, recurses := true, named := ["unicode/utf8.first", "unicode/utf8.acceptRanges", "internal/bytealg.MaxLen"], apart := false, laid := [("unicode/utf8.acceptRanges", laid_unicode_utf8_acceptRanges), ("unicode/utf8.first", laid_unicode_utf8_first)], narrowed := true }
def ReconPlansUptoSaid : Prop := reconPlansUptoRow.holds Tryz.pinned (OpenSpec.upto reconPlansSpec)

/-- 'carpetbaglaw10.ReconSettles', WHERE WHAT IT READS IS OF BULK AT MOST 1048576: true; the input reads as it did. -/
def reconSettlesUptoRow : OpenClaim := { program := "ytlkmegeecmkkbaagreatdoor", sum := "1d8ba1527dd06777464877c17e591e4a375283a68c9a1ae30e0df942b17ba6b3", func := "carpetbag/carpetbaglaw10.ReconSettles", spec := "reconSettles", inPlace := ["internal/bytealg.CountString", "internal/bytealg.IndexByteString", "internal/bytealg.IndexString", "internal/bytealg.abigen_runtime_cmpstring"], unfollowed := true, recurses := true, named := ["unicode/utf8.first", "unicode/utf8.acceptRanges", "internal/bytealg.MaxLen"], apart := false, laid := [("unicode/utf8.acceptRanges", laid_unicode_utf8_acceptRanges), ("unicode/utf8.first", laid_unicode_utf8_first)], narrowed := true }
def ReconSettlesUptoSaid : Prop := reconSettlesUptoRow.holds Tryz.pinned (OpenSpec.upto reconSettlesSpec)

/-- 'carpetbaglaw10.ReconPlanned', WHERE WHAT IT READS IS OF BULK AT MOST 1048576: true; the input reads as it did. -/
def reconPlannedUptoRow : OpenClaim := { program := "ytlkmegeecmkkbaagreatdoor", sum := "1d8ba1527dd06777464877c17e591e4a375283a68c9a1ae30e0df942b17ba6b3", func := "carpetbag/carpetbaglaw10.ReconPlanned", spec := "reconPlanned", inPlace := ["internal/bytealg.CountString", "internal/bytealg.IndexByteString", "internal/bytealg.IndexString", "internal/bytealg.abigen_runtime_cmpstring"], unfollowed := true, recurses := true, named := ["unicode/utf8.first", "unicode/utf8.acceptRanges", "internal/bytealg.MaxLen"], apart := false, laid := [("unicode/utf8.acceptRanges", laid_unicode_utf8_acceptRanges), ("unicode/utf8.first", laid_unicode_utf8_first)], narrowed := true }
def ReconPlannedUptoSaid : Prop := reconPlannedUptoRow.holds Tryz.pinned (OpenSpec.upto reconPlannedSpec)

/-- 'carpetbaglaw10.ReconTurned', WHERE WHAT IT READS IS OF BULK AT MOST 1048576: true; the input reads as it did. -/
def reconTurnedUptoRow : OpenClaim := { program := "ytlkmegeecmkkbaagreatdoor", sum := "1d8ba1527dd06777464877c17e591e4a375283a68c9a1ae30e0df942b17ba6b3", func := "carpetbag/carpetbaglaw10.ReconTurned", spec := "reconTurned", inPlace := ["internal/bytealg.CountString", "internal/bytealg.IndexByteString", "internal/bytealg.IndexString", "internal/bytealg.abigen_runtime_cmpstring"], unfollowed := true, recurses := true, named := ["unicode/utf8.first", "unicode/utf8.acceptRanges", "internal/bytealg.MaxLen"], apart := false, laid := [("unicode/utf8.acceptRanges", laid_unicode_utf8_acceptRanges), ("unicode/utf8.first", laid_unicode_utf8_first)], narrowed := true }
def ReconTurnedUptoSaid : Prop := reconTurnedUptoRow.holds Tryz.pinned (OpenSpec.upto reconTurnedSpec)

/-- 'carpetbaglaw10.ReconOwn', WHERE WHAT IT READS IS OF BULK AT MOST 1048576: true; the input reads as it did. -/
def reconOwnUptoRow : OpenClaim := { program := "ytlkmegeecmkkbaagreatdoor", sum := "1d8ba1527dd06777464877c17e591e4a375283a68c9a1ae30e0df942b17ba6b3", func := "carpetbag/carpetbaglaw10.ReconOwn", spec := "reconOwn", inPlace := ["internal/bytealg.CountString", "internal/bytealg.IndexByteString", "internal/bytealg.IndexString", "internal/bytealg.abigen_runtime_cmpstring"], unfollowed := true, recurses := true, named := ["unicode/utf8.first", "unicode/utf8.acceptRanges", "internal/bytealg.MaxLen"], apart := false, laid := [("unicode/utf8.acceptRanges", laid_unicode_utf8_acceptRanges), ("unicode/utf8.first", laid_unicode_utf8_first)], narrowed := true }
def ReconOwnUptoSaid : Prop := reconOwnUptoRow.holds Tryz.pinned (OpenSpec.upto reconOwnSpec)

/-- 'carpetbaglaw10.ReconThree', WHERE WHAT IT READS IS OF BULK AT MOST 1048576: true; the input reads as it did. -/
def reconThreeUptoRow : OpenClaim := { program := "ytlkmegeecmkkbaagreatdoor", sum := "1d8ba1527dd06777464877c17e591e4a375283a68c9a1ae30e0df942b17ba6b3", func := "carpetbag/carpetbaglaw10.ReconThree", spec := "reconThree", inPlace := ["internal/bytealg.CountString", "internal/bytealg.IndexByteString", "internal/bytealg.IndexString", "internal/bytealg.abigen_runtime_cmpstring"], unfollowed := true, recurses := true, named := ["unicode/utf8.first", "unicode/utf8.acceptRanges", "internal/bytealg.MaxLen"], apart := false, laid := [("unicode/utf8.acceptRanges", laid_unicode_utf8_acceptRanges), ("unicode/utf8.first", laid_unicode_utf8_first)], narrowed := true }
def ReconThreeUptoSaid : Prop := reconThreeUptoRow.holds Tryz.pinned (OpenSpec.upto reconThreeSpec)

/-- 'carpetbaglaw11.ActDoes', WHERE WHAT IT READS IS OF BULK AT MOST 1048576: true; the input reads as it did. -/
def actDoesUptoRow : OpenClaim := { program := "ytlkmegeecmkkbaagreatdoor", sum := "1d8ba1527dd06777464877c17e591e4a375283a68c9a1ae30e0df942b17ba6b3", func := "carpetbag/carpetbaglaw11.ActDoes", spec := "actDoes", inPlace := ["internal/bytealg.CountString", "internal/bytealg.IndexByteString", "internal/bytealg.IndexString", "internal/bytealg.abigen_runtime_cmpstring", "slices.overlaps[carpetbag/api.File]"], unfollowed := true, recurses := true, named := ["unicode/utf8.first", "unicode/utf8.acceptRanges", "internal/bytealg.MaxLen"], apart := false, laid := [("unicode/utf8.acceptRanges", laid_unicode_utf8_acceptRanges), ("unicode/utf8.first", laid_unicode_utf8_first)], narrowed := true }
def ActDoesUptoSaid : Prop := actDoesUptoRow.holds Tryz.pinned (OpenSpec.upto actDoesSpec)

/-- 'carpetbaglaw10.ReconSides', WHERE WHAT IT READS IS OF BULK AT MOST 1048576: true; the input reads as it did. -/
def reconSidesUptoRow : OpenClaim := { program := "ytlkmegeecmkkbaagreatdoor", sum := "1d8ba1527dd06777464877c17e591e4a375283a68c9a1ae30e0df942b17ba6b3", func := "carpetbag/carpetbaglaw10.ReconSides", spec := "reconSides", inPlace := ["internal/bytealg.CountString", "internal/bytealg.IndexByteString", "internal/bytealg.IndexString", "internal/bytealg.abigen_runtime_cmpstring"], unfollowed := true, recurses := true, named := ["unicode/utf8.first", "unicode/utf8.acceptRanges", "internal/bytealg.MaxLen"], apart := false, laid := [("unicode/utf8.acceptRanges", laid_unicode_utf8_acceptRanges), ("unicode/utf8.first", laid_unicode_utf8_first)], narrowed := true }
def ReconSidesUptoSaid : Prop := reconSidesUptoRow.holds Tryz.pinned (OpenSpec.upto reconSidesSpec)

end Rows
end Go.Proofs.YtlkmegeecmkkbaaGreatDoor
