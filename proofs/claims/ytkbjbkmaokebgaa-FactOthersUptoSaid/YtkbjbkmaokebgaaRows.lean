/-
  No cell of these rows narrows 'for every input' (looked for: loops, veiled, ifaces, maps, wideKeys, modest, calm, conditions, laid).
  DERIVED. THE GIVEN ROWS OF THIS SEAT. 8 by the template 'for every input the law returns true; each argument reads behind the call as it read before'; 0 by the template 'total and deterministic' (their statements: YtkbjbkmaokebgaaTotals.lean).
  GIVEN WITH THE SEED: the statements are not yours to turn. If you find one false, say at which input.
  Laid BY PROGRAM, IN A SANDBOX (cutbox-rows.mjs): the forced cells as the released guide's own fill.sh prints them over the translation d0872b047a87215d… (all of the seat's roots in one cut). By AI agents, Wed Nov 11 2026. No macro, syntax, notation, axiom, sorry.
-/
import Derived.Test.YtkbjbkmaokebgaaChecked
import GoSem.Claim
import GoSem.ClaimJoined
import GoSem.ClaimMapViews
import Derived.JoinedTies
import Derived.KernelRfl
namespace Go.Proofs.Ytkbjbkmaokebgaa
/- THE CELL 'sum', in the pinned program and in every row, IS THE sha256 OF THE DUMP (.gsa) THAT YtkbjbkmaokebgaaProg.lean LOADS. Nothing in Lean hashes anything: it is a label: what it is worth is what the hold of that sum in a sandbox is worth. -/
noncomputable def Try.pinned : Pinned := { name := "ytkbjbkmaokebgaa", sum := "d0872b047a87215d1ee893ca12c05fca44764fac1662e54c281c2a8628abc016", checked := Try.checked }
namespace Rows
def none {H : Type} : Left H := { results := [], args := [] }

/-- 'gazetteerlaw17.ZoneHas': WHATEVER THE INPUT: true; the input reads as it did. -/
def zoneHasSpec : ChangeSpec := { name := "zoneHas", fn := fun _ => fun
  | [d1, d2] => { results := [.lit (.bool true)], args := [d1, d2] }
  | _ => none }
def zoneHasRow : OpenClaim := { program := "ytkbjbkmaokebgaa", sum := "d0872b047a87215d1ee893ca12c05fca44764fac1662e54c281c2a8628abc016", func := "gazetteer/gazetteerlaw17.ZoneHas", spec := "zoneHas", unfollowed := true, recurses := true, apart := false }
def ZoneHasSaid : Prop := zoneHasRow.holds Try.pinned (OpenSpec.ofChange zoneHasSpec)

/-- ITS FALSE NEIGHBOUR: 'it returns false'. Refute it at one input. -/
def zoneHasWrong : ChangeSpec := { name := "zoneHas", fn := fun _ => fun
  | [d1, d2] => { results := [.lit (.bool false)], args := [d1, d2] }
  | _ => none }
def ZoneHasWrongFalsely : Prop := zoneHasRow.holds Try.pinned (OpenSpec.ofChange zoneHasWrong)

/-- 'gazetteerlaw17.ZoneAsked': WHATEVER THE INPUT: true; the input reads as it did. -/
def zoneAskedSpec : ChangeSpec := { name := "zoneAsked", fn := fun _ => fun
  | [d1, d2] => { results := [.lit (.bool true)], args := [d1, d2] }
  | _ => none }
def zoneAskedRow : OpenClaim := { program := "ytkbjbkmaokebgaa", sum := "d0872b047a87215d1ee893ca12c05fca44764fac1662e54c281c2a8628abc016", func := "gazetteer/gazetteerlaw17.ZoneAsked", spec := "zoneAsked", unfollowed := true, recurses := true, apart := false }
def ZoneAskedSaid : Prop := zoneAskedRow.holds Try.pinned (OpenSpec.ofChange zoneAskedSpec)

/-- ITS FALSE NEIGHBOUR: 'it returns false'. Refute it at one input. -/
def zoneAskedWrong : ChangeSpec := { name := "zoneAsked", fn := fun _ => fun
  | [d1, d2] => { results := [.lit (.bool false)], args := [d1, d2] }
  | _ => none }
def ZoneAskedWrongFalsely : Prop := zoneAskedRow.holds Try.pinned (OpenSpec.ofChange zoneAskedWrong)

/-- 'gazetteerlaw17.ZoneCases': WHATEVER THE INPUT: true; the input reads as it did. -/
def zoneCasesSpec : ChangeSpec := { name := "zoneCases", fn := fun _ => fun
  | [d1, d2] => { results := [.lit (.bool true)], args := [d1, d2] }
  | _ => none }
def zoneCasesRow : OpenClaim := { program := "ytkbjbkmaokebgaa", sum := "d0872b047a87215d1ee893ca12c05fca44764fac1662e54c281c2a8628abc016", func := "gazetteer/gazetteerlaw17.ZoneCases", spec := "zoneCases", unfollowed := true, recurses := true, apart := false }
def ZoneCasesSaid : Prop := zoneCasesRow.holds Try.pinned (OpenSpec.ofChange zoneCasesSpec)

/-- ITS FALSE NEIGHBOUR: 'it returns false'. Refute it at one input. -/
def zoneCasesWrong : ChangeSpec := { name := "zoneCases", fn := fun _ => fun
  | [d1, d2] => { results := [.lit (.bool false)], args := [d1, d2] }
  | _ => none }
def ZoneCasesWrongFalsely : Prop := zoneCasesRow.holds Try.pinned (OpenSpec.ofChange zoneCasesWrong)

/-- 'gazetteerlaw17.ZoneKeeps': WHATEVER THE INPUT: true; the input reads as it did. -/
def zoneKeepsSpec : ChangeSpec := { name := "zoneKeeps", fn := fun _ => fun
  | [d1, d2] => { results := [.lit (.bool true)], args := [d1, d2] }
  | _ => none }
def zoneKeepsRow : OpenClaim := { program := "ytkbjbkmaokebgaa", sum := "d0872b047a87215d1ee893ca12c05fca44764fac1662e54c281c2a8628abc016", func := "gazetteer/gazetteerlaw17.ZoneKeeps", spec := "zoneKeeps", unfollowed := true, recurses := true, apart := false }
def ZoneKeepsSaid : Prop := zoneKeepsRow.holds Try.pinned (OpenSpec.ofChange zoneKeepsSpec)

/-- ITS FALSE NEIGHBOUR: 'it returns false'. Refute it at one input. -/
def zoneKeepsWrong : ChangeSpec := { name := "zoneKeeps", fn := fun _ => fun
  | [d1, d2] => { results := [.lit (.bool false)], args := [d1, d2] }
  | _ => none }
def ZoneKeepsWrongFalsely : Prop := zoneKeepsRow.holds Try.pinned (OpenSpec.ofChange zoneKeepsWrong)

/-- 'gazetteerlaw17.ZoneFull': WHATEVER THE INPUT: true; the input reads as it did. -/
def zoneFullSpec : ChangeSpec := { name := "zoneFull", fn := fun _ => fun
  | [d1, d2] => { results := [.lit (.bool true)], args := [d1, d2] }
  | _ => none }
def zoneFullRow : OpenClaim := { program := "ytkbjbkmaokebgaa", sum := "d0872b047a87215d1ee893ca12c05fca44764fac1662e54c281c2a8628abc016", func := "gazetteer/gazetteerlaw17.ZoneFull", spec := "zoneFull", unfollowed := true, recurses := true, apart := false }
def ZoneFullSaid : Prop := zoneFullRow.holds Try.pinned (OpenSpec.ofChange zoneFullSpec)

/-- ITS FALSE NEIGHBOUR: 'it returns false'. Refute it at one input. -/
def zoneFullWrong : ChangeSpec := { name := "zoneFull", fn := fun _ => fun
  | [d1, d2] => { results := [.lit (.bool false)], args := [d1, d2] }
  | _ => none }
def ZoneFullWrongFalsely : Prop := zoneFullRow.holds Try.pinned (OpenSpec.ofChange zoneFullWrong)

/-- 'gazetteerlaw13.FactZone': WHATEVER THE INPUT: true; the input reads as it did. -/
def factZoneSpec : ChangeSpec := { name := "factZone", fn := fun _ => fun
  | [d1, d2, d3, d4] => { results := [.lit (.bool true)], args := [d1, d2, d3, d4] }
  | _ => none }
def factZoneRow : OpenClaim := { program := "ytkbjbkmaokebgaa", sum := "d0872b047a87215d1ee893ca12c05fca44764fac1662e54c281c2a8628abc016", func := "gazetteer/gazetteerlaw13.FactZone", spec := "factZone", unfollowed := true, recurses := true, apart := false }
def FactZoneSaid : Prop := factZoneRow.holds Try.pinned (OpenSpec.ofChange factZoneSpec)

/-- ITS FALSE NEIGHBOUR: 'it returns false'. Refute it at one input. -/
def factZoneWrong : ChangeSpec := { name := "factZone", fn := fun _ => fun
  | [d1, d2, d3, d4] => { results := [.lit (.bool false)], args := [d1, d2, d3, d4] }
  | _ => none }
def FactZoneWrongFalsely : Prop := factZoneRow.holds Try.pinned (OpenSpec.ofChange factZoneWrong)

/-- 'gazetteerlaw13.FactOthers': WHATEVER THE INPUT: true; the input reads as it did. -/
def factOthersSpec : ChangeSpec := { name := "factOthers", fn := fun _ => fun
  | [d1, d2, d3, d4] => { results := [.lit (.bool true)], args := [d1, d2, d3, d4] }
  | _ => none }
def factOthersRow : OpenClaim := { program := "ytkbjbkmaokebgaa", sum := "d0872b047a87215d1ee893ca12c05fca44764fac1662e54c281c2a8628abc016", func := "gazetteer/gazetteerlaw13.FactOthers", spec := "factOthers", unfollowed := true, recurses := true, apart := false }
def FactOthersSaid : Prop := factOthersRow.holds Try.pinned (OpenSpec.ofChange factOthersSpec)

/-- ITS FALSE NEIGHBOUR: 'it returns false'. Refute it at one input. -/
def factOthersWrong : ChangeSpec := { name := "factOthers", fn := fun _ => fun
  | [d1, d2, d3, d4] => { results := [.lit (.bool false)], args := [d1, d2, d3, d4] }
  | _ => none }
def FactOthersWrongFalsely : Prop := factOthersRow.holds Try.pinned (OpenSpec.ofChange factOthersWrong)

/-- 'gazetteerlaw13.FactKeeps': WHATEVER THE INPUT: true; the input reads as it did. -/
def factKeepsSpec : ChangeSpec := { name := "factKeeps", fn := fun _ => fun
  | [d1, d2, d3] => { results := [.lit (.bool true)], args := [d1, d2, d3] }
  | _ => none }
def factKeepsRow : OpenClaim := { program := "ytkbjbkmaokebgaa", sum := "d0872b047a87215d1ee893ca12c05fca44764fac1662e54c281c2a8628abc016", func := "gazetteer/gazetteerlaw13.FactKeeps", spec := "factKeeps", unfollowed := true, recurses := true, apart := false }
def FactKeepsSaid : Prop := factKeepsRow.holds Try.pinned (OpenSpec.ofChange factKeepsSpec)

/-- ITS FALSE NEIGHBOUR: 'it returns false'. Refute it at one input. -/
def factKeepsWrong : ChangeSpec := { name := "factKeeps", fn := fun _ => fun
  | [d1, d2, d3] => { results := [.lit (.bool false)], args := [d1, d2, d3] }
  | _ => none }
def FactKeepsWrongFalsely : Prop := factKeepsRow.holds Try.pinned (OpenSpec.ofChange factKeepsWrong)

/- THE SECOND FORM. 'bulk': how many values and letters a reading holds, each counted each time it is reached (what is shared counts as often as it is met; a slice's spare places count too). A statement '..UptoSaid' is the law's where the arguments, and the package variables that the reading takes, are together of bulk at most 1048576: NARROWER than '..Said'. Prove '..Said' where nothing that the law and all that it calls make is longer than what came in: it says more and counts as full. Else prove '..UptoSaid'. A law counts once. -/
mutual
def uptoBulk {H : Type} : DataW H → Nat
  | .lit (.string bytes) => bytes.length + 1
  | .lit _ => 1
  | .nil => 1
  | .ptr d => uptoBulk d + 1
  | .slice elems spare => uptoBulkAll elems + uptoBulkAll spare + 1
  | .agg parts => uptoBulkAll parts + 1
  | .iface _ d => uptoBulk d + 1
  | .map entries => uptoBulkEntries entries + 1
  | .held _ => 1
def uptoBulkAll {H : Type} : List (DataW H) → Nat
  | [] => 0
  | d :: r => uptoBulk d + uptoBulkAll r
def uptoBulkEntries {H : Type} : List (Lit × DataW H) → Nat
  | [] => 0
  | x :: r => uptoBulkEntry x + uptoBulkEntries r
def uptoBulkEntry {H : Type} : Lit × DataW H → Nat
  | (.string bytes, d) => bytes.length + uptoBulk d + 1
  | (_, d) => uptoBulk d + 1
 end
def uptoSmall : (H : Type) → List (DataW H) → Bool := fun _ ds => decide (uptoBulkAll ds ≤ 1048576)
def OpenSpec.upto (s : _root_.Go.ChangeSpec) : _root_.Go.OpenSpec := { _root_.Go.OpenSpec.ofChange s with cond := some uptoSmall }

/-- 'gazetteerlaw17.ZoneHas', WHERE WHAT IT READS IS OF BULK AT MOST 1048576: true; the input reads as it did. -/
def zoneHasUptoRow : OpenClaim := { program := "ytkbjbkmaokebgaa", sum := "d0872b047a87215d1ee893ca12c05fca44764fac1662e54c281c2a8628abc016", func := "gazetteer/gazetteerlaw17.ZoneHas", spec := "zoneHas", unfollowed := true, recurses := true, apart := false, narrowed := true }
def ZoneHasUptoSaid : Prop := zoneHasUptoRow.holds Try.pinned (OpenSpec.upto zoneHasSpec)

/-- 'gazetteerlaw17.ZoneAsked', WHERE WHAT IT READS IS OF BULK AT MOST 1048576: true; the input reads as it did. -/
def zoneAskedUptoRow : OpenClaim := { program := "ytkbjbkmaokebgaa", sum := "d0872b047a87215d1ee893ca12c05fca44764fac1662e54c281c2a8628abc016", func := "gazetteer/gazetteerlaw17.ZoneAsked", spec := "zoneAsked", unfollowed := true, recurses := true, apart := false, narrowed := true }
def ZoneAskedUptoSaid : Prop := zoneAskedUptoRow.holds Try.pinned (OpenSpec.upto zoneAskedSpec)

/-- 'gazetteerlaw17.ZoneCases', WHERE WHAT IT READS IS OF BULK AT MOST 1048576: true; the input reads as it did. -/
def zoneCasesUptoRow : OpenClaim := { program := "ytkbjbkmaokebgaa", sum := "d0872b047a87215d1ee893ca12c05fca44764fac1662e54c281c2a8628abc016", func := "gazetteer/gazetteerlaw17.ZoneCases", spec := "zoneCases", unfollowed := true, recurses := true, apart := false, narrowed := true }
def ZoneCasesUptoSaid : Prop := zoneCasesUptoRow.holds Try.pinned (OpenSpec.upto zoneCasesSpec)

/-- 'gazetteerlaw17.ZoneKeeps', WHERE WHAT IT READS IS OF BULK AT MOST 1048576: true; the input reads as it did. -/
def zoneKeepsUptoRow : OpenClaim := { program := "ytkbjbkmaokebgaa", sum := "d0872b047a87215d1ee893ca12c05fca44764fac1662e54c281c2a8628abc016", func := "gazetteer/gazetteerlaw17.ZoneKeeps", spec := "zoneKeeps", unfollowed := true, recurses := true, apart := false, narrowed := true }
def ZoneKeepsUptoSaid : Prop := zoneKeepsUptoRow.holds Try.pinned (OpenSpec.upto zoneKeepsSpec)

/-- 'gazetteerlaw17.ZoneFull', WHERE WHAT IT READS IS OF BULK AT MOST 1048576: true; the input reads as it did. -/
def zoneFullUptoRow : OpenClaim := { program := "ytkbjbkmaokebgaa", sum := "d0872b047a87215d1ee893ca12c05fca44764fac1662e54c281c2a8628abc016", func := "gazetteer/gazetteerlaw17.ZoneFull", spec := "zoneFull", unfollowed := true, recurses := true, apart := false, narrowed := true }
def ZoneFullUptoSaid : Prop := zoneFullUptoRow.holds Try.pinned (OpenSpec.upto zoneFullSpec)

/-- 'gazetteerlaw13.FactZone', WHERE WHAT IT READS IS OF BULK AT MOST 1048576: true; the input reads as it did. -/
def factZoneUptoRow : OpenClaim := { program := "ytkbjbkmaokebgaa", sum := "d0872b047a87215d1ee893ca12c05fca44764fac1662e54c281c2a8628abc016", func := "gazetteer/gazetteerlaw13.FactZone", spec := "factZone", unfollowed := true, recurses := true, apart := false, narrowed := true }
def FactZoneUptoSaid : Prop := factZoneUptoRow.holds Try.pinned (OpenSpec.upto factZoneSpec)

/-- 'gazetteerlaw13.FactOthers', WHERE WHAT IT READS IS OF BULK AT MOST 1048576: true; the input reads as it did. -/
def factOthersUptoRow : OpenClaim := { program := "ytkbjbkmaokebgaa", sum := "d0872b047a87215d1ee893ca12c05fca44764fac1662e54c281c2a8628abc016", func := "gazetteer/gazetteerlaw13.FactOthers", spec := "factOthers", unfollowed := true, recurses := true, apart := false, narrowed := true }
def FactOthersUptoSaid : Prop := factOthersUptoRow.holds Try.pinned (OpenSpec.upto factOthersSpec)

/-- 'gazetteerlaw13.FactKeeps', WHERE WHAT IT READS IS OF BULK AT MOST 1048576: true; the input reads as it did. -/
def factKeepsUptoRow : OpenClaim := { program := "ytkbjbkmaokebgaa", sum := "d0872b047a87215d1ee893ca12c05fca44764fac1662e54c281c2a8628abc016", func := "gazetteer/gazetteerlaw13.FactKeeps", spec := "factKeeps", unfollowed := true, recurses := true, apart := false, narrowed := true }
def FactKeepsUptoSaid : Prop := factKeepsUptoRow.holds Try.pinned (OpenSpec.upto factKeepsSpec)

end Rows
end Go.Proofs.Ytkbjbkmaokebgaa
