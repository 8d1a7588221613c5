/-
  No cell of these rows narrows 'for every input' (looked for: loops, veiled, ifaces, maps, wideKeys, modest, calm, conditions, laid).
  DERIVED. THE GIVEN ROWS OF THIS SEAT. 9 by the template 'for every input the law returns true; each argument reads behind the call as it read before'; 0 by the template 'total and deterministic' (their statements: YtffehagmchcpkaaTotals.lean).
  GIVEN WITH THE SEED: the statements are not yours to turn. If you find one false, say at which input.
  Laid BY PROGRAM, IN A SANDBOX (cutbox-rows.mjs): the forced cells as the released guide's own fill.sh prints them over the translation 92c7e4bf5816977b… (all of the seat's roots in one cut). By AI agents, Wed Nov 11 2026. No macro, syntax, notation, axiom, sorry.
-/
import Derived.Test.YtffehagmchcpkaaChecked
import GoSem.Claim
import GoSem.ClaimJoined
import GoSem.ClaimMapViews
import Derived.JoinedTies
import Derived.KernelRfl
namespace Go.Proofs.Ytffehagmchcpkaa
/- THE CELL 'sum', in the pinned program and in every row, IS THE sha256 OF THE DUMP (.gsa) THAT YtffehagmchcpkaaProg.lean LOADS. Nothing in Lean hashes anything: it is a label: what it is worth is what the hold of that sum in a sandbox is worth. -/
noncomputable def Try.pinned : Pinned := { name := "ytffehagmchcpkaa", sum := "92c7e4bf5816977bbddee3b1ad7f8e4fdd80a52f1dfca0bd693ac88b9369ceaa", checked := Try.checked }
namespace Rows
def none {H : Type} : Left H := { results := [], args := [] }

/-- 'countermandlaw02.RingDoes': WHATEVER THE INPUT: true; the input reads as it did. -/
def ringDoesSpec : ChangeSpec := { name := "ringDoes", fn := fun _ => fun
  | [d1, d2, d3] => { results := [.lit (.bool true)], args := [d1, d2, d3] }
  | _ => none }
def ringDoesRow : OpenClaim := { program := "ytffehagmchcpkaa", sum := "92c7e4bf5816977bbddee3b1ad7f8e4fdd80a52f1dfca0bd693ac88b9369ceaa", func := "countermand/countermandlaw02.RingDoes", spec := "ringDoes", apart := false }
def RingDoesSaid : Prop := ringDoesRow.holds Try.pinned (OpenSpec.ofChange ringDoesSpec)

/-- ITS FALSE NEIGHBOUR: 'it returns false'. Refute it at one input. -/
def ringDoesWrong : ChangeSpec := { name := "ringDoes", fn := fun _ => fun
  | [d1, d2, d3] => { results := [.lit (.bool false)], args := [d1, d2, d3] }
  | _ => none }
def RingDoesWrongFalsely : Prop := ringDoesRow.holds Try.pinned (OpenSpec.ofChange ringDoesWrong)

/-- 'countermandlaw02.RingOnce': WHATEVER THE INPUT: true; the input reads as it did. -/
def ringOnceSpec : ChangeSpec := { name := "ringOnce", fn := fun _ => fun
  | [d1, d2, d3] => { results := [.lit (.bool true)], args := [d1, d2, d3] }
  | _ => none }
def ringOnceRow : OpenClaim := { program := "ytffehagmchcpkaa", sum := "92c7e4bf5816977bbddee3b1ad7f8e4fdd80a52f1dfca0bd693ac88b9369ceaa", func := "countermand/countermandlaw02.RingOnce", spec := "ringOnce", apart := false }
def RingOnceSaid : Prop := ringOnceRow.holds Try.pinned (OpenSpec.ofChange ringOnceSpec)

/-- ITS FALSE NEIGHBOUR: 'it returns false'. Refute it at one input. -/
def ringOnceWrong : ChangeSpec := { name := "ringOnce", fn := fun _ => fun
  | [d1, d2, d3] => { results := [.lit (.bool false)], args := [d1, d2, d3] }
  | _ => none }
def RingOnceWrongFalsely : Prop := ringOnceRow.holds Try.pinned (OpenSpec.ofChange ringOnceWrong)

/-- 'countermandlaw10.CondDoes': WHATEVER THE INPUT: true; the input reads as it did. -/
def condDoesSpec : ChangeSpec := { name := "condDoes", fn := fun _ => fun
  | [d1, d2] => { results := [.lit (.bool true)], args := [d1, d2] }
  | _ => none }
def condDoesRow : OpenClaim := { program := "ytffehagmchcpkaa", sum := "92c7e4bf5816977bbddee3b1ad7f8e4fdd80a52f1dfca0bd693ac88b9369ceaa", func := "countermand/countermandlaw10.CondDoes", spec := "condDoes", unfollowed := true, recurses := true, apart := false }
def CondDoesSaid : Prop := condDoesRow.holds Try.pinned (OpenSpec.ofChange condDoesSpec)

/-- ITS FALSE NEIGHBOUR: 'it returns false'. Refute it at one input. -/
def condDoesWrong : ChangeSpec := { name := "condDoes", fn := fun _ => fun
  | [d1, d2] => { results := [.lit (.bool false)], args := [d1, d2] }
  | _ => none }
def CondDoesWrongFalsely : Prop := condDoesRow.holds Try.pinned (OpenSpec.ofChange condDoesWrong)

/-- 'countermandlaw10.CondOne': WHATEVER THE INPUT: true; the input reads as it did. -/
def condOneSpec : ChangeSpec := { name := "condOne", fn := fun _ => fun
  | [d] => { results := [.lit (.bool true)], args := [d] }
  | _ => none }
def condOneRow : OpenClaim := { program := "ytffehagmchcpkaa", sum := "92c7e4bf5816977bbddee3b1ad7f8e4fdd80a52f1dfca0bd693ac88b9369ceaa", func := "countermand/countermandlaw10.CondOne", spec := "condOne", unfollowed := true, recurses := true, apart := false }
def CondOneSaid : Prop := condOneRow.holds Try.pinned (OpenSpec.ofChange condOneSpec)

/-- ITS FALSE NEIGHBOUR: 'it returns false'. Refute it at one input. -/
def condOneWrong : ChangeSpec := { name := "condOne", fn := fun _ => fun
  | [d] => { results := [.lit (.bool false)], args := [d] }
  | _ => none }
def CondOneWrongFalsely : Prop := condOneRow.holds Try.pinned (OpenSpec.ofChange condOneWrong)

/-- 'countermandlaw10.CondLeaves': WHATEVER THE INPUT: true; the input reads as it did. -/
def condLeavesSpec : ChangeSpec := { name := "condLeaves", fn := fun _ => fun
  | [d1, d2] => { results := [.lit (.bool true)], args := [d1, d2] }
  | _ => none }
def condLeavesRow : OpenClaim := { program := "ytffehagmchcpkaa", sum := "92c7e4bf5816977bbddee3b1ad7f8e4fdd80a52f1dfca0bd693ac88b9369ceaa", func := "countermand/countermandlaw10.CondLeaves", spec := "condLeaves", unfollowed := true, recurses := true, apart := false }
def CondLeavesSaid : Prop := condLeavesRow.holds Try.pinned (OpenSpec.ofChange condLeavesSpec)

/-- ITS FALSE NEIGHBOUR: 'it returns false'. Refute it at one input. -/
def condLeavesWrong : ChangeSpec := { name := "condLeaves", fn := fun _ => fun
  | [d1, d2] => { results := [.lit (.bool false)], args := [d1, d2] }
  | _ => none }
def CondLeavesWrongFalsely : Prop := condLeavesRow.holds Try.pinned (OpenSpec.ofChange condLeavesWrong)

/-- 'countermandlaw15.FlightDoes': WHATEVER THE INPUT: true; the input reads as it did. -/
def flightDoesSpec : ChangeSpec := { name := "flightDoes", fn := fun _ => fun
  | [d1, d2] => { results := [.lit (.bool true)], args := [d1, d2] }
  | _ => none }
def flightDoesRow : OpenClaim := { program := "ytffehagmchcpkaa", sum := "92c7e4bf5816977bbddee3b1ad7f8e4fdd80a52f1dfca0bd693ac88b9369ceaa", func := "countermand/countermandlaw15.FlightDoes", spec := "flightDoes", apart := false }
def FlightDoesSaid : Prop := flightDoesRow.holds Try.pinned (OpenSpec.ofChange flightDoesSpec)

/-- ITS FALSE NEIGHBOUR: 'it returns false'. Refute it at one input. -/
def flightDoesWrong : ChangeSpec := { name := "flightDoes", fn := fun _ => fun
  | [d1, d2] => { results := [.lit (.bool false)], args := [d1, d2] }
  | _ => none }
def FlightDoesWrongFalsely : Prop := flightDoesRow.holds Try.pinned (OpenSpec.ofChange flightDoesWrong)

/-- 'countermandlaw15.FlightOne': WHATEVER THE INPUT: true; the input reads as it did. -/
def flightOneSpec : ChangeSpec := { name := "flightOne", fn := fun _ => fun
  | [d] => { results := [.lit (.bool true)], args := [d] }
  | _ => none }
def flightOneRow : OpenClaim := { program := "ytffehagmchcpkaa", sum := "92c7e4bf5816977bbddee3b1ad7f8e4fdd80a52f1dfca0bd693ac88b9369ceaa", func := "countermand/countermandlaw15.FlightOne", spec := "flightOne", apart := false }
def FlightOneSaid : Prop := flightOneRow.holds Try.pinned (OpenSpec.ofChange flightOneSpec)

/-- ITS FALSE NEIGHBOUR: 'it returns false'. Refute it at one input. -/
def flightOneWrong : ChangeSpec := { name := "flightOne", fn := fun _ => fun
  | [d] => { results := [.lit (.bool false)], args := [d] }
  | _ => none }
def FlightOneWrongFalsely : Prop := flightOneRow.holds Try.pinned (OpenSpec.ofChange flightOneWrong)

/-- 'countermandlaw15.FlightApart': WHATEVER THE INPUT: true; the input reads as it did. -/
def flightApartSpec : ChangeSpec := { name := "flightApart", fn := fun _ => fun
  | [d1, d2, d3] => { results := [.lit (.bool true)], args := [d1, d2, d3] }
  | _ => none }
def flightApartRow : OpenClaim := { program := "ytffehagmchcpkaa", sum := "92c7e4bf5816977bbddee3b1ad7f8e4fdd80a52f1dfca0bd693ac88b9369ceaa", func := "countermand/countermandlaw15.FlightApart", spec := "flightApart", apart := false }
def FlightApartSaid : Prop := flightApartRow.holds Try.pinned (OpenSpec.ofChange flightApartSpec)

/-- ITS FALSE NEIGHBOUR: 'it returns false'. Refute it at one input. -/
def flightApartWrong : ChangeSpec := { name := "flightApart", fn := fun _ => fun
  | [d1, d2, d3] => { results := [.lit (.bool false)], args := [d1, d2, d3] }
  | _ => none }
def FlightApartWrongFalsely : Prop := flightApartRow.holds Try.pinned (OpenSpec.ofChange flightApartWrong)

/-- 'countermandlaw14.TeamLimit': WHATEVER THE INPUT: true; the input reads as it did. -/
def teamLimitSpec : ChangeSpec := { name := "teamLimit", fn := fun _ => fun
  | [d] => { results := [.lit (.bool true)], args := [d] }
  | _ => none }
def teamLimitRow : OpenClaim := { program := "ytffehagmchcpkaa", sum := "92c7e4bf5816977bbddee3b1ad7f8e4fdd80a52f1dfca0bd693ac88b9369ceaa", func := "countermand/countermandlaw14.TeamLimit", spec := "teamLimit", unfollowed := true, recurses := true, apart := false }
def TeamLimitSaid : Prop := teamLimitRow.holds Try.pinned (OpenSpec.ofChange teamLimitSpec)

/-- ITS FALSE NEIGHBOUR: 'it returns false'. Refute it at one input. -/
def teamLimitWrong : ChangeSpec := { name := "teamLimit", fn := fun _ => fun
  | [d] => { results := [.lit (.bool false)], args := [d] }
  | _ => none }
def TeamLimitWrongFalsely : Prop := teamLimitRow.holds Try.pinned (OpenSpec.ofChange teamLimitWrong)

/- THE SECOND FORM. 'bulk': how many values and letters a reading holds, each counted each time it is reached (what is shared counts as often as it is met; a slice's spare places count too). A statement '..UptoSaid' is the law's where the arguments, and the package variables that the reading takes, are together of bulk at most 1048576: NARROWER than '..Said'. Prove '..Said' where nothing that the law and all that it calls make is longer than what came in: it says more and counts as full. Else prove '..UptoSaid'. A law counts once. -/
mutual
def uptoBulk {H : Type} : DataW H → Nat
  | .lit (.string bytes) => bytes.length + 1
  | .lit _ => 1
  | .nil => 1
  | .ptr d => uptoBulk d + 1
  | .slice elems spare => uptoBulkAll elems + uptoBulkAll spare + 1
  | .agg parts => uptoBulkAll parts + 1
  | .iface _ d => uptoBulk d + 1
  | .map entries => uptoBulkEntries entries + 1
  | .held _ => 1
def uptoBulkAll {H : Type} : List (DataW H) → Nat
  | [] => 0
  | d :: r => uptoBulk d + uptoBulkAll r
def uptoBulkEntries {H : Type} : List (Lit × DataW H) → Nat
  | [] => 0
  | x :: r => uptoBulkEntry x + uptoBulkEntries r
def uptoBulkEntry {H : Type} : Lit × DataW H → Nat
  | (.string bytes, d) => bytes.length + uptoBulk d + 1
  | (_, d) => uptoBulk d + 1
 end
def uptoSmall : (H : Type) → List (DataW H) → Bool := fun _ ds => decide (uptoBulkAll ds ≤ 1048576)
def OpenSpec.upto (s : _root_.Go.ChangeSpec) : _root_.Go.OpenSpec := { _root_.Go.OpenSpec.ofChange s with cond := some uptoSmall }

/-- 'countermandlaw02.RingDoes', WHERE WHAT IT READS IS OF BULK AT MOST 1048576: true; the input reads as it did. -/
def ringDoesUptoRow : OpenClaim := { program := "ytffehagmchcpkaa", sum := "92c7e4bf5816977bbddee3b1ad7f8e4fdd80a52f1dfca0bd693ac88b9369ceaa", func := "countermand/countermandlaw02.RingDoes", spec := "ringDoes", apart := false, narrowed := true }
def RingDoesUptoSaid : Prop := ringDoesUptoRow.holds Try.pinned (OpenSpec.upto ringDoesSpec)

/-- 'countermandlaw02.RingOnce', WHERE WHAT IT READS IS OF BULK AT MOST 1048576: true; the input reads as it did. -/
def ringOnceUptoRow : OpenClaim := { program := "ytffehagmchcpkaa", sum := "92c7e4bf5816977bbddee3b1ad7f8e4fdd80a52f1dfca0bd693ac88b9369ceaa", func := "countermand/countermandlaw02.RingOnce", spec := "ringOnce", apart := false, narrowed := true }
def RingOnceUptoSaid : Prop := ringOnceUptoRow.holds Try.pinned (OpenSpec.upto ringOnceSpec)

/-- 'countermandlaw10.CondDoes', WHERE WHAT IT READS IS OF BULK AT MOST 1048576: true; the input reads as it did. -/
def condDoesUptoRow : OpenClaim := { program := "ytffehagmchcpkaa", sum := "92c7e4bf5816977bbddee3b1ad7f8e4fdd80a52f1dfca0bd693ac88b9369ceaa", func := "countermand/countermandlaw10.CondDoes", spec := "condDoes", unfollowed := true, recurses := true, apart := false, narrowed := true }
def CondDoesUptoSaid : Prop := condDoesUptoRow.holds Try.pinned (OpenSpec.upto condDoesSpec)

/-- 'countermandlaw10.CondOne', WHERE WHAT IT READS IS OF BULK AT MOST 1048576: true; the input reads as it did. -/
def condOneUptoRow : OpenClaim := { program := "ytffehagmchcpkaa", sum := "92c7e4bf5816977bbddee3b1ad7f8e4fdd80a52f1dfca0bd693ac88b9369ceaa", func := "countermand/countermandlaw10.CondOne", spec := "condOne", unfollowed := true, recurses := true, apart := false, narrowed := true }
def CondOneUptoSaid : Prop := condOneUptoRow.holds Try.pinned (OpenSpec.upto condOneSpec)

/-- 'countermandlaw10.CondLeaves', WHERE WHAT IT READS IS OF BULK AT MOST 1048576: true; the input reads as it did. -/
def condLeavesUptoRow : OpenClaim := { program := "ytffehagmchcpkaa", sum := "92c7e4bf5816977bbddee3b1ad7f8e4fdd80a52f1dfca0bd693ac88b9369ceaa", func := "countermand/countermandlaw10.CondLeaves", spec := "condLeaves", unfollowed := true, recurses := true, apart := false, narrowed := true }
def CondLeavesUptoSaid : Prop := condLeavesUptoRow.holds Try.pinned (OpenSpec.upto condLeavesSpec)

/-- 'countermandlaw15.FlightDoes', WHERE WHAT IT READS IS OF BULK AT MOST 1048576: true; the input reads as it did. -/
def flightDoesUptoRow : OpenClaim := { program := "ytffehagmchcpkaa", sum := "92c7e4bf5816977bbddee3b1ad7f8e4fdd80a52f1dfca0bd693ac88b9369ceaa", func := "countermand/countermandlaw15.FlightDoes", spec := "flightDoes", apart := false, narrowed := true }
def FlightDoesUptoSaid : Prop := flightDoesUptoRow.holds Try.pinned (OpenSpec.upto flightDoesSpec)

/-- 'countermandlaw15.FlightOne', WHERE WHAT IT READS IS OF BULK AT MOST 1048576: true; the input reads as it did. -/
def flightOneUptoRow : OpenClaim := { program := "ytffehagmchcpkaa", sum := "92c7e4bf5816977bbddee3b1ad7f8e4fdd80a52f1dfca0bd693ac88b9369ceaa", func := "countermand/countermandlaw15.FlightOne", spec := "flightOne", apart := false, narrowed := true }
def FlightOneUptoSaid : Prop := flightOneUptoRow.holds Try.pinned (OpenSpec.upto flightOneSpec)

/-- 'countermandlaw15.FlightApart', WHERE WHAT IT READS IS OF BULK AT MOST 1048576: true; the input reads as it did. -/
def flightApartUptoRow : OpenClaim := { program := "ytffehagmchcpkaa", sum := "92c7e4bf5816977bbddee3b1ad7f8e4fdd80a52f1dfca0bd693ac88b9369ceaa", func := "countermand/countermandlaw15.FlightApart", spec := "flightApart", apart := false, narrowed := true }
def FlightApartUptoSaid : Prop := flightApartUptoRow.holds Try.pinned (OpenSpec.upto flightApartSpec)

/-- 'countermandlaw14.TeamLimit', WHERE WHAT IT READS IS OF BULK AT MOST 1048576: true; the input reads as it did. -/
def teamLimitUptoRow : OpenClaim := { program := "ytffehagmchcpkaa", sum := "92c7e4bf5816977bbddee3b1ad7f8e4fdd80a52f1dfca0bd693ac88b9369ceaa", func := "countermand/countermandlaw14.TeamLimit", spec := "teamLimit", unfollowed := true, recurses := true, apart := false, narrowed := true }
def TeamLimitUptoSaid : Prop := teamLimitUptoRow.holds Try.pinned (OpenSpec.upto teamLimitSpec)

end Rows
end Go.Proofs.Ytffehagmchcpkaa
