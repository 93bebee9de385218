/-
  No cell of these rows narrows 'for every input' (looked for: loops, veiled, ifaces, maps, wideKeys, modest, calm, conditions, laid).
  DERIVED. THE GIVEN ROWS OF THIS SEAT. 5 by the template 'for every input the law returns true; each argument reads behind the call as it read before'; 0 by the template 'total and deterministic' (their statements: YtjcbapilifemcaaTotals.lean).
  GIVEN WITH THE SEED: the statements are not yours to turn. If you find one false, say at which input.
  Laid BY PROGRAM, IN A SANDBOX (cutbox-rows.mjs): the forced cells as the released guide's own fill.sh prints them over the translation bc3ab56084abc24e… (all of the seat's roots in one cut). By AI agents, Wed Nov 11 2026. No macro, syntax, notation, axiom, sorry.
-/
import Derived.Test.YtjcbapilifemcaaChecked
import GoSem.Claim
import GoSem.ClaimJoined
import GoSem.ClaimMapViews
import Derived.JoinedTies
import Derived.KernelRfl
namespace Go.Proofs.Ytjcbapilifemcaa
/- THE CELL 'sum', in the pinned program and in every row, IS THE sha256 OF THE DUMP (.gsa) THAT YtjcbapilifemcaaProg.lean LOADS. Nothing in Lean hashes anything: it is a label: what it is worth is what the hold of that sum in a sandbox is worth. -/
noncomputable def Try.pinned : Pinned := { name := "ytjcbapilifemcaa", sum := "bc3ab56084abc24e52e48fdfd0e8397028be47e06e96fdaae084c889b9857ee6", checked := Try.checked }
namespace Rows
def none {H : Type} : Left H := { results := [], args := [] }

/-- 'cotterlaw11.AtomDoes': WHATEVER THE INPUT: true; the input reads as it did. -/
def atomDoesSpec : ChangeSpec := { name := "atomDoes", fn := fun _ => fun
  | [d1, d2] => { results := [.lit (.bool true)], args := [d1, d2] }
  | _ => none }
def atomDoesRow : OpenClaim := { program := "ytjcbapilifemcaa", sum := "bc3ab56084abc24e52e48fdfd0e8397028be47e06e96fdaae084c889b9857ee6", func := "cotter/cotterlaw11.AtomDoes", spec := "atomDoes", unfollowed := true, recurses := true, apart := false }
def AtomDoesSaid : Prop := atomDoesRow.holds Try.pinned (OpenSpec.ofChange atomDoesSpec)

/-- ITS FALSE NEIGHBOUR: 'it returns false'. Refute it at one input. -/
def atomDoesWrong : ChangeSpec := { name := "atomDoes", fn := fun _ => fun
  | [d1, d2] => { results := [.lit (.bool false)], args := [d1, d2] }
  | _ => none }
def AtomDoesWrongFalsely : Prop := atomDoesRow.holds Try.pinned (OpenSpec.ofChange atomDoesWrong)

/-- 'cotterlaw11.AtomStays': WHATEVER THE INPUT: true; the input reads as it did. -/
def atomStaysSpec : ChangeSpec := { name := "atomStays", fn := fun _ => fun
  | [d1, d2] => { results := [.lit (.bool true)], args := [d1, d2] }
  | _ => none }
def atomStaysRow : OpenClaim := { program := "ytjcbapilifemcaa", sum := "bc3ab56084abc24e52e48fdfd0e8397028be47e06e96fdaae084c889b9857ee6", func := "cotter/cotterlaw11.AtomStays", spec := "atomStays", unfollowed := true, recurses := true, apart := false }
def AtomStaysSaid : Prop := atomStaysRow.holds Try.pinned (OpenSpec.ofChange atomStaysSpec)

/-- ITS FALSE NEIGHBOUR: 'it returns false'. Refute it at one input. -/
def atomStaysWrong : ChangeSpec := { name := "atomStays", fn := fun _ => fun
  | [d1, d2] => { results := [.lit (.bool false)], args := [d1, d2] }
  | _ => none }
def AtomStaysWrongFalsely : Prop := atomStaysRow.holds Try.pinned (OpenSpec.ofChange atomStaysWrong)

/-- 'cotterlaw11.AtomOrder': WHATEVER THE INPUT: true; the input reads as it did. -/
def atomOrderSpec : ChangeSpec := { name := "atomOrder", fn := fun _ => fun
  | [d1, d2] => { results := [.lit (.bool true)], args := [d1, d2] }
  | _ => none }
def atomOrderRow : OpenClaim := { program := "ytjcbapilifemcaa", sum := "bc3ab56084abc24e52e48fdfd0e8397028be47e06e96fdaae084c889b9857ee6", func := "cotter/cotterlaw11.AtomOrder", spec := "atomOrder", unfollowed := true, recurses := true, apart := false }
def AtomOrderSaid : Prop := atomOrderRow.holds Try.pinned (OpenSpec.ofChange atomOrderSpec)

/-- ITS FALSE NEIGHBOUR: 'it returns false'. Refute it at one input. -/
def atomOrderWrong : ChangeSpec := { name := "atomOrder", fn := fun _ => fun
  | [d1, d2] => { results := [.lit (.bool false)], args := [d1, d2] }
  | _ => none }
def AtomOrderWrongFalsely : Prop := atomOrderRow.holds Try.pinned (OpenSpec.ofChange atomOrderWrong)

/-- 'cotterlaw11.AtomOwned': WHATEVER THE INPUT: true; the input reads as it did. -/
def atomOwnedSpec : ChangeSpec := { name := "atomOwned", fn := fun _ => fun
  | [d1, d2] => { results := [.lit (.bool true)], args := [d1, d2] }
  | _ => none }
def atomOwnedRow : OpenClaim := { program := "ytjcbapilifemcaa", sum := "bc3ab56084abc24e52e48fdfd0e8397028be47e06e96fdaae084c889b9857ee6", func := "cotter/cotterlaw11.AtomOwned", spec := "atomOwned", unfollowed := true, recurses := true, apart := false }
def AtomOwnedSaid : Prop := atomOwnedRow.holds Try.pinned (OpenSpec.ofChange atomOwnedSpec)

/-- ITS FALSE NEIGHBOUR: 'it returns false'. Refute it at one input. -/
def atomOwnedWrong : ChangeSpec := { name := "atomOwned", fn := fun _ => fun
  | [d1, d2] => { results := [.lit (.bool false)], args := [d1, d2] }
  | _ => none }
def AtomOwnedWrongFalsely : Prop := atomOwnedRow.holds Try.pinned (OpenSpec.ofChange atomOwnedWrong)

/-- 'cotterlaw11.AtomRound': WHATEVER THE INPUT: true; the input reads as it did. -/
def atomRoundSpec : ChangeSpec := { name := "atomRound", fn := fun _ => fun
  | [d] => { results := [.lit (.bool true)], args := [d] }
  | _ => none }
def atomRoundRow : OpenClaim := { program := "ytjcbapilifemcaa", sum := "bc3ab56084abc24e52e48fdfd0e8397028be47e06e96fdaae084c889b9857ee6", func := "cotter/cotterlaw11.AtomRound", spec := "atomRound", unfollowed := true, recurses := true, apart := false }
def AtomRoundSaid : Prop := atomRoundRow.holds Try.pinned (OpenSpec.ofChange atomRoundSpec)

/-- ITS FALSE NEIGHBOUR: 'it returns false'. Refute it at one input. -/
def atomRoundWrong : ChangeSpec := { name := "atomRound", fn := fun _ => fun
  | [d] => { results := [.lit (.bool false)], args := [d] }
  | _ => none }
def AtomRoundWrongFalsely : Prop := atomRoundRow.holds Try.pinned (OpenSpec.ofChange atomRoundWrong)

/- THE SECOND FORM. 'bulk': how many values and letters a reading holds, each counted each time it is reached (what is shared counts as often as it is met; a slice's spare places count too). A statement '..UptoSaid' is the law's where the arguments, and the package variables that the reading takes, are together of bulk at most 1048576: NARROWER than '..Said'. Prove '..Said' where nothing that the law and all that it calls make is longer than what came in: it says more and counts as full. Else prove '..UptoSaid'. A law counts once. -/
mutual
def uptoBulk {H : Type} : DataW H → Nat
  | .lit (.string bytes) => bytes.length + 1
  | .lit _ => 1
  | .nil => 1
  | .ptr d => uptoBulk d + 1
  | .slice elems spare => uptoBulkAll elems + uptoBulkAll spare + 1
  | .agg parts => uptoBulkAll parts + 1
  | .iface _ d => uptoBulk d + 1
  | .map entries => uptoBulkEntries entries + 1
  | .held _ => 1
def uptoBulkAll {H : Type} : List (DataW H) → Nat
  | [] => 0
  | d :: r => uptoBulk d + uptoBulkAll r
def uptoBulkEntries {H : Type} : List (Lit × DataW H) → Nat
  | [] => 0
  | x :: r => uptoBulkEntry x + uptoBulkEntries r
def uptoBulkEntry {H : Type} : Lit × DataW H → Nat
  | (.string bytes, d) => bytes.length + uptoBulk d + 1
  | (_, d) => uptoBulk d + 1
 end
def uptoSmall : (H : Type) → List (DataW H) → Bool := fun _ ds => decide (uptoBulkAll ds ≤ 1048576)
def OpenSpec.upto (s : _root_.Go.ChangeSpec) : _root_.Go.OpenSpec := { _root_.Go.OpenSpec.ofChange s with cond := some uptoSmall }

/-- 'cotterlaw11.AtomDoes', WHERE WHAT IT READS IS OF BULK AT MOST 1048576: true; the input reads as it did. -/
def atomDoesUptoRow : OpenClaim := { program := "ytjcbapilifemcaa", sum := "bc3ab56084abc24e52e48fdfd0e8397028be47e06e96fdaae084c889b9857ee6", func := "cotter/cotterlaw11.AtomDoes", spec := "atomDoes", unfollowed := true, recurses := true, apart := false, narrowed := true }
def AtomDoesUptoSaid : Prop := atomDoesUptoRow.holds Try.pinned (OpenSpec.upto atomDoesSpec)

/-- 'cotterlaw11.AtomStays', WHERE WHAT IT READS IS OF BULK AT MOST 1048576: true; the input reads as it did. -/
def atomStaysUptoRow : OpenClaim := { program := "ytjcbapilifemcaa", sum := "bc3ab56084abc24e52e48fdfd0e8397028be47e06e96fdaae084c889b9857ee6", func := "cotter/cotterlaw11.AtomStays", spec := "atomStays", unfollowed := true, recurses := true, apart := false, narrowed := true }
def AtomStaysUptoSaid : Prop := atomStaysUptoRow.holds Try.pinned (OpenSpec.upto atomStaysSpec)

/-- 'cotterlaw11.AtomOrder', WHERE WHAT IT READS IS OF BULK AT MOST 1048576: true; the input reads as it did. -/
def atomOrderUptoRow : OpenClaim := { program := "ytjcbapilifemcaa", sum := "bc3ab56084abc24e52e48fdfd0e8397028be47e06e96fdaae084c889b9857ee6", func := "cotter/cotterlaw11.AtomOrder", spec := "atomOrder", unfollowed := true, recurses := true, apart := false, narrowed := true }
def AtomOrderUptoSaid : Prop := atomOrderUptoRow.holds Try.pinned (OpenSpec.upto atomOrderSpec)

/-- 'cotterlaw11.AtomOwned', WHERE WHAT IT READS IS OF BULK AT MOST 1048576: true; the input reads as it did. -/
def atomOwnedUptoRow : OpenClaim := { program := "ytjcbapilifemcaa", sum := "bc3ab56084abc24e52e48fdfd0e8397028be47e06e96fdaae084c889b9857ee6", func := "cotter/cotterlaw11.AtomOwned", spec := "atomOwned", unfollowed := true, recurses := true, apart := false, narrowed := true }
def AtomOwnedUptoSaid : Prop := atomOwnedUptoRow.holds Try.pinned (OpenSpec.upto atomOwnedSpec)

/-- 'cotterlaw11.AtomRound', WHERE WHAT IT READS IS OF BULK AT MOST 1048576: true; the input reads as it did. -/
def atomRoundUptoRow : OpenClaim := { program := "ytjcbapilifemcaa", sum := "bc3ab56084abc24e52e48fdfd0e8397028be47e06e96fdaae084c889b9857ee6", func := "cotter/cotterlaw11.AtomRound", spec := "atomRound", unfollowed := true, recurses := true, apart := false, narrowed := true }
def AtomRoundUptoSaid : Prop := atomRoundUptoRow.holds Try.pinned (OpenSpec.upto atomRoundSpec)

end Rows
end Go.Proofs.Ytjcbapilifemcaa
