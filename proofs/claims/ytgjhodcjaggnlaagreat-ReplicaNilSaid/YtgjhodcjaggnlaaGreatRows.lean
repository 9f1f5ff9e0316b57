/-
  No cell of these rows narrows 'for every input' (looked for: loops, veiled, ifaces, maps, wideKeys, modest, calm, conditions, laid).
  DERIVED. THE GIVEN ROWS OF THIS SEAT. 8 by the template 'for every input the law returns true; each argument reads behind the call as it read before'; 0 by the template 'total and deterministic' (their statements: YtgjhodcjaggnlaaGreatTotals.lean).
  GIVEN WITH THE SEED: the statements are not yours to turn. If you find one false, say at which input.
  Laid BY PROGRAM, IN A SANDBOX (cutbox-rows.mjs): the forced cells as the released guide's own fill.sh prints them over the translation d9c2da3109d85d7a… (all of the seat's roots in one cut). By AI agents, Wed Nov 11 2026. No macro, syntax, notation, axiom, sorry.
-/
import Derived.Test.YtgjhodcjaggnlaaGreatChecked
import GoSem.Claim
import GoSem.ClaimJoined
import GoSem.ClaimMapViews
import Derived.JoinedTies
import Derived.KernelRfl
namespace Go.Proofs.YtgjhodcjaggnlaaGreat
/- THE CELL 'sum', in the pinned program and in every row, IS THE sha256 OF THE DUMP (.gsa) THAT YtgjhodcjaggnlaaGreatProg.lean LOADS. Nothing in Lean hashes anything: it is a label: what it is worth is what the hold of that sum in a sandbox is worth. -/
noncomputable def Tryz.pinned : Pinned := { name := "ytgjhodcjaggnlaagreat", sum := "d9c2da3109d85d7ab9049f21f086ce7c6696e6c052e83906e41cae37bfa7375b", checked := Tryz.checked }
namespace Rows
def none {H : Type} : Left H := { results := [], args := [] }

/-- 'vitrinelaw21.ReplicaNil': WHATEVER THE INPUT: true; the input reads as it did. -/
def replicaNilSpec : ChangeSpec := { name := "replicaNil", fn := fun _ => fun
  | [d] => { results := [.lit (.bool true)], args := [d] }
  | _ => none }
def replicaNilRow : OpenClaim := { program := "ytgjhodcjaggnlaagreat", sum := "d9c2da3109d85d7ab9049f21f086ce7c6696e6c052e83906e41cae37bfa7375b", func := "vitrine/vitrinelaw21.ReplicaNil", spec := "replicaNil", inPlace := ["internal/abi.NoEscape", "internal/bytealg.MakeNoZero"], unfollowed := true, recurses := true, apart := false }
def ReplicaNilSaid : Prop := replicaNilRow.holds Tryz.pinned (OpenSpec.ofChange replicaNilSpec)

/-- ITS FALSE NEIGHBOUR: 'it returns false'. Refute it at one input. -/
def replicaNilWrong : ChangeSpec := { name := "replicaNil", fn := fun _ => fun
  | [d] => { results := [.lit (.bool false)], args := [d] }
  | _ => none }
def ReplicaNilWrongFalsely : Prop := replicaNilRow.holds Tryz.pinned (OpenSpec.ofChange replicaNilWrong)

/-- 'vitrinelaw18.StoreNewer': WHATEVER THE INPUT: true; the input reads as it did. -/
def storeNewerSpec : ChangeSpec := { name := "storeNewer", fn := fun _ => fun
  | [d1, d2] => { results := [.lit (.bool true)], args := [d1, d2] }
  | _ => none }
def storeNewerRow : OpenClaim := { program := "ytgjhodcjaggnlaagreat", sum := "d9c2da3109d85d7ab9049f21f086ce7c6696e6c052e83906e41cae37bfa7375b", func := "vitrine/vitrinelaw18.StoreNewer", spec := "storeNewer", inPlace := ["internal/abi.NoEscape", "internal/bytealg.MakeNoZero"], unfollowed := true, recurses := true, apart := false }
def StoreNewerSaid : Prop := storeNewerRow.holds Tryz.pinned (OpenSpec.ofChange storeNewerSpec)

/-- ITS FALSE NEIGHBOUR: 'it returns false'. Refute it at one input. -/
def storeNewerWrong : ChangeSpec := { name := "storeNewer", fn := fun _ => fun
  | [d1, d2] => { results := [.lit (.bool false)], args := [d1, d2] }
  | _ => none }
def StoreNewerWrongFalsely : Prop := storeNewerRow.holds Tryz.pinned (OpenSpec.ofChange storeNewerWrong)

/-- 'vitrinelaw21.ReplicaAsks': WHATEVER THE INPUT: true; the input reads as it did. -/
def replicaAsksSpec : ChangeSpec := { name := "replicaAsks", fn := fun _ => fun
  | [d1, d2] => { results := [.lit (.bool true)], args := [d1, d2] }
  | _ => none }
def replicaAsksRow : OpenClaim := { program := "ytgjhodcjaggnlaagreat", sum := "d9c2da3109d85d7ab9049f21f086ce7c6696e6c052e83906e41cae37bfa7375b", func := "vitrine/vitrinelaw21.ReplicaAsks", spec := "replicaAsks", inPlace := ["internal/abi.NoEscape", "internal/bytealg.MakeNoZero"], unfollowed := true, recurses := true, apart := false }
def ReplicaAsksSaid : Prop := replicaAsksRow.holds Tryz.pinned (OpenSpec.ofChange replicaAsksSpec)

/-- ITS FALSE NEIGHBOUR: 'it returns false'. Refute it at one input. -/
def replicaAsksWrong : ChangeSpec := { name := "replicaAsks", fn := fun _ => fun
  | [d1, d2] => { results := [.lit (.bool false)], args := [d1, d2] }
  | _ => none }
def ReplicaAsksWrongFalsely : Prop := replicaAsksRow.holds Tryz.pinned (OpenSpec.ofChange replicaAsksWrong)

/-- 'vitrinelaw21.ReplicaPlays': WHATEVER THE INPUT: true; the input reads as it did. -/
def replicaPlaysSpec : ChangeSpec := { name := "replicaPlays", fn := fun _ => fun
  | [d1, d2] => { results := [.lit (.bool true)], args := [d1, d2] }
  | _ => none }
def replicaPlaysRow : OpenClaim := { program := "ytgjhodcjaggnlaagreat", sum := "d9c2da3109d85d7ab9049f21f086ce7c6696e6c052e83906e41cae37bfa7375b", func := "vitrine/vitrinelaw21.ReplicaPlays", spec := "replicaPlays", inPlace := ["internal/abi.NoEscape", "internal/bytealg.MakeNoZero"], unfollowed := true, recurses := true, apart := false }
def ReplicaPlaysSaid : Prop := replicaPlaysRow.holds Tryz.pinned (OpenSpec.ofChange replicaPlaysSpec)

/-- ITS FALSE NEIGHBOUR: 'it returns false'. Refute it at one input. -/
def replicaPlaysWrong : ChangeSpec := { name := "replicaPlays", fn := fun _ => fun
  | [d1, d2] => { results := [.lit (.bool false)], args := [d1, d2] }
  | _ => none }
def ReplicaPlaysWrongFalsely : Prop := replicaPlaysRow.holds Tryz.pinned (OpenSpec.ofChange replicaPlaysWrong)

/-- 'vitrinelaw21.ReplicaRises': WHATEVER THE INPUT: true; the input reads as it did. -/
def replicaRisesSpec : ChangeSpec := { name := "replicaRises", fn := fun _ => fun
  | [d] => { results := [.lit (.bool true)], args := [d] }
  | _ => none }
def replicaRisesRow : OpenClaim := { program := "ytgjhodcjaggnlaagreat", sum := "d9c2da3109d85d7ab9049f21f086ce7c6696e6c052e83906e41cae37bfa7375b", func := "vitrine/vitrinelaw21.ReplicaRises", spec := "replicaRises", inPlace := ["internal/abi.NoEscape", "internal/bytealg.MakeNoZero"], unfollowed := true, recurses := true, apart := false }
def ReplicaRisesSaid : Prop := replicaRisesRow.holds Tryz.pinned (OpenSpec.ofChange replicaRisesSpec)

/-- ITS FALSE NEIGHBOUR: 'it returns false'. Refute it at one input. -/
def replicaRisesWrong : ChangeSpec := { name := "replicaRises", fn := fun _ => fun
  | [d] => { results := [.lit (.bool false)], args := [d] }
  | _ => none }
def ReplicaRisesWrongFalsely : Prop := replicaRisesRow.holds Tryz.pinned (OpenSpec.ofChange replicaRisesWrong)

/-- 'vitrinelaw18.StoreNil': WHATEVER THE INPUT: true; the input reads as it did. -/
def storeNilSpec : ChangeSpec := { name := "storeNil", fn := fun _ => fun
  | [d] => { results := [.lit (.bool true)], args := [d] }
  | _ => none }
def storeNilRow : OpenClaim := { program := "ytgjhodcjaggnlaagreat", sum := "d9c2da3109d85d7ab9049f21f086ce7c6696e6c052e83906e41cae37bfa7375b", func := "vitrine/vitrinelaw18.StoreNil", spec := "storeNil", inPlace := ["internal/abi.NoEscape", "internal/bytealg.MakeNoZero"], unfollowed := true, recurses := true, apart := false }
def StoreNilSaid : Prop := storeNilRow.holds Tryz.pinned (OpenSpec.ofChange storeNilSpec)

/-- ITS FALSE NEIGHBOUR: 'it returns false'. Refute it at one input. -/
def storeNilWrong : ChangeSpec := { name := "storeNil", fn := fun _ => fun
  | [d] => { results := [.lit (.bool false)], args := [d] }
  | _ => none }
def StoreNilWrongFalsely : Prop := storeNilRow.holds Tryz.pinned (OpenSpec.ofChange storeNilWrong)

/-- 'vitrinelaw23.SessionNil': WHATEVER THE INPUT: true; the input reads as it did. -/
def sessionNilSpec : ChangeSpec := { name := "sessionNil", fn := fun _ => fun
  | [d] => { results := [.lit (.bool true)], args := [d] }
  | _ => none }
def sessionNilRow : OpenClaim := { program := "ytgjhodcjaggnlaagreat", sum := "d9c2da3109d85d7ab9049f21f086ce7c6696e6c052e83906e41cae37bfa7375b", func := "vitrine/vitrinelaw23.SessionNil", spec := "sessionNil", inPlace := ["internal/abi.NoEscape", "internal/bytealg.MakeNoZero", "slices.overlaps[vitrine/api.Entry]"], unfollowed := true, recurses := true, apart := false }
def SessionNilSaid : Prop := sessionNilRow.holds Tryz.pinned (OpenSpec.ofChange sessionNilSpec)

/-- ITS FALSE NEIGHBOUR: 'it returns false'. Refute it at one input. -/
def sessionNilWrong : ChangeSpec := { name := "sessionNil", fn := fun _ => fun
  | [d] => { results := [.lit (.bool false)], args := [d] }
  | _ => none }
def SessionNilWrongFalsely : Prop := sessionNilRow.holds Tryz.pinned (OpenSpec.ofChange sessionNilWrong)

/-- 'vitrinelaw23.SessionTurned': WHATEVER THE INPUT: true; the input reads as it did. -/
def sessionTurnedSpec : ChangeSpec := { name := "sessionTurned", fn := fun _ => fun
  | [d] => { results := [.lit (.bool true)], args := [d] }
  | _ => none }
def sessionTurnedRow : OpenClaim := { program := "ytgjhodcjaggnlaagreat", sum := "d9c2da3109d85d7ab9049f21f086ce7c6696e6c052e83906e41cae37bfa7375b", func := "vitrine/vitrinelaw23.SessionTurned", spec := "sessionTurned", inPlace := ["internal/abi.NoEscape", "internal/bytealg.MakeNoZero", "slices.overlaps[vitrine/api.Entry]"], unfollowed := true, recurses := true, apart := false }
def SessionTurnedSaid : Prop := sessionTurnedRow.holds Tryz.pinned (OpenSpec.ofChange sessionTurnedSpec)

/-- ITS FALSE NEIGHBOUR: 'it returns false'. Refute it at one input. -/
def sessionTurnedWrong : ChangeSpec := { name := "sessionTurned", fn := fun _ => fun
  | [d] => { results := [.lit (.bool false)], args := [d] }
  | _ => none }
def SessionTurnedWrongFalsely : Prop := sessionTurnedRow.holds Tryz.pinned (OpenSpec.ofChange sessionTurnedWrong)

/- THE SECOND FORM. 'bulk': how many values and letters a reading holds, each counted each time it is reached (what is shared counts as often as it is met; a slice's spare places count too). A statement '..UptoSaid' is the law's where the arguments, and the package variables that the reading takes, are together of bulk at most 1048576: NARROWER than '..Said'. Prove '..Said' where nothing that the law and all that it calls make is longer than what came in: it says more and counts as full. Else prove '..UptoSaid'. A law counts once. -/
mutual
def uptoBulk {H : Type} : DataW H → Nat
  | .lit (.string bytes) => bytes.length + 1
  | .lit _ => 1
  | .nil => 1
  | .ptr d => uptoBulk d + 1
  | .slice elems spare => uptoBulkAll elems + uptoBulkAll spare + 1
  | .agg parts => uptoBulkAll parts + 1
  | .iface _ d => uptoBulk d + 1
  | .map entries => uptoBulkEntries entries + 1
  | .held _ => 1
def uptoBulkAll {H : Type} : List (DataW H) → Nat
  | [] => 0
  | d :: r => uptoBulk d + uptoBulkAll r
def uptoBulkEntries {H : Type} : List (Lit × DataW H) → Nat
  | [] => 0
  | x :: r => uptoBulkEntry x + uptoBulkEntries r
def uptoBulkEntry {H : Type} : Lit × DataW H → Nat
  | (.string bytes, d) => bytes.length + uptoBulk d + 1
  | (_, d) => uptoBulk d + 1
 end
def uptoSmall : (H : Type) → List (DataW H) → Bool := fun _ ds => decide (uptoBulkAll ds ≤ 1048576)
def OpenSpec.upto (s : _root_.Go.ChangeSpec) : _root_.Go.OpenSpec := { _root_.Go.OpenSpec.ofChange s with cond := some uptoSmall }

/-- 'vitrinelaw21.ReplicaNil', WHERE WHAT IT READS IS OF BULK AT MOST 1048576: true; the input reads as it did. -/
def replicaNilUptoRow : OpenClaim := { program := "ytgjhodcjaggnlaagreat", sum := "d9c2da3109d85d7ab9049f21f086ce7c6696e6c052e83906e41cae37bfa7375b", func := "vitrine/vitrinelaw21.ReplicaNil", spec := "replicaNil", inPlace := ["internal/abi.NoEscape", "internal/bytealg.MakeNoZero"], unfollowed := true, recurses := true, apart := false, narrowed := true }
def ReplicaNilUptoSaid : Prop := replicaNilUptoRow.holds Tryz.pinned (OpenSpec.upto replicaNilSpec)

/-- 'vitrinelaw18.StoreNewer', WHERE WHAT IT READS IS OF BULK AT MOST 1048576: true; the input reads as it did. -/
def storeNewerUptoRow : OpenClaim := { program := "ytgjhodcjaggnlaagreat", sum := "d9c2da3109d85d7ab9049f21f086ce7c6696e6c052e83906e41cae37bfa7375b", func := "vitrine/vitrinelaw18.StoreNewer", spec := "storeNewer", inPlace := ["internal/abi.NoEscape", "internal/bytealg.MakeNoZero"], unfollowed := true, recurses := true, apart := false, narrowed := true }
def StoreNewerUptoSaid : Prop := storeNewerUptoRow.holds Tryz.pinned (OpenSpec.upto storeNewerSpec)

/-- 'vitrinelaw21.ReplicaAsks', WHERE WHAT IT READS IS OF BULK AT MOST 1048576: true; the input reads as it did. -/
def replicaAsksUptoRow : OpenClaim := { program := "ytgjhodcjaggnlaagreat", sum := "d9c2da3109d85d7ab9049f21f086ce7c6696e6c052e83906e41cae37bfa7375b", func := "vitrine/vitrinelaw21.ReplicaAsks", spec := "replicaAsks", inPlace := ["internal/abi.NoEscape", "internal/bytealg.MakeNoZero"], unfollowed := true, recurses := true, apart := false, narrowed := true }
def ReplicaAsksUptoSaid : Prop := replicaAsksUptoRow.holds Tryz.pinned (OpenSpec.upto replicaAsksSpec)

/-- 'vitrinelaw21.ReplicaPlays', WHERE WHAT IT READS IS OF BULK AT MOST 1048576: true; the input reads as it did. -/
def replicaPlaysUptoRow : OpenClaim := { program := "ytgjhodcjaggnlaagreat", sum := "d9c2da3109d85d7ab9049f21f086ce7c6696e6c052e83906e41cae37bfa7375b", func := "vitrine/vitrinelaw21.ReplicaPlays", spec := "replicaPlays", inPlace := ["internal/abi.NoEscape", "internal/bytealg.MakeNoZero"], unfollowed := true, recurses := true, apart := false, narrowed := true }
def ReplicaPlaysUptoSaid : Prop := replicaPlaysUptoRow.holds Tryz.pinned (OpenSpec.upto replicaPlaysSpec)

/-- 'vitrinelaw21.ReplicaRises', WHERE WHAT IT READS IS OF BULK AT MOST 1048576: true; the input reads as it did. -/
def replicaRisesUptoRow : OpenClaim := { program := "ytgjhodcjaggnlaagreat", sum := "d9c2da3109d85d7ab9049f21f086ce7c6696e6c052e83906e41cae37bfa7375b", func := "vitrine/vitrinelaw21.ReplicaRises", spec := "replicaRises", inPlace := ["internal/abi.NoEscape", "internal/bytealg.MakeNoZero"], unfollowed := true, recurses := true, apart := false, narrowed := true }
def ReplicaRisesUptoSaid : Prop := replicaRisesUptoRow.holds Tryz.pinned (OpenSpec.upto replicaRisesSpec)

/-- 'vitrinelaw18.StoreNil', WHERE WHAT IT READS IS OF BULK AT MOST 1048576: true; the input reads as it did. -/
def storeNilUptoRow : OpenClaim := { program := "ytgjhodcjaggnlaagreat", sum := "d9c2da3109d85d7ab9049f21f086ce7c6696e6c052e83906e41cae37bfa7375b", func := "vitrine/vitrinelaw18.StoreNil", spec := "storeNil", inPlace := ["internal/abi.NoEscape", "internal/bytealg.MakeNoZero"], unfollowed := true, recurses := true, apart := false, narrowed := true }
def StoreNilUptoSaid : Prop := storeNilUptoRow.holds Tryz.pinned (OpenSpec.upto storeNilSpec)

/-- 'vitrinelaw23.SessionNil', WHERE WHAT IT READS IS OF BULK AT MOST 1048576: true; the input reads as it did. -/
def sessionNilUptoRow : OpenClaim := { program := "ytgjhodcjaggnlaagreat", sum := "d9c2da3109d85d7ab9049f21f086ce7c6696e6c052e83906e41cae37bfa7375b", func := "vitrine/vitrinelaw23.SessionNil", spec := "sessionNil", inPlace := ["internal/abi.NoEscape", "internal/bytealg.MakeNoZero", "slices.overlaps[vitrine/api.Entry]"], unfollowed := true, recurses := true, apart := false, narrowed := true }
def SessionNilUptoSaid : Prop := sessionNilUptoRow.holds Tryz.pinned (OpenSpec.upto sessionNilSpec)

/-- 'vitrinelaw23.SessionTurned', WHERE WHAT IT READS IS OF BULK AT MOST 1048576: true; the input reads as it did. -/
def sessionTurnedUptoRow : OpenClaim := { program := "ytgjhodcjaggnlaagreat", sum := "d9c2da3109d85d7ab9049f21f086ce7c6696e6c052e83906e41cae37bfa7375b", func := "vitrine/vitrinelaw23.SessionTurned", spec := "sessionTurned", inPlace := ["internal/abi.NoEscape", "internal/bytealg.MakeNoZero", "slices.overlaps[vitrine/api.Entry]"], unfollowed := true, recurses := true, apart := false, narrowed := true }
def SessionTurnedUptoSaid : Prop := sessionTurnedUptoRow.holds Tryz.pinned (OpenSpec.upto sessionTurnedSpec)

end Rows
end Go.Proofs.YtgjhodcjaggnlaaGreat
