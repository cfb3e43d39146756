/-
  No cell of these rows narrows 'for every input' (looked for: loops, veiled, ifaces, maps, wideKeys, modest, calm, conditions, laid).
  DERIVED. THE GIVEN ROWS OF THIS SEAT. 7 by the template 'for every input the law returns true; each argument reads behind the call as it read before'; 0 by the template 'total and deterministic' (their statements: YtdnjdglekifhpaaGreatTotals.lean).
  GIVEN WITH THE SEED: the statements are not yours to turn. If you find one false, say at which input.
  Laid BY PROGRAM, IN A SANDBOX (cutbox-rows.mjs): the forced cells as the released guide's own fill.sh prints them over the translation 6644872460c96cb9… (all of the seat's roots in one cut). By AI agents, Wed Nov 11 2026. No macro, syntax, notation, axiom, sorry.
-/
import Derived.Test.YtdnjdglekifhpaaGreatChecked
import GoSem.Claim
import GoSem.ClaimJoined
import GoSem.ClaimMapViews
import Derived.JoinedTies
import Derived.KernelRfl
namespace Go.Proofs.YtdnjdglekifhpaaGreat
/- THE CELL 'sum', in the pinned program and in every row, IS THE sha256 OF THE DUMP (.gsa) THAT YtdnjdglekifhpaaGreatProg.lean LOADS. Nothing in Lean hashes anything: it is a label: what it is worth is what the hold of that sum in a sandbox is worth. -/
noncomputable def Tryz.pinned : Pinned := { name := "ytdnjdglekifhpaagreat", sum := "6644872460c96cb9ff4075c0dbe351ded1b54a83dd31ce3c3544a144aedf9bcb", checked := Tryz.checked }
namespace Rows
def none {H : Type} : Left H := { results := [], args := [] }

/-- 'ratchetlaw20.TrackTells': WHATEVER THE INPUT: true; the input reads as it did. -/
def trackTellsSpec : ChangeSpec := { name := "trackTells", fn := fun _ => fun
  | [d1, d2, d3] => { results := [.lit (.bool true)], args := [d1, d2, d3] }
  | _ => none }
def trackTellsRow : OpenClaim := { program := "ytdnjdglekifhpaagreat", sum := "6644872460c96cb9ff4075c0dbe351ded1b54a83dd31ce3c3544a144aedf9bcb", func := "ratchet/ratchetlaw20.TrackTells", spec := "trackTells", inPlace := ["math/bits.Add64", "math/bits.Sub64"], unfollowed := true, recurses := true, named := ["math/bits.divideError", "math/bits.overflowError"], apart := false }
def TrackTellsSaid : Prop := trackTellsRow.holds Tryz.pinned (OpenSpec.ofChange trackTellsSpec)

/-- ITS FALSE NEIGHBOUR: 'it returns false'. Refute it at one input. -/
def trackTellsWrong : ChangeSpec := { name := "trackTells", fn := fun _ => fun
  | [d1, d2, d3] => { results := [.lit (.bool false)], args := [d1, d2, d3] }
  | _ => none }
def TrackTellsWrongFalsely : Prop := trackTellsRow.holds Tryz.pinned (OpenSpec.ofChange trackTellsWrong)

/-- 'ratchetlaw20.TrackUp': WHATEVER THE INPUT: true; the input reads as it did. -/
def trackUpSpec : ChangeSpec := { name := "trackUp", fn := fun _ => fun
  | [d1, d2, d3] => { results := [.lit (.bool true)], args := [d1, d2, d3] }
  | _ => none }
def trackUpRow : OpenClaim := { program := "ytdnjdglekifhpaagreat", sum := "6644872460c96cb9ff4075c0dbe351ded1b54a83dd31ce3c3544a144aedf9bcb", func := "ratchet/ratchetlaw20.TrackUp", spec := "trackUp", inPlace := ["math/bits.Add64", "math/bits.Sub64"], unfollowed := true, recurses := true, named := ["math/bits.divideError", "math/bits.overflowError"], apart := false }
def TrackUpSaid : Prop := trackUpRow.holds Tryz.pinned (OpenSpec.ofChange trackUpSpec)

/-- ITS FALSE NEIGHBOUR: 'it returns false'. Refute it at one input. -/
def trackUpWrong : ChangeSpec := { name := "trackUp", fn := fun _ => fun
  | [d1, d2, d3] => { results := [.lit (.bool false)], args := [d1, d2, d3] }
  | _ => none }
def TrackUpWrongFalsely : Prop := trackUpRow.holds Tryz.pinned (OpenSpec.ofChange trackUpWrong)

/-- 'ratchetlaw20.TrackUpdates': WHATEVER THE INPUT: true; the input reads as it did. -/
def trackUpdatesSpec : ChangeSpec := { name := "trackUpdates", fn := fun _ => fun
  | [d1, d2, d3] => { results := [.lit (.bool true)], args := [d1, d2, d3] }
  | _ => none }
def trackUpdatesRow : OpenClaim := { program := "ytdnjdglekifhpaagreat", sum := "6644872460c96cb9ff4075c0dbe351ded1b54a83dd31ce3c3544a144aedf9bcb", func := "ratchet/ratchetlaw20.TrackUpdates", spec := "trackUpdates", inPlace := ["math/bits.Add64", "math/bits.Sub64"], unfollowed := true, recurses := true, named := ["math/bits.divideError", "math/bits.overflowError"], apart := false }
def TrackUpdatesSaid : Prop := trackUpdatesRow.holds Tryz.pinned (OpenSpec.ofChange trackUpdatesSpec)

/-- ITS FALSE NEIGHBOUR: 'it returns false'. Refute it at one input. -/
def trackUpdatesWrong : ChangeSpec := { name := "trackUpdates", fn := fun _ => fun
  | [d1, d2, d3] => { results := [.lit (.bool false)], args := [d1, d2, d3] }
  | _ => none }
def TrackUpdatesWrongFalsely : Prop := trackUpdatesRow.holds Tryz.pinned (OpenSpec.ofChange trackUpdatesWrong)

/-- 'ratchetlaw20.TrackIn': WHATEVER THE INPUT: true; the input reads as it did. -/
def trackInSpec : ChangeSpec := { name := "trackIn", fn := fun _ => fun
  | [d1, d2, d3] => { results := [.lit (.bool true)], args := [d1, d2, d3] }
  | _ => none }
def trackInRow : OpenClaim := { program := "ytdnjdglekifhpaagreat", sum := "6644872460c96cb9ff4075c0dbe351ded1b54a83dd31ce3c3544a144aedf9bcb", func := "ratchet/ratchetlaw20.TrackIn", spec := "trackIn", inPlace := ["math/bits.Add64", "math/bits.Sub64"], unfollowed := true, recurses := true, named := ["math/bits.divideError", "math/bits.overflowError"], apart := false }
def TrackInSaid : Prop := trackInRow.holds Tryz.pinned (OpenSpec.ofChange trackInSpec)

/-- ITS FALSE NEIGHBOUR: 'it returns false'. Refute it at one input. -/
def trackInWrong : ChangeSpec := { name := "trackIn", fn := fun _ => fun
  | [d1, d2, d3] => { results := [.lit (.bool false)], args := [d1, d2, d3] }
  | _ => none }
def TrackInWrongFalsely : Prop := trackInRow.holds Tryz.pinned (OpenSpec.ofChange trackInWrong)

/-- 'ratchetlaw20.TrackKept': WHATEVER THE INPUT: true; the input reads as it did. -/
def trackKeptSpec : ChangeSpec := { name := "trackKept", fn := fun _ => fun
  | [d1, d2] => { results := [.lit (.bool true)], args := [d1, d2] }
  | _ => none }
def trackKeptRow : OpenClaim := { program := "ytdnjdglekifhpaagreat", sum := "6644872460c96cb9ff4075c0dbe351ded1b54a83dd31ce3c3544a144aedf9bcb", func := "ratchet/ratchetlaw20.TrackKept", spec := "trackKept", inPlace := ["math/bits.Add64", "math/bits.Sub64"], unfollowed := true, recurses := true, named := ["math/bits.divideError", "math/bits.overflowError"], apart := false }
def TrackKeptSaid : Prop := trackKeptRow.holds Tryz.pinned (OpenSpec.ofChange trackKeptSpec)

/-- ITS FALSE NEIGHBOUR: 'it returns false'. Refute it at one input. -/
def trackKeptWrong : ChangeSpec := { name := "trackKept", fn := fun _ => fun
  | [d1, d2] => { results := [.lit (.bool false)], args := [d1, d2] }
  | _ => none }
def TrackKeptWrongFalsely : Prop := trackKeptRow.holds Tryz.pinned (OpenSpec.ofChange trackKeptWrong)

/-- 'ratchetlaw20.TrackMom': WHATEVER THE INPUT: true; the input reads as it did. -/
def trackMomSpec : ChangeSpec := { name := "trackMom", fn := fun _ => fun
  | [d] => { results := [.lit (.bool true)], args := [d] }
  | _ => none }
def trackMomRow : OpenClaim := { program := "ytdnjdglekifhpaagreat", sum := "6644872460c96cb9ff4075c0dbe351ded1b54a83dd31ce3c3544a144aedf9bcb", func := "ratchet/ratchetlaw20.TrackMom", spec := "trackMom", inPlace := ["math/bits.Add64", "math/bits.Sub64"], unfollowed := true, recurses := true, named := ["math/bits.divideError", "math/bits.overflowError"], apart := false }
def TrackMomSaid : Prop := trackMomRow.holds Tryz.pinned (OpenSpec.ofChange trackMomSpec)

/-- ITS FALSE NEIGHBOUR: 'it returns false'. Refute it at one input. -/
def trackMomWrong : ChangeSpec := { name := "trackMom", fn := fun _ => fun
  | [d] => { results := [.lit (.bool false)], args := [d] }
  | _ => none }
def TrackMomWrongFalsely : Prop := trackMomRow.holds Tryz.pinned (OpenSpec.ofChange trackMomWrong)

/-- 'ratchetlaw20.TrackAdam': WHATEVER THE INPUT: true; the input reads as it did. -/
def trackAdamSpec : ChangeSpec := { name := "trackAdam", fn := fun _ => fun
  | [d1, d2, d3] => { results := [.lit (.bool true)], args := [d1, d2, d3] }
  | _ => none }
def trackAdamRow : OpenClaim := { program := "ytdnjdglekifhpaagreat", sum := "6644872460c96cb9ff4075c0dbe351ded1b54a83dd31ce3c3544a144aedf9bcb", func := "ratchet/ratchetlaw20.TrackAdam", spec := "trackAdam", inPlace := ["math/bits.Add64", "math/bits.Sub64"], unfollowed := true, recurses := true, named := ["math/bits.divideError", "math/bits.overflowError"], apart := false }
def TrackAdamSaid : Prop := trackAdamRow.holds Tryz.pinned (OpenSpec.ofChange trackAdamSpec)

/-- ITS FALSE NEIGHBOUR: 'it returns false'. Refute it at one input. -/
def trackAdamWrong : ChangeSpec := { name := "trackAdam", fn := fun _ => fun
  | [d1, d2, d3] => { results := [.lit (.bool false)], args := [d1, d2, d3] }
  | _ => none }
def TrackAdamWrongFalsely : Prop := trackAdamRow.holds Tryz.pinned (OpenSpec.ofChange trackAdamWrong)

/- THE SECOND FORM. 'bulk': how many values and letters a reading holds, each counted each time it is reached (what is shared counts as often as it is met; a slice's spare places count too). A statement '..UptoSaid' is the law's where the arguments, and the package variables that the reading takes, are together of bulk at most 1048576: NARROWER than '..Said'. Prove '..Said' where nothing that the law and all that it calls make is longer than what came in: it says more and counts as full. Else prove '..UptoSaid'. A law counts once. -/
mutual
def uptoBulk {H : Type} : DataW H → Nat
  | .lit (.string bytes) => bytes.length + 1
  | .lit _ => 1
  | .nil => 1
  | .ptr d => uptoBulk d + 1
  | .slice elems spare => uptoBulkAll elems + uptoBulkAll spare + 1
  | .agg parts => uptoBulkAll parts + 1
  | .iface _ d => uptoBulk d + 1
  | .map entries => uptoBulkEntries entries + 1
  | .held _ => 1
def uptoBulkAll {H : Type} : List (DataW H) → Nat
  | [] => 0
  | d :: r => uptoBulk d + uptoBulkAll r
def uptoBulkEntries {H : Type} : List (Lit × DataW H) → Nat
  | [] => 0
  | x :: r => uptoBulkEntry x + uptoBulkEntries r
def uptoBulkEntry {H : Type} : Lit × DataW H → Nat
  | (.string bytes, d) => bytes.length + uptoBulk d + 1
  | (_, d) => uptoBulk d + 1
 end
def uptoSmall : (H : Type) → List (DataW H) → Bool := fun _ ds => decide (uptoBulkAll ds ≤ 1048576)
def OpenSpec.upto (s : _root_.Go.ChangeSpec) : _root_.Go.OpenSpec := { _root_.Go.OpenSpec.ofChange s with cond := some uptoSmall }

/-- 'ratchetlaw20.TrackTells', WHERE WHAT IT READS IS OF BULK AT MOST 1048576: true; the input reads as it did. -/
def trackTellsUptoRow : OpenClaim := { program := "ytdnjdglekifhpaagreat", sum := "6644872460c96cb9ff4075c0dbe351ded1b54a83dd31ce3c3544a144aedf9bcb", func := "ratchet/ratchetlaw20.TrackTells", spec := "trackTells", inPlace := ["math/bits.Add64", "math/bits.Sub64"], unfollowed := true, recurses := true, named := ["math/bits.divideError", "math/bits.overflowError"], apart := false, narrowed := true }
def TrackTellsUptoSaid : Prop := trackTellsUptoRow.holds Tryz.pinned (OpenSpec.upto trackTellsSpec)

/-- 'ratchetlaw20.TrackUp', WHERE WHAT IT READS IS OF BULK AT MOST 1048576: true; the input reads as it did. -/
def trackUpUptoRow : OpenClaim := { program := "ytdnjdglekifhpaagreat", sum := "6644872460c96cb9ff4075c0dbe351ded1b54a83dd31ce3c3544a144aedf9bcb", func := "ratchet/ratchetlaw20.TrackUp", spec := "trackUp", inPlace := ["math/bits.Add64", "math/bits.Sub64"], unfollowed := true, recurses := true, named := ["math/bits.divideError", "math/bits.overflowError"], apart := false, narrowed := true }
def TrackUpUptoSaid : Prop := trackUpUptoRow.holds Tryz.pinned (OpenSpec.upto trackUpSpec)

/-- 'ratchetlaw20.TrackUpdates', WHERE WHAT IT READS IS OF BULK AT MOST 1048576: true; the input reads as it did. -/
def trackUpdatesUptoRow : OpenClaim := { program := "ytdnjdglekifhpaagreat", sum := "6644872460c96cb9ff4075c0dbe351ded1b54a83dd31ce3c3544a144aedf9bcb", func := "ratchet/ratchetlaw20.TrackUpdates", spec := "trackUpdates", inPlace := ["math/bits.Add64", "math/bits.Sub64"], unfollowed := true, recurses := true, named := ["math/bits.divideError", "math/bits.overflowError"], apart := false, narrowed := true }
def TrackUpdatesUptoSaid : Prop := trackUpdatesUptoRow.holds Tryz.pinned (OpenSpec.upto trackUpdatesSpec)

/-- 'ratchetlaw20.TrackIn', WHERE WHAT IT READS IS OF BULK AT MOST 1048576: true; the input reads as it did. -/
def trackInUptoRow : OpenClaim := { program := "ytdnjdglekifhpaagreat", sum := "6644872460c96cb9ff4075c0dbe351ded1b54a83dd31ce3c3544a144aedf9bcb", func := "ratchet/ratchetlaw20.TrackIn", spec := "trackIn", inPlace := ["math/bits.Add64", "math/bits.Sub64"], unfollowed := true, recurses := true, named := ["math/bits.divideError", "math/bits.overflowError"], apart := false, narrowed := true }
def TrackInUptoSaid : Prop := trackInUptoRow.holds Tryz.pinned (OpenSpec.upto trackInSpec)

/-- 'ratchetlaw20.TrackKept', WHERE WHAT IT READS IS OF BULK AT MOST 1048576: true; the input reads as it did. -/
def trackKeptUptoRow : OpenClaim := { program := "ytdnjdglekifhpaagreat", sum := "6644872460c96cb9ff4075c0dbe351ded1b54a83dd31ce3c3544a144aedf9bcb", func := "ratchet/ratchetlaw20.TrackKept", spec := "trackKept", inPlace := ["math/bits.Add64", "math/bits.Sub64"], unfollowed := true, recurses := true, named := ["math/bits.divideError", "math/bits.overflowError"], apart := false, narrowed := true }
def TrackKeptUptoSaid : Prop := trackKeptUptoRow.holds Tryz.pinned (OpenSpec.upto trackKeptSpec)

/-- 'ratchetlaw20.TrackMom', WHERE WHAT IT READS IS OF BULK AT MOST 1048576: true; the input reads as it did. -/
def trackMomUptoRow : OpenClaim := { program := "ytdnjdglekifhpaagreat", sum := "6644872460c96cb9ff4075c0dbe351ded1b54a83dd31ce3c3544a144aedf9bcb", func := "ratchet/ratchetlaw20.TrackMom", spec := "trackMom", inPlace := ["math/bits.Add64", "math/bits.Sub64"], unfollowed := true, recurses := true, named := ["math/bits.divideError", "math/bits.overflowError"], apart := false, narrowed := true }
def TrackMomUptoSaid : Prop := trackMomUptoRow.holds Tryz.pinned (OpenSpec.upto trackMomSpec)

/-- 'ratchetlaw20.TrackAdam', WHERE WHAT IT READS IS OF BULK AT MOST 1048576: true; the input reads as it did. -/
def trackAdamUptoRow : OpenClaim := { program := "ytdnjdglekifhpaagreat", sum := "6644872460c96cb9ff4075c0dbe351ded1b54a83dd31ce3c3544a144aedf9bcb", func := "ratchet/ratchetlaw20.TrackAdam", spec := "trackAdam", inPlace := ["math/bits.Add64", "math/bits.Sub64"], unfollowed := true, recurses := true, named := ["math/bits.divideError", "math/bits.overflowError"], apart := false, narrowed := true }
def TrackAdamUptoSaid : Prop := trackAdamUptoRow.holds Tryz.pinned (OpenSpec.upto trackAdamSpec)

end Rows
end Go.Proofs.YtdnjdglekifhpaaGreat
