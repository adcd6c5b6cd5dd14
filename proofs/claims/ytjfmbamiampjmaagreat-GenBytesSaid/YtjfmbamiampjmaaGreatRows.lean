/-
  No cell of these rows narrows 'for every input' (looked for: loops, veiled, ifaces, maps, wideKeys, modest, calm, conditions, laid).
  DERIVED. THE GIVEN ROWS OF THIS SEAT. 2 by the template 'for every input the law returns true; each argument reads behind the call as it read before'; 0 by the template 'total and deterministic' (their statements: YtjfmbamiampjmaaGreatTotals.lean).
  GIVEN WITH THE SEED: the statements are not yours to turn. If you find one false, say at which input.
  Laid BY PROGRAM, IN A SANDBOX (cutbox-rows.mjs): the forced cells as the released guide's own fill.sh prints them over the translation 9b6a7d451759f270… (all of the seat's roots in one cut). By AI agents, Wed Nov 11 2026. No macro, syntax, notation, axiom, sorry.
-/
import Derived.Test.YtjfmbamiampjmaaGreatChecked
import GoSem.Claim
import GoSem.ClaimJoined
import GoSem.ClaimMapViews
import Derived.JoinedTies
import Derived.KernelRfl
namespace Go.Proofs.YtjfmbamiampjmaaGreat
/- THE CELL 'sum', in the pinned program and in every row, IS THE sha256 OF THE DUMP (.gsa) THAT YtjfmbamiampjmaaGreatProg.lean LOADS. Nothing in Lean hashes anything: it is a label: what it is worth is what the hold of that sum in a sandbox is worth. -/
noncomputable def Tryz.pinned : Pinned := { name := "ytjfmbamiampjmaagreat", sum := "9b6a7d451759f2703567bcf7aa02b62eca7909fd8659d37972592a0af01cdac7", checked := Tryz.checked }
namespace Rows
def none {H : Type} : Left H := { results := [], args := [] }

/-- 'gleanlaw21.GenBytes': WHATEVER THE INPUT: true; the input reads as it did. -/
def genBytesSpec : ChangeSpec := { name := "genBytes", fn := fun _ => fun
  | [d1, d2] => { results := [.lit (.bool true)], args := [d1, d2] }
  | _ => none }
def genBytesRow : OpenClaim := { program := "ytjfmbamiampjmaagreat", sum := "9b6a7d451759f2703567bcf7aa02b62eca7909fd8659d37972592a0af01cdac7", func := "glean/gleanlaw21.GenBytes", spec := "genBytes", inPlace := ["sync/atomic.AddInt64", "internal/bytealg.Compare", "slices.overlaps[glean/page.entry]", "slices.overlaps[[]glean/page.entry]", "math/bits.Add64", "math/bits.Sub64"], unfollowed := true, recurses := true, named := ["math/bits.divideError", "math/bits.overflowError"], apart := false }
def GenBytesSaid : Prop := genBytesRow.holds Tryz.pinned (OpenSpec.ofChange genBytesSpec)

/-- ITS FALSE NEIGHBOUR: 'it returns false'. Refute it at one input. -/
def genBytesWrong : ChangeSpec := { name := "genBytes", fn := fun _ => fun
  | [d1, d2] => { results := [.lit (.bool false)], args := [d1, d2] }
  | _ => none }
def GenBytesWrongFalsely : Prop := genBytesRow.holds Tryz.pinned (OpenSpec.ofChange genBytesWrong)

/-- 'gleanlaw21.GenBack': WHATEVER THE INPUT: true; the input reads as it did. -/
def genBackSpec : ChangeSpec := { name := "genBack", fn := fun _ => fun
  | [d1, d2] => { results := [.lit (.bool true)], args := [d1, d2] }
  | _ => none }
def genBackRow : OpenClaim := { program := "ytjfmbamiampjmaagreat", sum := "9b6a7d451759f2703567bcf7aa02b62eca7909fd8659d37972592a0af01cdac7", func := "glean/gleanlaw21.GenBack", spec := "genBack", inPlace := ["sync/atomic.AddInt64", "internal/bytealg.Compare", "slices.overlaps[glean/page.entry]", "slices.overlaps[[]glean/page.entry]", "math/bits.Add64", "math/bits.Sub64"], unfollowed := true, recurses := true, named := ["math/bits.divideError", "math/bits.overflowError"], apart := false }
def GenBackSaid : Prop := genBackRow.holds Tryz.pinned (OpenSpec.ofChange genBackSpec)

/-- ITS FALSE NEIGHBOUR: 'it returns false'. Refute it at one input. -/
def genBackWrong : ChangeSpec := { name := "genBack", fn := fun _ => fun
  | [d1, d2] => { results := [.lit (.bool false)], args := [d1, d2] }
  | _ => none }
def GenBackWrongFalsely : Prop := genBackRow.holds Tryz.pinned (OpenSpec.ofChange genBackWrong)

/- THE SECOND FORM. 'bulk': how many values and letters a reading holds, each counted each time it is reached (what is shared counts as often as it is met; a slice's spare places count too). A statement '..UptoSaid' is the law's where the arguments, and the package variables that the reading takes, are together of bulk at most 1048576: NARROWER than '..Said'. Prove '..Said' where nothing that the law and all that it calls make is longer than what came in: it says more and counts as full. Else prove '..UptoSaid'. A law counts once. -/
mutual
def uptoBulk {H : Type} : DataW H → Nat
  | .lit (.string bytes) => bytes.length + 1
  | .lit _ => 1
  | .nil => 1
  | .ptr d => uptoBulk d + 1
  | .slice elems spare => uptoBulkAll elems + uptoBulkAll spare + 1
  | .agg parts => uptoBulkAll parts + 1
  | .iface _ d => uptoBulk d + 1
  | .map entries => uptoBulkEntries entries + 1
  | .held _ => 1
def uptoBulkAll {H : Type} : List (DataW H) → Nat
  | [] => 0
  | d :: r => uptoBulk d + uptoBulkAll r
def uptoBulkEntries {H : Type} : List (Lit × DataW H) → Nat
  | [] => 0
  | x :: r => uptoBulkEntry x + uptoBulkEntries r
def uptoBulkEntry {H : Type} : Lit × DataW H → Nat
  | (.string bytes, d) => bytes.length + uptoBulk d + 1
  | (_, d) => uptoBulk d + 1
 end
def uptoSmall : (H : Type) → List (DataW H) → Bool := fun _ ds => decide (uptoBulkAll ds ≤ 1048576)
def OpenSpec.upto (s : _root_.Go.ChangeSpec) : _root_.Go.OpenSpec := { _root_.Go.OpenSpec.ofChange s with cond := some uptoSmall }

/-- 'gleanlaw21.GenBytes', WHERE WHAT IT READS IS OF BULK AT MOST 1048576: true; the input reads as it did. -/
def genBytesUptoRow : OpenClaim := { program := "ytjfmbamiampjmaagreat", sum := "9b6a7d451759f2703567bcf7aa02b62eca7909fd8659d37972592a0af01cdac7", func := "glean/gleanlaw21.GenBytes", spec := "genBytes", inPlace := ["sync/atomic.AddInt64", "internal/bytealg.Compare", "slices.overlaps[glean/page.entry]", "slices.overlaps[[]glean/page.entry]", "math/bits.Add64", "math/bits.Sub64"], unfollowed := true, recurses := true, named := ["math/bits.divideError", "math/bits.overflowError"], apart := false, narrowed := true }
def GenBytesUptoSaid : Prop := genBytesUptoRow.holds Tryz.pinned (OpenSpec.upto genBytesSpec)

/-- 'gleanlaw21.GenBack', WHERE WHAT IT READS IS OF BULK AT MOST 1048576: true; the input reads as it did. -/
def genBackUptoRow : OpenClaim := { program := "ytjfmbamiampjmaagreat", sum := "9b6a7d451759f2703567bcf7aa02b62eca7909fd8659d37972592a0af01cdac7", func := "glean/gleanlaw21.GenBack", spec := "genBack", inPlace := ["sync/atomic.AddInt64", "internal/bytealg.Compare", "slices.overlaps[glean/page.entry]", "slices.overlaps[[]glean/page.entry]", "math/bits.Add64", "math/bits.Sub64"], unfollowed := true, recurses := true, named := ["math/bits.divideError", "math/bits.overflowError"], apart := false, narrowed := true }
def GenBackUptoSaid : Prop := genBackUptoRow.holds Tryz.pinned (OpenSpec.upto genBackSpec)

end Rows
end Go.Proofs.YtjfmbamiampjmaaGreat
