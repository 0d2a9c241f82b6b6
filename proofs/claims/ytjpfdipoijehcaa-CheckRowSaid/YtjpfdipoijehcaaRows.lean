/-
  No cell of these rows narrows 'for every input' (looked for: loops, veiled, ifaces, maps, wideKeys, modest, calm, conditions, laid).
  DERIVED. THE GIVEN ROWS OF THIS SEAT. 6 by the template 'for every input the law returns true; each argument reads behind the call as it read before'; 0 by the template 'total and deterministic' (their statements: YtjpfdipoijehcaaTotals.lean).
  GIVEN WITH THE SEED: the statements are not yours to turn. If you find one false, say at which input.
  Laid BY PROGRAM, IN A SANDBOX (cutbox-rows.mjs): the forced cells as the released guide's own fill.sh prints them over the translation 923b2f7aa2ec8c42… (all of the seat's roots in one cut). By AI agents, Wed Nov 11 2026. No macro, syntax, notation, axiom, sorry.
-/
import Derived.Test.YtjpfdipoijehcaaChecked
import GoSem.Claim
import GoSem.ClaimJoined
import GoSem.ClaimMapViews
import Derived.JoinedTies
import Derived.KernelRfl
namespace Go.Proofs.Ytjpfdipoijehcaa
/- THE CELL 'sum', in the pinned program and in every row, IS THE sha256 OF THE DUMP (.gsa) THAT YtjpfdipoijehcaaProg.lean LOADS. Nothing in Lean hashes anything: it is a label: what it is worth is what the hold of that sum in a sandbox is worth. -/
noncomputable def Try.pinned : Pinned := { name := "ytjpfdipoijehcaa", sum := "923b2f7aa2ec8c42c49b25c719fd73f5e4f20d9fb6e800cea6543e23bd8e8622", checked := Try.checked }
namespace Rows
def none {H : Type} : Left H := { results := [], args := [] }

/-- 'coupletlaw14.CheckSounds': WHATEVER THE INPUT: true; the input reads as it did. -/
def checkSoundsSpec : ChangeSpec := { name := "checkSounds", fn := fun _ => fun
  | [d] => { results := [.lit (.bool true)], args := [d] }
  | _ => none }
def checkSoundsRow : OpenClaim := { program := "ytjpfdipoijehcaa", sum := "923b2f7aa2ec8c42c49b25c719fd73f5e4f20d9fb6e800cea6543e23bd8e8622", func := "couplet/coupletlaw14.CheckSounds", spec := "checkSounds", unfollowed := true, recurses := true, apart := false }
def CheckSoundsSaid : Prop := checkSoundsRow.holds Try.pinned (OpenSpec.ofChange checkSoundsSpec)

/-- ITS FALSE NEIGHBOUR: 'it returns false'. Refute it at one input. -/
def checkSoundsWrong : ChangeSpec := { name := "checkSounds", fn := fun _ => fun
  | [d] => { results := [.lit (.bool false)], args := [d] }
  | _ => none }
def CheckSoundsWrongFalsely : Prop := checkSoundsRow.holds Try.pinned (OpenSpec.ofChange checkSoundsWrong)

/-- 'coupletlaw14.CheckParts': WHATEVER THE INPUT: true; the input reads as it did. -/
def checkPartsSpec : ChangeSpec := { name := "checkParts", fn := fun _ => fun
  | [d] => { results := [.lit (.bool true)], args := [d] }
  | _ => none }
def checkPartsRow : OpenClaim := { program := "ytjpfdipoijehcaa", sum := "923b2f7aa2ec8c42c49b25c719fd73f5e4f20d9fb6e800cea6543e23bd8e8622", func := "couplet/coupletlaw14.CheckParts", spec := "checkParts", unfollowed := true, recurses := true, apart := false }
def CheckPartsSaid : Prop := checkPartsRow.holds Try.pinned (OpenSpec.ofChange checkPartsSpec)

/-- ITS FALSE NEIGHBOUR: 'it returns false'. Refute it at one input. -/
def checkPartsWrong : ChangeSpec := { name := "checkParts", fn := fun _ => fun
  | [d] => { results := [.lit (.bool false)], args := [d] }
  | _ => none }
def CheckPartsWrongFalsely : Prop := checkPartsRow.holds Try.pinned (OpenSpec.ofChange checkPartsWrong)

/-- 'coupletlaw14.CheckNext': WHATEVER THE INPUT: true; the input reads as it did. -/
def checkNextSpec : ChangeSpec := { name := "checkNext", fn := fun _ => fun
  | [d1, d2] => { results := [.lit (.bool true)], args := [d1, d2] }
  | _ => none }
def checkNextRow : OpenClaim := { program := "ytjpfdipoijehcaa", sum := "923b2f7aa2ec8c42c49b25c719fd73f5e4f20d9fb6e800cea6543e23bd8e8622", func := "couplet/coupletlaw14.CheckNext", spec := "checkNext", unfollowed := true, recurses := true, apart := false }
def CheckNextSaid : Prop := checkNextRow.holds Try.pinned (OpenSpec.ofChange checkNextSpec)

/-- ITS FALSE NEIGHBOUR: 'it returns false'. Refute it at one input. -/
def checkNextWrong : ChangeSpec := { name := "checkNext", fn := fun _ => fun
  | [d1, d2] => { results := [.lit (.bool false)], args := [d1, d2] }
  | _ => none }
def CheckNextWrongFalsely : Prop := checkNextRow.holds Try.pinned (OpenSpec.ofChange checkNextWrong)

/-- 'coupletlaw14.CheckOnce': WHATEVER THE INPUT: true; the input reads as it did. -/
def checkOnceSpec : ChangeSpec := { name := "checkOnce", fn := fun _ => fun
  | [d1, d2, d3] => { results := [.lit (.bool true)], args := [d1, d2, d3] }
  | _ => none }
def checkOnceRow : OpenClaim := { program := "ytjpfdipoijehcaa", sum := "923b2f7aa2ec8c42c49b25c719fd73f5e4f20d9fb6e800cea6543e23bd8e8622", func := "couplet/coupletlaw14.CheckOnce", spec := "checkOnce", unfollowed := true, recurses := true, apart := false }
def CheckOnceSaid : Prop := checkOnceRow.holds Try.pinned (OpenSpec.ofChange checkOnceSpec)

/-- ITS FALSE NEIGHBOUR: 'it returns false'. Refute it at one input. -/
def checkOnceWrong : ChangeSpec := { name := "checkOnce", fn := fun _ => fun
  | [d1, d2, d3] => { results := [.lit (.bool false)], args := [d1, d2, d3] }
  | _ => none }
def CheckOnceWrongFalsely : Prop := checkOnceRow.holds Try.pinned (OpenSpec.ofChange checkOnceWrong)

/-- 'coupletlaw14.CheckStarts': WHATEVER THE INPUT: true; the input reads as it did. -/
def checkStartsSpec : ChangeSpec := { name := "checkStarts", fn := fun _ => fun
  | [d] => { results := [.lit (.bool true)], args := [d] }
  | _ => none }
def checkStartsRow : OpenClaim := { program := "ytjpfdipoijehcaa", sum := "923b2f7aa2ec8c42c49b25c719fd73f5e4f20d9fb6e800cea6543e23bd8e8622", func := "couplet/coupletlaw14.CheckStarts", spec := "checkStarts", unfollowed := true, recurses := true, apart := false }
def CheckStartsSaid : Prop := checkStartsRow.holds Try.pinned (OpenSpec.ofChange checkStartsSpec)

/-- ITS FALSE NEIGHBOUR: 'it returns false'. Refute it at one input. -/
def checkStartsWrong : ChangeSpec := { name := "checkStarts", fn := fun _ => fun
  | [d] => { results := [.lit (.bool false)], args := [d] }
  | _ => none }
def CheckStartsWrongFalsely : Prop := checkStartsRow.holds Try.pinned (OpenSpec.ofChange checkStartsWrong)

/-- 'coupletlaw14.CheckRow': WHATEVER THE INPUT: true; the input reads as it did. -/
def checkRowSpec : ChangeSpec := { name := "checkRow", fn := fun _ => fun
  | [d] => { results := [.lit (.bool true)], args := [d] }
  | _ => none }
def checkRowRow : OpenClaim := { program := "ytjpfdipoijehcaa", sum := "923b2f7aa2ec8c42c49b25c719fd73f5e4f20d9fb6e800cea6543e23bd8e8622", func := "couplet/coupletlaw14.CheckRow", spec := "checkRow", unfollowed := true, recurses := true, apart := false }
def CheckRowSaid : Prop := checkRowRow.holds Try.pinned (OpenSpec.ofChange checkRowSpec)

/-- ITS FALSE NEIGHBOUR: 'it returns false'. Refute it at one input. -/
def checkRowWrong : ChangeSpec := { name := "checkRow", fn := fun _ => fun
  | [d] => { results := [.lit (.bool false)], args := [d] }
  | _ => none }
def CheckRowWrongFalsely : Prop := checkRowRow.holds Try.pinned (OpenSpec.ofChange checkRowWrong)

/- THE SECOND FORM. 'bulk': how many values and letters a reading holds, each counted each time it is reached (what is shared counts as often as it is met; a slice's spare places count too). A statement '..UptoSaid' is the law's where the arguments, and the package variables that the reading takes, are together of bulk at most 1048576: NARROWER than '..Said'. Prove '..Said' where nothing that the law and all that it calls make is longer than what came in: it says more and counts as full. Else prove '..UptoSaid'. A law counts once. -/
mutual
def uptoBulk {H : Type} : DataW H → Nat
  | .lit (.string bytes) => bytes.length + 1
  | .lit _ => 1
  | .nil => 1
  | .ptr d => uptoBulk d + 1
  | .slice elems spare => uptoBulkAll elems + uptoBulkAll spare + 1
  | .agg parts => uptoBulkAll parts + 1
  | .iface _ d => uptoBulk d + 1
  | .map entries => uptoBulkEntries entries + 1
  | .held _ => 1
def uptoBulkAll {H : Type} : List (DataW H) → Nat
  | [] => 0
  | d :: r => uptoBulk d + uptoBulkAll r
def uptoBulkEntries {H : Type} : List (Lit × DataW H) → Nat
  | [] => 0
  | x :: r => uptoBulkEntry x + uptoBulkEntries r
def uptoBulkEntry {H : Type} : Lit × DataW H → Nat
  | (.string bytes, d) => bytes.length + uptoBulk d + 1
  | (_, d) => uptoBulk d + 1
 end
def uptoSmall : (H : Type) → List (DataW H) → Bool := fun _ ds => decide (uptoBulkAll ds ≤ 1048576)
def OpenSpec.upto (s : _root_.Go.ChangeSpec) : _root_.Go.OpenSpec := { _root_.Go.OpenSpec.ofChange s with cond := some uptoSmall }

/-- 'coupletlaw14.CheckSounds', WHERE WHAT IT READS IS OF BULK AT MOST 1048576: true; the input reads as it did. -/
def checkSoundsUptoRow : OpenClaim := { program := "ytjpfdipoijehcaa", sum := "923b2f7aa2ec8c42c49b25c719fd73f5e4f20d9fb6e800cea6543e23bd8e8622", func := "couplet/coupletlaw14.CheckSounds", spec := "checkSounds", unfollowed := true, recurses := true, apart := false, narrowed := true }
def CheckSoundsUptoSaid : Prop := checkSoundsUptoRow.holds Try.pinned (OpenSpec.upto checkSoundsSpec)

/-- 'coupletlaw14.CheckParts', WHERE WHAT IT READS IS OF BULK AT MOST 1048576: true; the input reads as it did. -/
def checkPartsUptoRow : OpenClaim := { program := "ytjpfdipoijehcaa", sum := "923b2f7aa2ec8c42c49b25c719fd73f5e4f20d9fb6e800cea6543e23bd8e8622", func := "couplet/coupletlaw14.CheckParts", spec := "checkParts", unfollowed := true, recurses := true, apart := false, narrowed := true }
def CheckPartsUptoSaid : Prop := checkPartsUptoRow.holds Try.pinned (OpenSpec.upto checkPartsSpec)

/-- 'coupletlaw14.CheckNext', WHERE WHAT IT READS IS OF BULK AT MOST 1048576: true; the input reads as it did. -/
def checkNextUptoRow : OpenClaim := { program := "ytjpfdipoijehcaa", sum := "923b2f7aa2ec8c42c49b25c719fd73f5e4f20d9fb6e800cea6543e23bd8e8622", func := "couplet/coupletlaw14.CheckNext", spec := "checkNext", unfollowed := true, recurses := true, apart := false, narrowed := true }
def CheckNextUptoSaid : Prop := checkNextUptoRow.holds Try.pinned (OpenSpec.upto checkNextSpec)

/-- 'coupletlaw14.CheckOnce', WHERE WHAT IT READS IS OF BULK AT MOST 1048576: true; the input reads as it did. -/
def checkOnceUptoRow : OpenClaim := { program := "ytjpfdipoijehcaa", sum := "923b2f7aa2ec8c42c49b25c719fd73f5e4f20d9fb6e800cea6543e23bd8e8622", func := "couplet/coupletlaw14.CheckOnce", spec := "checkOnce", unfollowed := true, recurses := true, apart := false, narrowed := true }
def CheckOnceUptoSaid : Prop := checkOnceUptoRow.holds Try.pinned (OpenSpec.upto checkOnceSpec)

/-- 'coupletlaw14.CheckStarts', WHERE WHAT IT READS IS OF BULK AT MOST 1048576: true; the input reads as it did. -/
def checkStartsUptoRow : OpenClaim := { program := "ytjpfdipoijehcaa", sum := "923b2f7aa2ec8c42c49b25c719fd73f5e4f20d9fb6e800cea6543e23bd8e8622", func := "couplet/coupletlaw14.CheckStarts", spec := "checkStarts", unfollowed := true, recurses := true, apart := false, narrowed := true }
def CheckStartsUptoSaid : Prop := checkStartsUptoRow.holds Try.pinned (OpenSpec.upto checkStartsSpec)

/-- 'coupletlaw14.CheckRow', WHERE WHAT IT READS IS OF BULK AT MOST 1048576: true; the input reads as it did. -/
def checkRowUptoRow : OpenClaim := { program := "ytjpfdipoijehcaa", sum := "923b2f7aa2ec8c42c49b25c719fd73f5e4f20d9fb6e800cea6543e23bd8e8622", func := "couplet/coupletlaw14.CheckRow", spec := "checkRow", unfollowed := true, recurses := true, apart := false, narrowed := true }
def CheckRowUptoSaid : Prop := checkRowUptoRow.holds Try.pinned (OpenSpec.upto checkRowSpec)

end Rows
end Go.Proofs.Ytjpfdipoijehcaa
