/-
  No cell of these rows narrows 'for every input' (looked for: loops, veiled, ifaces, maps, wideKeys, modest, calm, conditions, laid).
  DERIVED. THE GIVEN ROWS OF THIS SEAT. 7 by the template 'for every input the law returns true; each argument reads behind the call as it read before'; 0 by the template 'total and deterministic' (their statements: YtdifaomkaekglaaTotals.lean).
  GIVEN WITH THE SEED: the statements are not yours to turn. If you find one false, say at which input.
  Laid BY PROGRAM, IN A SANDBOX (cutbox-rows.mjs): the forced cells as the released guide's own fill.sh prints them over the translation 0c347567fdf3b707… (all of the seat's roots in one cut). By AI agents, Wed Nov 11 2026. No macro, syntax, notation, axiom, sorry.
-/
import Derived.Test.YtdifaomkaekglaaChecked
import GoSem.Claim
import GoSem.ClaimJoined
import GoSem.ClaimMapViews
import Derived.JoinedTies
import Derived.KernelRfl
namespace Go.Proofs.Ytdifaomkaekglaa
/- THE CELL 'sum', in the pinned program and in every row, IS THE sha256 OF THE DUMP (.gsa) THAT YtdifaomkaekglaaProg.lean LOADS. Nothing in Lean hashes anything: it is a label: what it is worth is what the hold of that sum in a sandbox is worth. -/
noncomputable def Try.pinned : Pinned := { name := "ytdifaomkaekglaa", sum := "0c347567fdf3b707960005b4a7ef93e053f79d27d2a0f8e730b698c3133ed715", checked := Try.checked }
namespace Rows
def none {H : Type} : Left H := { results := [], args := [] }

/-- 'scrimlaw17.BlockMeets': WHATEVER THE INPUT: true; the input reads as it did. -/
def blockMeetsSpec : ChangeSpec := { name := "blockMeets", fn := fun _ => fun
  | [d1, d2] => { results := [.lit (.bool true)], args := [d1, d2] }
  | _ => none }
def blockMeetsRow : OpenClaim := { program := "ytdifaomkaekglaa", sum := "0c347567fdf3b707960005b4a7ef93e053f79d27d2a0f8e730b698c3133ed715", func := "scrim/scrimlaw17.BlockMeets", spec := "blockMeets", unfollowed := true, recurses := true, apart := false }
def BlockMeetsSaid : Prop := blockMeetsRow.holds Try.pinned (OpenSpec.ofChange blockMeetsSpec)

/-- ITS FALSE NEIGHBOUR: 'it returns false'. Refute it at one input. -/
def blockMeetsWrong : ChangeSpec := { name := "blockMeets", fn := fun _ => fun
  | [d1, d2] => { results := [.lit (.bool false)], args := [d1, d2] }
  | _ => none }
def BlockMeetsWrongFalsely : Prop := blockMeetsRow.holds Try.pinned (OpenSpec.ofChange blockMeetsWrong)

/-- 'scrimlaw17.BlockStacks': WHATEVER THE INPUT: true; the input reads as it did. -/
def blockStacksSpec : ChangeSpec := { name := "blockStacks", fn := fun _ => fun
  | [d] => { results := [.lit (.bool true)], args := [d] }
  | _ => none }
def blockStacksRow : OpenClaim := { program := "ytdifaomkaekglaa", sum := "0c347567fdf3b707960005b4a7ef93e053f79d27d2a0f8e730b698c3133ed715", func := "scrim/scrimlaw17.BlockStacks", spec := "blockStacks", unfollowed := true, recurses := true, apart := false }
def BlockStacksSaid : Prop := blockStacksRow.holds Try.pinned (OpenSpec.ofChange blockStacksSpec)

/-- ITS FALSE NEIGHBOUR: 'it returns false'. Refute it at one input. -/
def blockStacksWrong : ChangeSpec := { name := "blockStacks", fn := fun _ => fun
  | [d] => { results := [.lit (.bool false)], args := [d] }
  | _ => none }
def BlockStacksWrongFalsely : Prop := blockStacksRow.holds Try.pinned (OpenSpec.ofChange blockStacksWrong)

/-- 'scrimlaw18.FlexTells': WHATEVER THE INPUT: true; the input reads as it did. -/
def flexTellsSpec : ChangeSpec := { name := "flexTells", fn := fun _ => fun
  | [d1, d2, d3, d4] => { results := [.lit (.bool true)], args := [d1, d2, d3, d4] }
  | _ => none }
def flexTellsRow : OpenClaim := { program := "ytdifaomkaekglaa", sum := "0c347567fdf3b707960005b4a7ef93e053f79d27d2a0f8e730b698c3133ed715", func := "scrim/scrimlaw18.FlexTells", spec := "flexTells", unfollowed := true, recurses := true, apart := false }
def FlexTellsSaid : Prop := flexTellsRow.holds Try.pinned (OpenSpec.ofChange flexTellsSpec)

/-- ITS FALSE NEIGHBOUR: 'it returns false'. Refute it at one input. -/
def flexTellsWrong : ChangeSpec := { name := "flexTells", fn := fun _ => fun
  | [d1, d2, d3, d4] => { results := [.lit (.bool false)], args := [d1, d2, d3, d4] }
  | _ => none }
def FlexTellsWrongFalsely : Prop := flexTellsRow.holds Try.pinned (OpenSpec.ofChange flexTellsWrong)

/-- 'scrimlaw18.FlexRoom': WHATEVER THE INPUT: true; the input reads as it did. -/
def flexRoomSpec : ChangeSpec := { name := "flexRoom", fn := fun _ => fun
  | [d1, d2] => { results := [.lit (.bool true)], args := [d1, d2] }
  | _ => none }
def flexRoomRow : OpenClaim := { program := "ytdifaomkaekglaa", sum := "0c347567fdf3b707960005b4a7ef93e053f79d27d2a0f8e730b698c3133ed715", func := "scrim/scrimlaw18.FlexRoom", spec := "flexRoom", unfollowed := true, recurses := true, apart := false }
def FlexRoomSaid : Prop := flexRoomRow.holds Try.pinned (OpenSpec.ofChange flexRoomSpec)

/-- ITS FALSE NEIGHBOUR: 'it returns false'. Refute it at one input. -/
def flexRoomWrong : ChangeSpec := { name := "flexRoom", fn := fun _ => fun
  | [d1, d2] => { results := [.lit (.bool false)], args := [d1, d2] }
  | _ => none }
def FlexRoomWrongFalsely : Prop := flexRoomRow.holds Try.pinned (OpenSpec.ofChange flexRoomWrong)

/-- 'scrimlaw18.FlexAlike': WHATEVER THE INPUT: true; the input reads as it did. -/
def flexAlikeSpec : ChangeSpec := { name := "flexAlike", fn := fun _ => fun
  | [d1, d2] => { results := [.lit (.bool true)], args := [d1, d2] }
  | _ => none }
def flexAlikeRow : OpenClaim := { program := "ytdifaomkaekglaa", sum := "0c347567fdf3b707960005b4a7ef93e053f79d27d2a0f8e730b698c3133ed715", func := "scrim/scrimlaw18.FlexAlike", spec := "flexAlike", unfollowed := true, recurses := true, apart := false }
def FlexAlikeSaid : Prop := flexAlikeRow.holds Try.pinned (OpenSpec.ofChange flexAlikeSpec)

/-- ITS FALSE NEIGHBOUR: 'it returns false'. Refute it at one input. -/
def flexAlikeWrong : ChangeSpec := { name := "flexAlike", fn := fun _ => fun
  | [d1, d2] => { results := [.lit (.bool false)], args := [d1, d2] }
  | _ => none }
def FlexAlikeWrongFalsely : Prop := flexAlikeRow.holds Try.pinned (OpenSpec.ofChange flexAlikeWrong)

/-- 'scrimlaw18.FlexStands': WHATEVER THE INPUT: true; the input reads as it did. -/
def flexStandsSpec : ChangeSpec := { name := "flexStands", fn := fun _ => fun
  | [d1, d2, d3] => { results := [.lit (.bool true)], args := [d1, d2, d3] }
  | _ => none }
def flexStandsRow : OpenClaim := { program := "ytdifaomkaekglaa", sum := "0c347567fdf3b707960005b4a7ef93e053f79d27d2a0f8e730b698c3133ed715", func := "scrim/scrimlaw18.FlexStands", spec := "flexStands", unfollowed := true, recurses := true, apart := false }
def FlexStandsSaid : Prop := flexStandsRow.holds Try.pinned (OpenSpec.ofChange flexStandsSpec)

/-- ITS FALSE NEIGHBOUR: 'it returns false'. Refute it at one input. -/
def flexStandsWrong : ChangeSpec := { name := "flexStands", fn := fun _ => fun
  | [d1, d2, d3] => { results := [.lit (.bool false)], args := [d1, d2, d3] }
  | _ => none }
def FlexStandsWrongFalsely : Prop := flexStandsRow.holds Try.pinned (OpenSpec.ofChange flexStandsWrong)

/-- 'scrimlaw18.FlexOrder': WHATEVER THE INPUT: true; the input reads as it did. -/
def flexOrderSpec : ChangeSpec := { name := "flexOrder", fn := fun _ => fun
  | [d] => { results := [.lit (.bool true)], args := [d] }
  | _ => none }
def flexOrderRow : OpenClaim := { program := "ytdifaomkaekglaa", sum := "0c347567fdf3b707960005b4a7ef93e053f79d27d2a0f8e730b698c3133ed715", func := "scrim/scrimlaw18.FlexOrder", spec := "flexOrder", unfollowed := true, recurses := true, apart := false }
def FlexOrderSaid : Prop := flexOrderRow.holds Try.pinned (OpenSpec.ofChange flexOrderSpec)

/-- ITS FALSE NEIGHBOUR: 'it returns false'. Refute it at one input. -/
def flexOrderWrong : ChangeSpec := { name := "flexOrder", fn := fun _ => fun
  | [d] => { results := [.lit (.bool false)], args := [d] }
  | _ => none }
def FlexOrderWrongFalsely : Prop := flexOrderRow.holds Try.pinned (OpenSpec.ofChange flexOrderWrong)

/- THE SECOND FORM. 'bulk': how many values and letters a reading holds, each counted each time it is reached (what is shared counts as often as it is met; a slice's spare places count too). A statement '..UptoSaid' is the law's where the arguments, and the package variables that the reading takes, are together of bulk at most 1048576: NARROWER than '..Said'. Prove '..Said' where nothing that the law and all that it calls make is longer than what came in: it says more and counts as full. Else prove '..UptoSaid'. A law counts once. -/
mutual
def uptoBulk {H : Type} : DataW H → Nat
  | .lit (.string bytes) => bytes.length + 1
  | .lit _ => 1
  | .nil => 1
  | .ptr d => uptoBulk d + 1
  | .slice elems spare => uptoBulkAll elems + uptoBulkAll spare + 1
  | .agg parts => uptoBulkAll parts + 1
  | .iface _ d => uptoBulk d + 1
  | .map entries => uptoBulkEntries entries + 1
  | .held _ => 1
def uptoBulkAll {H : Type} : List (DataW H) → Nat
  | [] => 0
  | d :: r => uptoBulk d + uptoBulkAll r
def uptoBulkEntries {H : Type} : List (Lit × DataW H) → Nat
  | [] => 0
  | x :: r => uptoBulkEntry x + uptoBulkEntries r
def uptoBulkEntry {H : Type} : Lit × DataW H → Nat
  | (.string bytes, d) => bytes.length + uptoBulk d + 1
  | (_, d) => uptoBulk d + 1
 end
def uptoSmall : (H : Type) → List (DataW H) → Bool := fun _ ds => decide (uptoBulkAll ds ≤ 1048576)
def OpenSpec.upto (s : _root_.Go.ChangeSpec) : _root_.Go.OpenSpec := { _root_.Go.OpenSpec.ofChange s with cond := some uptoSmall }

/-- 'scrimlaw17.BlockMeets', WHERE WHAT IT READS IS OF BULK AT MOST 1048576: true; the input reads as it did. -/
def blockMeetsUptoRow : OpenClaim := { program := "ytdifaomkaekglaa", sum := "0c347567fdf3b707960005b4a7ef93e053f79d27d2a0f8e730b698c3133ed715", func := "scrim/scrimlaw17.BlockMeets", spec := "blockMeets", unfollowed := true, recurses := true, apart := false, narrowed := true }
def BlockMeetsUptoSaid : Prop := blockMeetsUptoRow.holds Try.pinned (OpenSpec.upto blockMeetsSpec)

/-- 'scrimlaw17.BlockStacks', WHERE WHAT IT READS IS OF BULK AT MOST 1048576: true; the input reads as it did. -/
def blockStacksUptoRow : OpenClaim := { program := "ytdifaomkaekglaa", sum := "0c347567fdf3b707960005b4a7ef93e053f79d27d2a0f8e730b698c3133ed715", func := "scrim/scrimlaw17.BlockStacks", spec := "blockStacks", unfollowed := true, recurses := true, apart := false, narrowed := true }
def BlockStacksUptoSaid : Prop := blockStacksUptoRow.holds Try.pinned (OpenSpec.upto blockStacksSpec)

/-- 'scrimlaw18.FlexTells', WHERE WHAT IT READS IS OF BULK AT MOST 1048576: true; the input reads as it did. -/
def flexTellsUptoRow : OpenClaim := { program := "ytdifaomkaekglaa", sum := "0c347567fdf3b707960005b4a7ef93e053f79d27d2a0f8e730b698c3133ed715", func := "scrim/scrimlaw18.FlexTells", spec := "flexTells", unfollowed := true, recurses := true, apart := false, narrowed := true }
def FlexTellsUptoSaid : Prop := flexTellsUptoRow.holds Try.pinned (OpenSpec.upto flexTellsSpec)

/-- 'scrimlaw18.FlexRoom', WHERE WHAT IT READS IS OF BULK AT MOST 1048576: true; the input reads as it did. -/
def flexRoomUptoRow : OpenClaim := { program := "ytdifaomkaekglaa", sum := "0c347567fdf3b707960005b4a7ef93e053f79d27d2a0f8e730b698c3133ed715", func := "scrim/scrimlaw18.FlexRoom", spec := "flexRoom", unfollowed := true, recurses := true, apart := false, narrowed := true }
def FlexRoomUptoSaid : Prop := flexRoomUptoRow.holds Try.pinned (OpenSpec.upto flexRoomSpec)

/-- 'scrimlaw18.FlexAlike', WHERE WHAT IT READS IS OF BULK AT MOST 1048576: true; the input reads as it did. -/
def flexAlikeUptoRow : OpenClaim := { program := "ytdifaomkaekglaa", sum := "0c347567fdf3b707960005b4a7ef93e053f79d27d2a0f8e730b698c3133ed715", func := "scrim/scrimlaw18.FlexAlike", spec := "flexAlike", unfollowed := true, recurses := true, apart := false, narrowed := true }
def FlexAlikeUptoSaid : Prop := flexAlikeUptoRow.holds Try.pinned (OpenSpec.upto flexAlikeSpec)

/-- 'scrimlaw18.FlexStands', WHERE WHAT IT READS IS OF BULK AT MOST 1048576: true; the input reads as it did. -/
def flexStandsUptoRow : OpenClaim := { program := "ytdifaomkaekglaa", sum := "0c347567fdf3b707960005b4a7ef93e053f79d27d2a0f8e730b698c3133ed715", func := "scrim/scrimlaw18.FlexStands", spec := "flexStands", unfollowed := true, recurses := true, apart := false, narrowed := true }
def FlexStandsUptoSaid : Prop := flexStandsUptoRow.holds Try.pinned (OpenSpec.upto flexStandsSpec)

/-- 'scrimlaw18.FlexOrder', WHERE WHAT IT READS IS OF BULK AT MOST 1048576: true; the input reads as it did. -/
def flexOrderUptoRow : OpenClaim := { program := "ytdifaomkaekglaa", sum := "0c347567fdf3b707960005b4a7ef93e053f79d27d2a0f8e730b698c3133ed715", func := "scrim/scrimlaw18.FlexOrder", spec := "flexOrder", unfollowed := true, recurses := true, apart := false, narrowed := true }
def FlexOrderUptoSaid : Prop := flexOrderUptoRow.holds Try.pinned (OpenSpec.upto flexOrderSpec)

end Rows
end Go.Proofs.Ytdifaomkaekglaa
